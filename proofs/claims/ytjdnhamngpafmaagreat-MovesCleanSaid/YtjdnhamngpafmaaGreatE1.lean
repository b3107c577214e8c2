/-
  Texts bound together by a program of mine: YtakdmelemfnmdaaAva, YtakdmelemfnmdaaAvb, YtakdmelemfnmdaaAvc, YtakdmelemfnmdaaAvd, YtakdmelemfnmdaaAve, YtakdmelemfnmdaaAvf, YtakdmelemfnmdaaAvg, YtakdmelemfnmdaaAvh, YtakdmelemfnmdaaAvi, YtakdmelemfnmdaaAvj, YtakdmelemfnmdaaAvk, YtakdmelemfnmdaaAvx, YtakdmelemfnmdaaAvy.
-/
import Derived.Calls
import Derived.Orders
import Derived.Laws.AppendOwn
import Derived.Laws.OwnMore
import Derived.Laws.CopyRow
import Derived.Laws.Strings
import Derived.Lib.BufferMore
set_option linter.all false

namespace Go.Av
inductive m9 where
 | sh
 | ex
 | nn
 | tok (id:Nat)
 | loc (a:Addr)
inductive KT where
 | str
 | int (k:IntKind)
 | iter (cur:Option (Value×Value))
def KT.plain:KT->Prop
 | .iter _=>False
 | _=>True
def KT.ok:KT->Value->Prop
 | .str,.string _=>True
 | .int k,.int k' _=>k'=k
 | _,_=>False
inductive ae where
 | v (x:Value)
 | agg (cs:List ae)
 | aA (sz:Nat) (xs:List ae) (o:m9)
 | ip (oa:Option Addr) (cs:List ae)
 | mp (id off:Nat)
 | ms (id off len cap:Nat)
 | os (id len sz:Nat)
 | raw (sz n id:Nat)
 | mm (id:Nat)
 | im (kt:KT) (es:List (Value×ae))
 | fn (f:Fn) (first captured:List ae)
 | cw (vs:List ae)
instance:Inhabited ae:=⟨.v (.bool false)⟩
def ae.cells:ae->List ae
 | .agg cs=>cs
 | x=>[x]
def gK:Value->Prop
 | .int k n=>k.min<=n∧n<=k.max
 | .agg _=>False
 | .tuple _=>False
 | _=>True
def ae.scalar:ae->Prop
 | .agg _=>False
 | .cw _=>False
 | _=>True
inductive ak where
 | cells (cs:List ae)
 | spare (n:Nat)
 | map (kt:KT) (es:List (Value×ae))
 | gone
def ak.live:ak->Prop
 | .gone=>False
 | _=>True
def ak.aD:ak->Prop
 | .spare _=>True
 | _=>False
structure Loc where
 block:Nat
 lo:Nat
 sz:Nat
structure G where
 w:World
 fr:Nat->Nat->Prop
 env:List (Option Loc)
 objs:List ak
def G.cell(g:G)(b off:Nat):Option Value:=g.w.cell? ⟨b,off,none⟩
def jH(g:G)(b off:Nat):Prop :=
 ∃(id:Nat) (l:Loc) (o:ak),g.env[id]?=some (some l)∧g.objs[id]?=some o∧o.live∧l.block=b∧l.lo<=off
def fJ(g:G)(b:Nat):Prop :=
 ∃(id:Nat) (l:Loc) (o:ak),g.env[id]?=some (some l)∧g.objs[id]?=some o∧o.live∧l.block=b
def iX(g:G)(b off:Nat):Prop:=g.fr b off∨jH g b off
theorem jH.block{g:G}{b off:Nat}(h:jH g b off):fJ g b:=by
 obtain⟨id,l,o,h1,h2,h3,h4,_⟩:=h;exact⟨id,l,o,h1,h2,h3,h4⟩
def an(xs:List ae):List ae:=xs.flatMap ae.cells
def si(g:G)(o:m9)(a:Addr)(sz len cap:Nat):Prop :=
 match o with
 | .sh=>True
 | .nn=>True
 | .ex=>cap=len
 | .loc a'=>a=a'
 | .tok id=>id<g.objs.length∧∀m:Nat,g.objs[id]?=some (.spare m)->len<=m∧(len=m->cap=len ∨
   ∃(l:Loc) (arr:Array Value) (t:TypeId),g.env[id]?=some (some l)∧a=⟨l.block,0,none⟩∧l.lo=len*sz∧g.w.heap[l.block]?=some (.cells arr t (0,0))∧cap*sz<=arr.size)
def jf(arr:Array MapEntry)(clk:Nat):Prop :=
 (∀(i j:Nat) (e e':MapEntry),i<j->arr[i]?=some e->arr[j]?=some e'->e.born<e'.born)∧∀(i:Nat) (e:MapEntry),arr[i]?=some e->e.born<clk
inductive RV(g:G):ae->Value->Prop
 | v {x:Value} (h:gK x):RV g (.v x) x
 | agg {cs:List ae} {vs:Array Value} (hl:vs.size=cs.length) (df:∀c∈cs,c.scalar)
   (h:∀(i:Nat) c u,cs[i]?=some c->vs[i]?=some u->RV g c u):RV g (.agg cs) (.agg vs)
 | nil {sz:Nat} {o:m9} (ho:∀id,o=.tok id->id<g.objs.length) (hn:o≠.nn):RV g (.aA sz [] o) (.slice none 0 0)
 | aA {sz:Nat} {xs:List ae} {o:m9} {a:Addr} {cap:Nat} (cH:∀x∈xs,x.cells.length=sz) (df:∀x∈xs,∀c∈x.cells,c.scalar)
   (cP:xs.length<=cap) (cy:xs.length<=2 ^ 62) (hs:xs≠[]->a.spot=none) (f:Nat->Value)
   (hm:∀(j:Nat) (c:ae),(an xs)[j]?=some c->g.cell a.block (a.off+j)=some (f j)∧¬iX g a.block (a.off+j))
   (hr:∀(j:Nat) (c:ae),(an xs)[j]?=some c->RV g c (f j)) (ho:si g o a sz xs.length cap):RV g (.aA sz xs o) (.slice (some a) xs.length cap)
 | ip {oa:Option Addr} {cs:List ae} {b off:Nat} (ha:oa=none∨oa=some ⟨b,off,none⟩) (df:∀c∈cs,c.scalar) (f:Nat->Value)
   (hm:∀(j:Nat) (c:ae),cs[j]?=some c->g.cell b (off+j)=some (f j)∧¬iX g b (off+j))
   (hr:∀(j:Nat) (c:ae),cs[j]?=some c->RV g c (f j)):RV g (.ip oa cs) (.pointer (some ⟨b,off,none⟩))
 | mp {id off:Nat} {l:Loc} {o:ak} (he:g.env[id]?=some (some l)) (ho:g.objs[id]?=some o) (hn:¬o.aD) :
   RV g (.mp id off) (.pointer (some ⟨l.block,off,none⟩))
 | ms {id off len cap:Nat} {l:Loc} {o:ak} (he:g.env[id]?=some (some l)) (ho:g.objs[id]?=some o) (hn:¬o.aD) {gA:Nat} (hc:len<=cap) (qh:cap<=gA) (cy:len<=2 ^ 62) :
   RV g (.ms id off len cap) (.slice (some ⟨l.block,off,none⟩) len gA)
 | os {id len sz:Nat} {l:Loc} {o:ak} (he:g.env[id]?=some (some l)) (ho:g.objs[id]?=some o) (hn:¬o.aD) {cap:Nat} (hc:len<=cap) (hb:cap*sz<=l.sz) (cy:len<=2 ^ 62) :
   RV g (.os id len sz) (.slice (some ⟨l.block,0,none⟩) len cap)
 | raw {sz n id:Nat} {a:Addr} {cap:Nat} (hn:n<=cap) (ho:si g (.tok id) a sz 0 cap):RV g (.raw sz n id) (.slice (some a) n cap)
 | mm {id:Nat} {l:Loc} {o:ak} (he:g.env[id]?=some (some l)) (ho:g.objs[id]?=some o) (hn:¬o.aD):RV g (.mm id) (.map (some l.block))
 | im {kt:KT} {es:List (Value×ae)} {r clk:Nat} {arr:Array MapEntry} (hh:g.w.heap[r]?=some (.map arr clk)) (hn:∀off,¬iX g r off) (hl:arr.size=es.length)
   (hk:∀(i:Nat) e (kx:Value×ae),arr[i]?=some e->es[i]?=some kx->e.key=kx.1) (uN:∀p∈es,kt.ok p.1) (hb:jf arr clk)
   (hr:∀(i:Nat) e (kx:Value×ae),arr[i]?=some e->es[i]?=some kx->RV g kx.2 e.val):RV g (.im kt es) (.map (some r))
 | fn {f:Fn} {fs cs:List ae} {us vs:Array Value} (hl:us.size=fs.length) (zF:vs.size=cs.length)
   (h:∀(i:Nat) c u,fs[i]?=some c->us[i]?=some u->RV g c u) (h':∀(i:Nat) c u,cs[i]?=some c->vs[i]?=some u->RV g c u):RV g (.fn f fs cs) (.func f us vs)
 | cw {cs:List ae} {vs:Array Value} (hl:vs.size=cs.length)
   (h:∀(i:Nat) c u,cs[i]?=some c->vs[i]?=some u->RV g c u):RV g (.cw cs) (.tuple vs)
structure Le(g g':G):Prop where
 os:g'.w.os=g.w.os
 tape:g'.w.tape=g.w.tape
 output:g'.w.output=g.w.output
 fr:g'.fr=g.fr
 size:g.w.heap.size<=g'.w.heap.size
 block:∀k,k<g.w.heap.size->¬fJ g k->g'.w.heap[k]?=g.w.heap[k]?∧¬fJ g' k
 cell:∀b off x,g.cell b off=some x->¬jH g b off->g'.cell b off=some x∧¬jH g' b off
 len:g.objs.length<=g'.objs.length
 spare:∀(id:Nat) (m:Nat),g.objs[id]?=some (.spare m)->(∃m':Nat,g'.objs[id]?=some (.spare m')∧m<=m')∨∃o':ak,g'.objs[id]?=some o'∧¬o'.aD
 plain:∀(id:Nat) (o:ak),g.objs[id]?=some o->¬o.aD->(∃o':ak,g'.objs[id]?=some o'∧¬o'.aD)∧g'.env[id]?=g.env[id]?
 gone:∀id:Nat,g.objs[id]?=some .gone->g'.objs[id]?=some .gone
 tok:∀(id m:Nat),g.objs[id]?=some (.spare m)->g'.objs[id]?=some (.spare m)->g'.env[id]?=g.env[id]?∧∀l:Loc,g.env[id]?=some (some l)->g'.w.heap[l.block]?=g.w.heap[l.block]?
theorem Le.refl(g:G):Le g g where
 os:=rfl
 tape:=rfl
 output:=rfl
 fr:=rfl
 size:=Nat.le_refl _
 block:=fun _ _ h=>⟨rfl,h⟩
 cell:=fun _ _ _ h k=>⟨h,k⟩
 len:=Nat.le_refl _
 spare:=fun _ m h=>.inl ⟨m,h,Nat.le_refl _⟩
 plain:=fun _ o h k=>⟨⟨o,h,k⟩,rfl⟩
 gone:=fun _ h=>h
 tok:=fun _ _ _ _=>⟨rfl,fun _ _=>rfl⟩
theorem Le.trans{a b c:G}(h:Le a b)(k:Le b c):Le a c where
 os:=k.os.trans h.os
 tape:=k.tape.trans h.tape
 output:=k.output.trans h.output
 fr:=k.fr.trans h.fr
 size:=Nat.le_trans h.size k.size
 block:=fun i hi hn=>by
  obtain⟨h1,h2⟩:=h.block i hi hn;obtain⟨k1,k2⟩:=k.block i (Nat.lt_of_lt_of_le hi h.size) h2;exact⟨k1.trans h1,k2⟩
 cell:=fun b off x hx hn=>by
  obtain⟨h1,h2⟩:=h.cell b off x hx hn;exact k.cell b off x h1 h2
 len:=Nat.le_trans h.len k.len
 spare:=fun id m hm=>by
  rcases h.spare id m hm with⟨m',h1,h2⟩|⟨o',h1,h2⟩
  ·rcases k.spare id m' h1 with⟨Qn,k1,k2⟩|k1
   ·exact .inl ⟨Qn,k1,Nat.le_trans h2 k2⟩
   exact .inr k1
  exact .inr (k.plain id o' h1 h2).1
 plain:=fun id o ho hn=>by
  obtain⟨⟨o',h1,h2⟩,h3⟩:=h.plain id o ho hn;obtain⟨k1,k3⟩:=k.plain id o' h1 h2;exact⟨k1,k3.trans h3⟩
 gone:=fun id hg=>k.gone id (h.gone id hg)
 tok:=fun id m ha hc=>by
  rcases h.spare id m ha with⟨m',h1,h2⟩|⟨o',h1,h2⟩
  ·rcases k.spare id m' h1 with⟨Qn,k1,k2⟩|⟨o',k1,k2⟩
   ·rw[k1]at hc;simp only[Option.some.injEq,ak.spare.injEq]at hc;have:m'=m:=by omega
    subst this;subst hc;obtain⟨e1,e2⟩:=h.tok id _ ha h1;obtain⟨e3,e4⟩:=k.tok id _ h1 k1;refine⟨e3.trans e1,fun l hl=>?_⟩;exact(e4 l (e1.trans hl)).trans (e2 l hl)
   rw[k1]at hc;simp only[Option.some.injEq]at hc;exact absurd (hc ▸ trivial) k2
  obtain⟨⟨TK,k1,k2⟩,_⟩:=k.plain id o' h1 h2;rw[k1]at hc;simp only[Option.some.injEq]at hc;exact absurd (hc ▸ trivial) k2
theorem Le.TM{g g':G}(h:Le g g'){b off:Nat}{x:Value}(hx:g.cell b off=some x)(hn:¬iX g b off):g'.cell b off=some x∧¬iX g' b off:=by
 obtain⟨h1,h2⟩:=h.cell b off x hx fun hh=>hn (.inr hh);refine⟨h1,?_⟩;rintro(hf|hl)
 ·exact hn (.inl (h.fr ▸ hf))
 exact h2 hl
theorem I{α:Type}{l:List α}{i:Nat}{x:α}(h:l[i]?=some x):i<l.length:=by
 rcases Nat.lt_or_ge i l.length with h1|h1
 ·exact h1
 rw[List.getElem?_eq_none h1]at h;cases h
theorem aU{α:Type}{l:Array α}{i:Nat}{x:α}(h:l[i]?=some x):i<l.size:=by
 rcases Nat.lt_or_ge i l.size with h1|h1
 ·exact h1
 rw[Array.getElem?_eq_none h1]at h;cases h
theorem si.mono{g g':G}(h:Le g g'){o:m9}{a:Addr}{sz len cap:Nat}(k:si g o a sz len cap):si g' o a sz len cap:=by
 cases o with
 | sh=>trivial
 | nn=>trivial
 | ex=>exact k
 | loc a=>exact k
 | tok id =>
  obtain⟨bf,hk⟩:=k;refine⟨Nat.lt_of_lt_of_le bf h.len,fun m' dS=>?_⟩;have ho:g.objs[id]?=some g.objs[id]:=List.getElem?_eq_getElem bf;cases iC:g.objs[id]with
  | spare m =>
   rw[iC]at ho;obtain⟨h1,h2⟩:=hk m ho;rcases h.spare id m ho with⟨Qn,k1,k2⟩|⟨o',k1,k2⟩
   ·rw[k1]at dS;simp only[Option.some.injEq,ak.spare.injEq]at dS;subst dS;refine⟨Nat.le_trans h1 k2,fun e=>?_⟩;have VF:m=Qn:=by omega
    subst VF;obtain⟨e1,e2⟩:=h.tok id m ho k1;rcases h2 (by omega)with e3|⟨l,arr,t,q1,q2,q3,q4,q5⟩
    ·exact .inl e3
    exact .inr ⟨l,arr,t,e1.trans q1,q2,q3,(e2 l q1).trans q4,q5⟩
   rw[k1]at dS;simp only[Option.some.injEq]at dS;exact absurd (dS ▸ trivial) k2
  | gone =>
   rw[iC]at ho;rw[h.gone id ho]at dS;simp at dS
  | cells cs =>
   rw[iC]at ho;obtain⟨⟨o',q1,q2⟩,_⟩:=h.plain id _ ho (by simp[ak.aD]);rw[q1]at dS;simp only[Option.some.injEq]at dS;subst dS;simp[ak.aD]at q2
  | map kt es =>
   rw[iC]at ho;obtain⟨⟨o',q1,q2⟩,_⟩:=h.plain id _ ho (by simp[ak.aD]);rw[q1]at dS;simp only[Option.some.injEq]at dS;subst dS;simp[ak.aD]at q2
theorem Le.stay{g g':G}(h:Le g g'){r clk:Nat}{arr:Array MapEntry}(hh:g.w.heap[r]?=some (.map arr clk))(hn:∀off,¬iX g r off):g'.w.heap[r]?=some (.map arr clk)∧∀off,¬iX g' r off:=by
 have bf:=aU hh;have hb:¬fJ g r:=by
  rintro⟨id,l,o,h1,h2,h3,h4⟩;exact hn l.lo (.inr ⟨id,l,o,h1,h2,h3,h4,Nat.le_refl _⟩)
 obtain⟨q1,q2⟩:=h.block _ bf hb;refine⟨q1.trans hh,?_⟩;rintro off (hf|hf)
 ·exact hn off (.inl (h.fr ▸ hf))
 exact q2 hf.block
theorem RV.mono{g g':G}(h:Le g g'){x:ae}{u:Value}(k:RV g x u):RV g' x u:=by
 induction k with
 | v hx=>exact .v hx
 | agg hl df _ ih=>exact .agg hl df ih
 | nil ho hn=>exact .nil (fun id e=>Nat.lt_of_lt_of_le (ho id e) h.len) hn
 | aA cH df cP cy hs f hm _ ho ih=>exact .aA cH df cP cy hs f (fun j c hj=>h.TM (hm j c hj).1 (hm j c hj).2) ih (ho.mono h)
 | ip ha df f hm _ ih=>exact .ip ha df f (fun j c hj=>h.TM (hm j c hj).1 (hm j c hj).2) ih
 | mp he ho hn =>
  obtain⟨⟨o',q1,q2⟩,q3⟩:=h.plain _ _ ho hn;exact .mp (q3.trans he) q1 q2
 | ms he ho hn hc qh cy =>
  obtain⟨⟨o',q1,q2⟩,q3⟩:=h.plain _ _ ho hn;exact .ms (q3.trans he) q1 q2 hc qh cy
 | os he ho hn hc hb cy =>
  obtain⟨⟨o',q1,q2⟩,q3⟩:=h.plain _ _ ho hn;exact .os (q3.trans he) q1 q2 hc hb cy
 | raw hn ho=>exact .raw hn (ho.mono h)
 | mm he ho hn =>
  obtain⟨⟨o',q1,q2⟩,q3⟩:=h.plain _ _ ho hn;exact .mm (q3.trans he) q1 q2
 | im hh hn hl hk uN hb _ ih =>
  obtain⟨q1,q2⟩:=h.stay hh hn;exact .im q1 q2 hl hk uN hb ih
 | fn hl zF _ _ ih EO=>exact .fn hl zF ih EO
 | cw hl _ ih=>exact .cw hl ih
def sg(g:G)(kt:KT)(es:List (Value×ae))(ob:Obj):Prop :=
 ∃(arr:Array MapEntry) (clk:Nat),ob=.map arr clk∧arr.size=es.length∧(∀p∈es,kt.ok p.1) ∧
  (∀(i:Nat) (e:MapEntry) (kx:Value×ae),arr[i]?=some e->es[i]?=some kx->e.key=kx.1∧gK kx.1∧RV g kx.2 e.val)∧jf arr clk
def B5(g:G)(cur:Option (Value×Value))(es:List (Value×ae))(ob:Obj):Prop :=
 ∃(m clk last:Nat) (seen:Array Nat) (arr:Array MapEntry),ob=.mapIter (some m) clk seen last∧g.w.heap[m]?=some (.map arr clk)∧(∀off,¬iX g m off)∧jf arr clk∧(seen≠#[]->last=clk) ∧
  (∀(i:Nat) (e:MapEntry),arr[i]?=some e->gK e.key∧gK e.val)∧es=(arr.toList.filter fun e=>!seen.contains e.born).map (fun e=>(e.key,ae.v e.val)) ∧
  ∀k x,cur=some (k,x)->∃(i:Nat) (e:MapEntry),arr[i]?=some e∧seen.back?=some e.born∧e.key=k∧e.val=x
def G4(g:G)(kt:KT)(es:List (Value×ae))(ob:Obj):Prop :=
 match kt with
 | .iter cur=>B5 g cur es ob
 | kt=>sg g kt es ob
theorem G4.imp{g g':G}{kt:KT}{es:List (Value×ae)}{ob:Obj}(h:G4 g kt es ob)(th:∀p∈es,∀u,RV g p.2 u->RV g' p.2 u)
  (Y2:∀(m clk:Nat) (arr:Array MapEntry),g.w.heap[m]?=some (.map arr clk)->(∀off,¬iX g m off)->g'.w.heap[m]?=some (.map arr clk)∧∀off,¬iX g' m off):G4 g' kt es ob:=by
 have key:∀kt,sg g kt es ob->sg g' kt es ob:=fun kt h=>by
  obtain⟨arr,clk,e1,e2,e3,e4,e5⟩:=h;exact⟨arr,clk,e1,e2,e3,fun i e kx a b=>⟨(e4 i e kx a b).1,(e4 i e kx a b).2.1,th kx (List.mem_of_getElem? b) _ (e4 i e kx a b).2.2⟩,e5⟩
 cases kt with
 | str=>exact key _ h
 | int k=>exact key _ h
 | iter cur =>
  obtain⟨m,clk,last,seen,arr,e1,e2,e3,e4⟩:=h;obtain⟨q1,q2⟩:=Y2 m clk arr e2 e3;exact⟨m,clk,last,seen,arr,e1,q1,q2,e4⟩
theorem G4.mono{g g':G}{kt:KT}{es:List (Value×ae)}{ob:Obj}(h:G4 g kt es ob)(hle:Le g g'):G4 g' kt es ob :=
 h.imp (fun _ _ _ q=>q.mono hle) fun _ _ _ q1 q2=>hle.stay q1 q2
theorem G4.map{g:G}{kt:KT}{es:List (Value×ae)}{ob:Obj}(h:G4 g kt es ob)(hp:kt.plain):sg g kt es ob:=by
 cases kt with
 | str=>exact h
 | int k=>exact h
 | iter cur=>exact hp.elim
theorem sg.XP{g:G}{kt:KT}{es:List (Value×ae)}{ob:Obj}(h:sg g kt es ob)(hp:kt.plain):G4 g kt es ob:=by
 cases kt with
 | str=>exact h
 | int k=>exact h
 | iter cur=>exact hp.elim
structure Good(g:G):Prop where
 frlt:∀b off,g.fr b off->b<g.w.heap.size
 fm:∀(id:Nat) (l:Loc) (o:ak),g.env[id]?=some (some l)->g.objs[id]?=some o->o.live->∀off,¬g.fr l.block off
 len:g.env.length=g.objs.length
 loc:∀(id:Nat) (l:Loc) (o:ak),g.env[id]?=some (some l)->g.objs[id]?=some o->o.live->l.block<g.w.heap.size
 apart:∀(id lE:Nat) (l l':Loc) (o o':ak),g.env[id]?=some (some l)->g.objs[id]?=some o->o.live->g.env[lE]?=some (some l')->g.objs[lE]?=some o'->o'.live->l.block=l'.block->id=lE
 cells:∀(id:Nat) (cs:List ae),g.objs[id]?=some (.cells cs)->∃(l:Loc) (arr:Array Value) (t:TypeId),g.env[id]?=some (some l)∧l.lo=0∧g.w.heap[l.block]?=some (.cells arr t (0,0))∧cs.length<=arr.size ∧
  (∀(j:Nat) (c:ae) (u:Value),cs[j]?=some c->arr[j]?=some u->RV g c u)∧(∀c∈cs,c.scalar)∧l.sz<=arr.size
 spare:∀(id m:Nat) (l:Loc),g.objs[id]?=some (.spare m)->g.env[id]?=some (some l)->∃(arr:Array Value) (t:TypeId),g.w.heap[l.block]?=some (.cells arr t (0,0))
 map:∀(id:Nat) (kt:KT) (es:List (Value×ae)),g.objs[id]?=some (.map kt es)->∃(l:Loc) (ob:Obj),g.env[id]?=some (some l)∧l.lo=0∧g.w.heap[l.block]?=some ob∧G4 g kt es ob
structure St where
 n:Nat
 bn:List (Nat×ae)
 objs:List ak
def look:List (Nat×ae)->Nat->Option ae
 | [],_=>none
 | (k,x)::r,s=>if k=s then some x else look r s
def a8(d:Nat):List (Nat×ae)->List (Nat×ae)
 | []=>[]
 | (k,x)::r=>if k=d then a8 d r else(k,x)::a8 d r
def bw(d:Nat)(x:ae)(l:List (Nat×ae)):List (Nat×ae):=(d,x)::a8 d l
theorem jE{d s:Nat}(h:d≠s):∀l:List (Nat×ae),look (a8 d l) s=look l s
 | []=>rfl
 | (k,x)::r=>by
  have ih:=jE h r;unfold a8;split
  ·rename_i hk;subst hk;simp[look,h,ih]
  simp only[look,ih]
theorem lG{d:Nat}:∀l:List (Nat×ae),look (a8 d l) d=none
 | []=>rfl
 | (k,x)::r=>by
  have ih:=lG (d:=d) r;unfold a8;split
  ·exact ih
  rename_i hk;simp[look,hk,ih]
theorem fP(d s:Nat)(x:ae)(l:List (Nat×ae)):look (bw d x l) s=if d=s then some x else look l s:=by
 unfold bw;simp only[look];split
 ·rfl
 rename_i h;exact jE h l
def St.get(σ:St)(s:Nat):Option ae:=look σ.bn s
structure Rel(base:G)(σ:St)(a:Act)(g:G):Prop where
 le:Le base g
 good:Good g
 objs:g.objs=σ.objs
 size:a.tmps.size=σ.n
 defers:a.defers=[]
 slot:∀(s:Nat) (x:ae),σ.get s=some x->∃u,a.tmps[s]?=some u∧RV g x u
theorem Rel.put{base:G}{σ:St}{a:Act}{g g':G}(h:Rel base σ a g)(hl:Le g g')(hg:Good g'){d:Nat}(hd:d<σ.n){r:ae}{u:Value}(hr:RV g' r u) :
  Rel base ⟨σ.n,bw d r σ.bn,g'.objs⟩ (a.put (some d) u) g' where
 le:=h.le.trans hl
 good:=hg
 objs:=rfl
 size:=by simp[Act.put,h.size]
 defers:=by simp[Act.put,h.defers]
 slot:=fun s x hx=>by
  simp only[St.get,fP]at hx;split at hx
  ·rename_i tw;subst tw;simp only[Option.some.injEq]at hx;subst hx;exact⟨u,by simp[Act.put,h.size,hd],hr⟩
  rename_i tw;obtain⟨y,hy,Tk⟩:=h.slot s x hx;exact⟨y,by simp[Act.put,Array.getElem?_setIfInBounds_ne tw,hy],Tk.mono hl⟩
theorem Rel.step{base:G}{σ:St}{a:Act}{g g':G}(h:Rel base σ a g)(hl:Le g g')(hg:Good g'):Rel base ⟨σ.n,σ.bn,g'.objs⟩ a g' where
 le:=h.le.trans hl
 good:=hg
 objs:=rfl
 size:=h.size
 defers:=h.defers
 slot:=fun s x hx=>by
  obtain⟨y,hy,Tk⟩:=h.slot s x hx;exact⟨y,hy,Tk.mono hl⟩
theorem Rel.forget{base:G}{σ:St}{a:Act}{g:G}(h:Rel base σ a g)(d:Nat)(u:Value):Rel base ⟨σ.n,a8 d σ.bn,σ.objs⟩ (a.put (some d) u) g where
 le:=h.le
 good:=h.good
 objs:=h.objs
 size:=by simp[Act.put,h.size]
 defers:=by simp[Act.put,h.defers]
 slot:=fun s x hx=>by
  by_cases tw:d=s
  ·subst tw;simp[St.get,lG]at hx
  simp only[St.get,jE tw]at hx;obtain⟨y,hy,Tk⟩:=h.slot s x hx;exact⟨y,by simp[Act.put,Array.getElem?_setIfInBounds_ne tw,hy],Tk⟩
theorem Le.heap{g:G}{w':World}(h1:w'.heap=g.w.heap)(h2:w'.os=g.w.os)(h3:w'.tape=g.w.tape)(h4:w'.output=g.w.output):Le g ⟨w',g.fr,g.env,g.objs⟩ where
 os:=h2
 tape:=h3
 output:=h4
 fr:=rfl
 size:=by simp[h1]
 block:=fun k _ h=>⟨by simp[h1],h⟩
 cell:=fun b off x hx hn=>⟨by simpa[G.cell,World.cell?,h1]using hx,hn⟩
 len:=Nat.le_refl _
 spare:=fun _ m h=>.inl ⟨m,h,Nat.le_refl _⟩
 plain:=fun _ o h k=>⟨⟨o,h,k⟩,rfl⟩
 gone:=fun _ h=>h
 tok:=fun _ _ _ _=>⟨rfl,fun _ _=>by simp[h1]⟩
theorem Good.heap{g:G}{w':World}(hg:Good g)(h1:w'.heap=g.w.heap)(h2:w'.os=g.w.os)(h3:w'.tape=g.w.tape)(h4:w'.output=g.w.output):Good ⟨w',g.fr,g.env,g.objs⟩ where
 frlt:=fun b off h=>by simpa[h1]using hg.frlt b off h
 fm:=hg.fm
 len:=hg.len
 loc:=fun id l o a b c=>by simpa[h1]using hg.loc id l o a b c
 apart:=hg.apart
 cells:=fun id cs h=>by
  obtain⟨l,arr,t,e1,e0,e2,e3,e4,e5⟩:=hg.cells id cs h;exact⟨l,arr,t,e1,e0,by simpa[h1]using e2,e3,fun j c u a b=>(e4 j c u a b).mono (Le.heap h1 h2 h3 h4),e5⟩
 spare:=fun id m l a b=>by simpa[h1]using hg.spare id m l a b
 map:=fun id kt es h=>by
  obtain⟨l,ob,e1,e0,e2,e3⟩:=hg.map id kt es h;exact⟨l,ob,e1,e0,by simpa[h1]using e2,e3.mono (Le.heap h1 h2 h3 h4)⟩
theorem cI(w:World)(o:Obj){k:Nat}(h:k<w.heap.size):(w.alloc o).heap[k]?=w.heap[k]?:=by
 simp only[World.alloc];rw[Array.getElem?_push,if_neg (by omega)]
theorem cF(w:World)(o:Obj):(w.alloc o).heap[w.heap.size]?=some o:=by
 simp only[World.alloc];rw[Array.getElem?_push,if_pos rfl]
theorem oF{g:G}{b off:Nat}{x:Value}(h:g.cell b off=some x):b<g.w.heap.size:=by
 simp only[G.cell,World.cell?]at h;split at h
 ·rename_i hh;exact aU hh
 cases h
theorem ji{w w':World}{b:Nat}(h:w'.heap[b]?=w.heap[b]?)(off:Nat):w'.cell? ⟨b,off,none⟩=w.cell? ⟨b,off,none⟩:=by
 simp only[World.cell?,h]
def G.push(g:G)(o:Obj):G:=⟨g.w.alloc o,g.fr,g.env,g.objs⟩
theorem Le.push(g:G)(hg:Good g)(o:Obj):Le g (g.push o) where
 os:=rfl
 tape:=rfl
 output:=rfl
 fr:=rfl
 size:=by show g.w.heap.size<=(g.w.heap.push o).size;rw[Array.size_push];omega
 block:=fun k hk h=>⟨cI _ _ hk,h⟩
 cell:=fun b off x hx hn=>⟨by
  have:=oF hx;simpa[G.cell,G.push,ji (cI g.w o this)]using hx,hn⟩
 len:=Nat.le_refl _
 spare:=fun _ m h=>.inl ⟨m,h,Nat.le_refl _⟩
 plain:=fun _ o h k=>⟨⟨o,h,k⟩,rfl⟩
 gone:=fun _ h=>h
 tok:=fun id m h _=>⟨rfl,fun l hl=>cI _ _ (hg.loc id l _ hl h trivial)⟩
theorem Good.push{g:G}(hg:Good g)(o:Obj):Good (g.push o) where
 frlt:=fun b off h=>by
  have:=hg.frlt b off h;show b<(g.w.heap.push o).size;rw[Array.size_push];omega
 fm:=hg.fm
 len:=hg.len
 loc:=fun id l o' a b c=>by
  have:=hg.loc id l o' a b c;show l.block<(g.w.heap.push o).size;rw[Array.size_push];omega
 apart:=hg.apart
 cells:=fun id cs h=>by
  obtain⟨l,arr,t,e1,e0,e2,e3,e4,e5⟩:=hg.cells id cs h;exact⟨l,arr,t,e1,e0,(cI _ _ (aU e2)).trans e2,e3,fun j c u a b=>(e4 j c u a b).mono (Le.push g hg o),e5⟩
 spare:=fun id m l a b=>by
  obtain⟨arr,t,e⟩:=hg.spare id m l a b;exact⟨arr,t,(cI _ _ (aU e)).trans e⟩
 map:=fun id kt es h=>by
  obtain⟨l,ob,e1,e0,e2,e3⟩:=hg.map id kt es h;exact⟨l,ob,e1,e0,(cI _ _ (aU e2)).trans e2,e3.mono (Le.push g hg o)⟩
def G.add(g:G)(l:Option Loc)(o:ak):G:=⟨g.w,g.fr,g.env++[l],g.objs++[o]⟩
theorem aP{α:Type}{l:List α}{x:α}{i:Nat}{y:α}(h:(l++[x])[i]?=some y):l[i]?=some y∨(i=l.length∧y=x):=by
 rw[List.getElem?_append]at h;split at h
 ·exact .inl h
 rename_i hh;have:i-l.length<1:=by
  rcases Nat.lt_or_ge (i-l.length) 1 with q|q
  ·exact q
  rw[List.getElem?_eq_none (by simpa using q)]at h;cases h
 have e:i=l.length:=by omega
 subst e;simp at h;exact .inr ⟨rfl,h.symm⟩
theorem c4{α:Type}{l:List α}{x:α}{i:Nat}{y:α}(h:l[i]?=some y):(l++[x])[i]?=some y:=by
 rw[List.getElem?_append,if_pos (I h)];exact h
theorem jH.add{g:G}(hg:Good g){l:Option Loc}{o:ak}{b off:Nat}(h:jH (g.add l o) b off):jH g b off∨∃l',l=some l'∧o.live∧l'.block=b∧l'.lo<=off:=by
 obtain⟨id,l',o',h1,h2,h3,h4,h5⟩:=h;rcases aP h1 with q1|⟨q1,ON⟩
 ·rcases aP h2 with q2|⟨q2,ME⟩
  ·exact .inl ⟨id,l',o',q1,q2,h3,h4,h5⟩
  have:=I q1;have:=hg.len;omega
 rcases aP h2 with q2|⟨q2,ME⟩
 ·have:=I q2;have:=hg.len;omega
 subst ME;exact .inr ⟨l',ON.symm,h3,h4,h5⟩
theorem fJ.add{g:G}(hg:Good g){l:Option Loc}{o:ak}{b:Nat}(h:fJ (g.add l o) b):fJ g b∨∃l',l=some l'∧o.live∧l'.block=b:=by
 obtain⟨id,l',o',h1,h2,h3,h4⟩:=h;rcases jH.add hg ⟨id,l',o',h1,h2,h3,h4,Nat.le_refl _⟩with q|⟨q,q1,q2,q3,_⟩
 ·exact .inl q.block
 exact .inr ⟨q,q1,q2,q3⟩
def lP:Obj->Nat
 | .cells arr _=>arr.size
 | _=>0
def G.alloc(g:G)(ob:Obj)(lo:Nat)(o:ak):G:=⟨g.w.alloc ob,g.fr,g.env++[some ⟨g.w.heap.size,lo,lP ob⟩],g.objs++[o]⟩
def G.mark(g:G)(o:ak):G:=⟨g.w,g.fr,g.env++[none],g.objs++[o]⟩
theorem Le.Ho{g g':G}(hg:Good g)(l:Option Loc)(o:ak)(h:Le g g')(he:g'.env=g.env)(ho:g'.objs=g.objs)
  (hn:∀l',l=some l'->g.w.heap.size<=l'.block):Le g (g'.add l o) where
 os:=h.os
 tape:=h.tape
 output:=h.output
 fr:=h.fr
 size:=h.size
 block:=fun k hk hh=>⟨(h.block k hk hh).1,fun q=>by
  obtain⟨id,l',o',h1,h2,h3,h4⟩:=q;rw[show(g'.add l o).env=g.env++[l] by simp[G.add,he]]at h1;rw[show(g'.add l o).objs=g.objs++[o] by simp[G.add,ho]]at h2;rcases fJ.add (l:=l) (o:=o) (b:=k) hg ⟨id,l',o',h1,h2,h3,h4⟩with q|⟨l',q1,_,q3⟩
  ·exact hh q
  have:=hn l' q1;omega⟩
 cell:=fun b off x hx hh=>⟨(h.cell b off x hx hh).1,fun q=>by
  obtain⟨id,l',o',h1,h2,h3,h4⟩:=q;rw[show(g'.add l o).env=g.env++[l] by simp[G.add,he]]at h1;rw[show(g'.add l o).objs=g.objs++[o] by simp[G.add,ho]]at h2;have hk:=oF hx;rcases jH.add (l:=l) (o:=o) (b:=b) (off:=off) hg ⟨id,l',o',h1,h2,h3,h4⟩with q|⟨l',q1,_,q3,_⟩
  ·exact hh q
  have:=hn l' q1;omega⟩
 len:=by simp[G.add,ho]
 spare:=fun id m hm=>.inl ⟨m,by simp only[G.add,ho];exact c4 hm,Nat.le_refl _⟩
 plain:=fun id o' iD k=>⟨⟨o',by simp only[G.add,ho];exact c4 iD,k⟩,by
  have bf:=I iD;simp only[G.add,he];rw[List.getElem?_append,if_pos (by have:=hg.len;omega)]⟩
 gone:=fun id hm=>by simp only[G.add,ho];exact c4 hm
 tok:=fun id m hm _=>⟨by
  have bf:=I hm;simp only[G.add,he];rw[List.getElem?_append,if_pos (by have:=hg.len;omega)],fun l hl=>(h.tok id m hm (by rw[ho];exact hm)).2 l hl⟩
theorem Le.alloc{g:G}(hg:Good g)(ob:Obj)(lo:Nat)(o:ak):Le g (g.alloc ob lo o) :=
 Le.Ho (g':=g.push ob) hg (some ⟨g.w.heap.size,lo,lP ob⟩) o (Le.push g hg ob) rfl rfl (fun l' h=>by simp at h;subst h;exact Nat.le_refl _)
theorem Le.mark{g:G}(hg:Good g)(o:ak):Le g (g.mark o) :=
 Le.Ho (g':=g) hg none o (Le.refl g) rfl rfl (fun l' h=>by simp at h)
def Fits(g':G)(ob:Obj)(o:ak):Prop :=
 match o with
 | .cells cs=>∃(arr:Array Value) (t:TypeId),ob=.cells arr t (0,0)∧cs.length<=arr.size∧(∀(j:Nat) (c:ae) (u:Value),cs[j]?=some c->arr[j]?=some u->RV g' c u)∧∀c∈cs,c.scalar
 | .spare _=>∃(arr:Array Value) (t:TypeId),ob=.cells arr t (0,0)
 | .map kt es=>G4 g' kt es ob
 | .gone=>True
theorem Good.alloc{g:G}(hg:Good g)(ob:Obj)(lo:Nat)(o:ak)(ix:o.aD∨lo=0)(hf:Fits (g.alloc ob lo o) ob o):Good (g.alloc ob lo o) where
 frlt:=fun b off h=>by
  have:=hg.frlt b off h;show b<(g.w.heap.push ob).size;rw[Array.size_push];omega
 fm:=fun id l o' a b c off hf=>by
  rcases aP a with a|⟨a,a'⟩
  ·rcases aP b with b|⟨b,b'⟩
   ·exact hg.fm id l o' a b c off hf
   have:=I a;have:=hg.len;omega
  simp only[Option.some.injEq]at a';subst a';have ff:g.fr g.w.heap.size off:=hf;have:=hg.frlt _ _ ff;omega
 len:=by simp[G.alloc,hg.len]
 loc:=fun id l o' a b c=>by
  show l.block<(g.w.heap.push ob).size;rw[Array.size_push];rcases aP a with a|⟨a,a'⟩
  ·rcases aP b with b|⟨b,b'⟩
   ·have:=hg.loc id l o' a b c;omega
   have:=I a;have:=hg.len;omega
  simp only[Option.some.injEq]at a';subst a';show g.w.heap.size<_;omega
 apart:=fun id lE l l' o' TK a b c a' b' c' hb=>by
  rcases aP a with a|⟨a1,a2⟩
  ·rcases aP a' with a'|⟨Wv,RA⟩
   ·rcases aP b with b|⟨b1,b2⟩
    ·rcases aP b' with b'|⟨Ww,Wx⟩
     ·exact hg.apart id lE l l' o' TK a b c a' b' c' hb
     have:=I a';have:=hg.len;omega
    have:=I a;have:=hg.len;omega
   simp only[Option.some.injEq]at RA;subst RA;rcases aP b with b|⟨b1,b2⟩
   ·have:=hg.loc id l o' a b c;simp at hb;omega
   have:=I a;have:=hg.len;omega
  rcases aP a' with a'|⟨Wv,RA⟩
  ·simp only[Option.some.injEq]at a2;subst a2;rcases aP b' with b'|⟨Ww,Wx⟩
   ·have:=hg.loc lE l' TK a' b' c';simp at hb;omega
   have:=I a';have:=hg.len;omega
  omega
 cells:=fun id cs h=>by
  rcases aP h with h|⟨hq,h'⟩
  ·obtain⟨l,arr,t,e1,e0,e2,e3,e4,e5⟩:=hg.cells id cs h;exact⟨l,arr,t,c4 e1,e0,(cI _ _ (aU e2)).trans e2,e3,fun j c u a b=>(e4 j c u a b).mono (Le.alloc hg ob lo o),e5⟩
  subst h';obtain⟨arr,t,e1,e2,e3,e4⟩:=hf;refine⟨⟨g.w.heap.size,lo,lP ob⟩,arr,t,?_,?_,?_,e2,e3,e4,by rw[e1];exact Nat.le_refl _⟩
  ·subst hq;simp only[G.alloc];rw[<-hg.len];simp
  ·rcases ix with q|q
   ·exact q.elim
   exact q
  rw[<-e1];exact cF _ _
 spare:=fun id m l a b=>by
  rcases aP a with a|⟨a,a'⟩
  ·rcases aP b with b|⟨b1,b2⟩
   ·obtain⟨arr,t,e⟩:=hg.spare id m l a b;exact⟨arr,t,(cI _ _ (aU e)).trans e⟩
   have:=I a;have:=hg.len;omega
  rcases aP b with b|⟨b1,b2⟩
  ·have:=I b;have:=hg.len;omega
  subst a';simp only[Option.some.injEq]at b2;subst b2;obtain⟨arr,t,e⟩:=hf;exact⟨arr,t,by rw[<-e];exact cF _ _⟩
 map:=fun id kt es h=>by
  rcases aP h with h|⟨hq,h'⟩
  ·obtain⟨l,ZT,e1,e0,e2,e3⟩:=hg.map id kt es h;exact⟨l,ZT,c4 e1,e0,(cI _ _ (aU e2)).trans e2,e3.mono (Le.alloc hg ob lo o)⟩
  subst h';refine⟨⟨g.w.heap.size,lo,lP ob⟩,ob,?_,?_,?_,hf⟩
  ·subst hq;simp only[G.alloc];rw[<-hg.len];simp
  ·rcases ix with q|q
   ·exact q.elim
   exact q
  exact cF _ _
theorem Good.mark{g:G}(hg:Good g)(m:Nat):Good (g.mark (.spare m)) where
 frlt:=hg.frlt
 fm:=fun id l o' a b c off hf=>by
  rcases aP a with a|⟨a,a'⟩
  ·rcases aP b with b|⟨b,b'⟩
   ·exact hg.fm id l o' a b c off hf
   have:=I a;have:=hg.len;omega
  cases a'
 len:=by simp[G.mark,hg.len]
 loc:=fun id l o' a b c=>by
  rcases aP a with a|⟨a,a'⟩
  ·rcases aP b with b|⟨b,b'⟩
   ·exact hg.loc id l o' a b c
   have:=I a;have:=hg.len;omega
  cases a'
 apart:=fun id lE l l' o' TK a b c a' b' c' hb=>by
  rcases aP a with a|⟨a1,a2⟩
  ·rcases aP a' with a'|⟨Wv,RA⟩
   ·rcases aP b with b|⟨b1,b2⟩
    ·rcases aP b' with b'|⟨Ww,Wx⟩
     ·exact hg.apart id lE l l' o' TK a b c a' b' c' hb
     have:=I a';have:=hg.len;omega
    have:=I a;have:=hg.len;omega
   cases RA
  cases a2
 cells:=fun id cs h=>by
  rcases aP h with h|⟨h,h'⟩
  ·obtain⟨l,arr,t,e1,e0,e2,e3,e4,e5⟩:=hg.cells id cs h;exact⟨l,arr,t,c4 e1,e0,e2,e3,fun j c u a b=>(e4 j c u a b).mono (Le.mark hg _),e5⟩
  cases h'
 spare:=fun id m' l a b=>by
  rcases aP b with b|⟨b1,b2⟩
  ·rcases aP a with a|⟨a,a'⟩
   ·exact hg.spare id m' l a b
   have:=I b;have:=hg.len;omega
  cases b2
 map:=fun id kt es h=>by
  rcases aP h with h|⟨h,h'⟩
  ·obtain⟨l,ob,e1,e0,e2,e3⟩:=hg.map id kt es h;exact⟨l,ob,c4 e1,e0,e2,e3.mono (Le.mark hg _)⟩
  cases h'
def G.bu(g:G)(id:Nat)(l':Option Loc)(o':ak)(w':World):G:=⟨w',g.fr,g.env.set id l',g.objs.set id o'⟩
structure kC(g:G)(id:Nat)(o:ak)(l':Option Loc)(o':ak)(w':World):Prop where
 obj:g.objs[id]?=some o
 os:w'.os=g.w.os
 tape:w'.tape=g.w.tape
 output:w'.output=g.w.output
 size:g.w.heap.size<=w'.heap.size
 block:∀k,k<g.w.heap.size->(∀l:Loc,g.env[id]?=some (some l)->o.live->l.block≠k)->w'.heap[k]?=g.w.heap[k]?
 cell:∀b off x,g.cell b off=some x->(∀l:Loc,g.env[id]?=some (some l)->o.live->l.block=b->off<l.lo)->w'.cell? ⟨b,off,none⟩=some x
 place:∀l1:Loc,l'=some l1->o'.live->g.w.heap.size<=l1.block∨∃l:Loc,g.env[id]?=some (some l)∧o.live∧l.block=l1.block∧l.lo<=l1.lo
 spare:∀m,o=.spare m->(∃m',o'=.spare m'∧m<m')∨¬o'.aD
 plain:¬o.aD->¬o'.aD∧g.env[id]?=some l'
 gone:o≠.gone
theorem iM{g:G}(hg:Good g){id:Nat}{o:ak}(h:g.objs[id]?=some o):id<g.env.length:=by
 have:=I h;have:=hg.len;omega
theorem jH.bu{g:G}{id:Nat}{o:ak}{l':Option Loc}{o':ak}{w':World}(hg:Good g)(ht:kC g id o l' o' w'){b off:Nat}(h:jH (g.bu id l' o' w') b off) :
  jH g b off∨g.w.heap.size<=b:=by
 obtain⟨i,l1,o1,h1,h2,h3,h4,h5⟩:=h;simp only[G.bu]at h1 h2;by_cases e:id=i
 ·subst e;rw[List.getElem?_set_self (iM hg ht.obj)]at h1;rw[List.getElem?_set_self (I ht.obj)]at h2;simp only[Option.some.injEq]at h1 h2;subst h2;rcases ht.place l1 h1 h3 with q|⟨l,q1,q2,q3,q4⟩
  ·exact .inr (h4 ▸ q)
  exact .inl ⟨id,l,o,q1,ht.obj,q2,q3.trans h4,Nat.le_trans q4 h5⟩
 rw[List.getElem?_set_ne e]at h1 h2;exact .inl ⟨i,l1,o1,h1,h2,h3,h4,h5⟩
theorem fJ.bu{g:G}{id:Nat}{o:ak}{l':Option Loc}{o':ak}{w':World}(hg:Good g)(ht:kC g id o l' o' w'){b:Nat}(h:fJ (g.bu id l' o' w') b) :
  fJ g b∨g.w.heap.size<=b:=by
 obtain⟨i,l1,o1,h1,h2,h3,h4⟩:=h;rcases jH.bu hg ht ⟨i,l1,o1,h1,h2,h3,h4,Nat.le_refl _⟩with q|q
 ·exact .inl q.block
 exact .inr q
theorem Le.bu{g:G}{id:Nat}{o:ak}{l':Option Loc}{o':ak}{w':World}(hg:Good g)(ht:kC g id o l' o' w'):Le g (g.bu id l' o' w') where
 os:=ht.os
 tape:=ht.tape
 output:=ht.output
 fr:=rfl
 size:=ht.size
 block:=fun k hk hn=>⟨ht.block k hk fun l hl lk e=>hn ⟨id,l,o,hl,ht.obj,lk,e⟩,fun hh=>by
  rcases fJ.bu hg ht hh with q|q
  ·exact hn q
  omega⟩
 cell:=fun b off x hx hn=>⟨ht.cell b off x hx fun l hl lk e=>by
   rcases Nat.lt_or_ge off l.lo with q|q
   ·exact q
   exact absurd ⟨id,l,o,hl,ht.obj,lk,e,q⟩ hn,fun hh=>by
  rcases jH.bu hg ht hh with q|q
  ·exact hn q
  have:=oF hx;omega⟩
 len:=by simp[G.bu]
 spare:=fun i m hm=>by
  by_cases e:id=i
  ·subst e;have dS:=hm.symm.trans ht.obj;simp only[Option.some.injEq]at dS;rcases ht.spare m dS.symm with⟨m',q1,q2⟩|q1
   ·exact .inl ⟨m',by simp only[G.bu];rw[List.getElem?_set_self (I ht.obj),q1],by omega⟩
   exact .inr ⟨o',by simp only[G.bu];rw[List.getElem?_set_self (I ht.obj)],q1⟩
  exact .inl ⟨m,by simp only[G.bu];rw[List.getElem?_set_ne e];exact hm,Nat.le_refl _⟩
 plain:=fun i o1 ho hn=>by
  by_cases e:id=i
  ·subst e;have iD:=ho.symm.trans ht.obj;simp only[Option.some.injEq]at iD;subst iD;obtain⟨q1,q2⟩:=ht.plain hn;exact⟨⟨o',by simp only[G.bu];rw[List.getElem?_set_self (I ht.obj)],q1⟩,by simp only[G.bu];rw[List.getElem?_set_self (iM hg ht.obj),q2]⟩
  exact⟨⟨o1,by simp only[G.bu];rw[List.getElem?_set_ne e];exact ho,hn⟩,by simp only[G.bu];rw[List.getElem?_set_ne e]⟩
 gone:=fun i hi=>by
  by_cases e:id=i
  ·subst e;have:=hi.symm.trans ht.obj;simp only[Option.some.injEq]at this;exact absurd this.symm ht.gone
  simp only[G.bu];rw[List.getElem?_set_ne e];exact hi
 tok:=fun i m hm dS=>by
  by_cases e:id=i
  ·subst e;have h1:=hm.symm.trans ht.obj;simp only[Option.some.injEq]at h1;simp only[G.bu]at dS;rw[List.getElem?_set_self (I ht.obj)]at dS;simp only[Option.some.injEq]at dS;rcases ht.spare m h1.symm with⟨m',q1,q2⟩|q1
   ·rw[q1]at dS;simp only[ak.spare.injEq]at dS;omega
   exact absurd (dS ▸ trivial) q1
  refine⟨by simp only[G.bu];rw[List.getElem?_set_ne e],fun l hl=>ht.block _ (hg.loc i l _ hl hm trivial) fun l1 AI lk eb=>?_⟩;exact e (hg.apart id i l1 l o _ AI ht.obj lk hl hm trivial eb)
def OY(g':G)(l':Option Loc)(o:ak):Prop :=
 match o with
 | .cells cs=>∃(l:Loc) (arr:Array Value) (t:TypeId),l'=some l∧l.lo=0∧g'.w.heap[l.block]?=some (.cells arr t (0,0))∧cs.length<=arr.size ∧
   (∀(j:Nat) (c:ae) (u:Value),cs[j]?=some c->arr[j]?=some u->RV g' c u)∧(∀c∈cs,c.scalar)∧l.sz<=arr.size
 | .spare _=>∀l,l'=some l->∃(arr:Array Value) (t:TypeId),g'.w.heap[l.block]?=some (.cells arr t (0,0))
 | .map kt es=>∃(l:Loc) (ob:Obj),l'=some l∧l.lo=0∧g'.w.heap[l.block]?=some ob∧G4 g' kt es ob
 | .gone=>True
theorem Good.bu{g:G}{id:Nat}{o:ak}{l':Option Loc}{o':ak}{w':World}(hg:Good g)(ht:kC g id o l' o' w')(hf:OY (g.bu id l' o' w') l' o')
  (cH:∀l1,l'=some l1->o'.live->l1.block<w'.heap.size):Good (g.bu id l' o' w'):=by
 have hle:=Le.bu hg ht;have AF:∀i l1,i≠id->(g.bu id l' o' w').env[i]?=some (some l1)->g.env[i]?=some (some l1):=fun i l1 cq h=>by
  simp only[G.bu]at h
  rwa [List.getElem?_set_ne (Ne.symm cq)]at h
 have iC:∀i o1,i≠id->(g.bu id l' o' w').objs[i]?=some o1->g.objs[i]?=some o1:=fun i l1 cq h=>by
  simp only[G.bu]at h
  rwa [List.getElem?_set_ne (Ne.symm cq)]at h
 have AG:∀l1,(g.bu id l' o' w').env[id]?=some l1->l'=l1:=fun l1 h=>by
  simp only[G.bu]at h;rw[List.getElem?_set_self (iM hg ht.obj)]at h;simpa using h
 have uR:∀o1,(g.bu id l' o' w').objs[id]?=some o1->o'=o1:=fun l1 h=>by
  simp only[G.bu]at h;rw[List.getElem?_set_self (I ht.obj)]at h;simpa using h
 have uJ:∀i l1 o1,i≠id->g.env[i]?=some (some l1)->g.objs[i]?=some o1->o1.live->w'.heap[l1.block]?=g.w.heap[l1.block]?:=fun i l1 o1 cq h1 h2 h3 =>
  ht.block _ (hg.loc i l1 o1 h1 h2 h3) fun l2 zG lk eb=>cq (hg.apart id i l2 l1 o o1 zG ht.obj lk h1 h2 h3 eb).symm
 refine⟨fun b off h=>Nat.lt_of_lt_of_le (hg.frlt b off h) ht.size,?_,?_,?_,?_,?_,?_,?_⟩
 ·intro i l1 o1 h1 h2 h3 off Sw;have nC:g.fr l1.block off:=Sw;by_cases e:i=id
  ·subst e;have q1:=AG _ h1;have q2:=uR _ h2;subst q2;rcases ht.place l1 q1 h3 with q|⟨l,p1,p2,p3,_⟩
   ·have:=hg.frlt _ _ nC;omega
   exact hg.fm i l o p1 ht.obj p2 off (p3 ▸ nC)
  exact hg.fm i l1 o1 (AF i l1 e h1) (iC i o1 e h2) h3 off nC
 ·simp[G.bu,hg.len]
 ·intro i l1 o1 h1 h2 h3;by_cases e:i=id
  ·subst e;have:=AG _ h1;have:=uR _ h2;subst this;exact cH l1 (by assumption) h3
  have:=hg.loc i l1 o1 (AF i l1 e h1) (iC i o1 e h2) h3;exact Nat.lt_of_lt_of_le this ht.size
 ·intro i j l1 l2 o1 o2 h1 h2 h3 k1 k2 k3 hb;by_cases e:i=id
  ·by_cases e':j=id
   ·omega
   subst e;have q1:=AG _ h1;have q2:=uR _ h2;subst q2;have r1:=AF j l2 e' k1;have r2:=iC j o2 e' k2;rcases ht.place l1 q1 h3 with q|⟨l,p1,p2,p3,_⟩
   ·have:=hg.loc j l2 o2 r1 r2 k3;omega
   exact hg.apart i j l l2 o o2 p1 ht.obj p2 r1 r2 k3 (p3.trans hb)
  by_cases e':j=id
  ·subst e';have q1:=AG _ k1;have q2:=uR _ k2;subst q2;have r1:=AF i l1 e h1;have r2:=iC i o1 e h2;rcases ht.place l2 q1 k3 with q|⟨l,p1,p2,p3,_⟩
   ·have:=hg.loc i l1 o1 r1 r2 h3;omega
   exact hg.apart i j l1 l o1 o r1 r2 h3 p1 ht.obj p2 (hb.trans p3.symm)
  exact hg.apart i j l1 l2 o1 o2 (AF i l1 e h1) (iC i o1 e h2) h3 (AF j l2 e' k1) (iC j o2 e' k2) k3 hb
 ·intro i cs h;by_cases e:i=id
  ·subst e;have q:=uR _ h;subst q;obtain⟨l,arr,t,p1,p2,p3,p4,p5,p6⟩:=hf;exact⟨l,arr,t,by simp only[G.bu];rw[List.getElem?_set_self (iM hg ht.obj),p1],p2,p3,p4,p5,p6⟩
  obtain⟨l,arr,t,p1,p2,p3,p4,p5,p6⟩:=hg.cells i cs (iC i _ e h);exact⟨l,arr,t,by simp only[G.bu];rw[List.getElem?_set_ne (Ne.symm e)];exact p1,p2,(uJ i l _ e p1 (iC i _ e h) trivial).trans p3,p4,fun j c u a b=>(p5 j c u a b).mono hle,p6⟩
 ·intro i m l1 h h1;by_cases e:i=id
  ·subst e;have q:=uR _ h;subst q;exact hf l1 (AG _ h1)
  obtain⟨arr,t,p⟩:=hg.spare i m l1 (iC i _ e h) (AF i l1 e h1);exact⟨arr,t,(uJ i l1 _ e (AF i l1 e h1) (iC i _ e h) trivial).trans p⟩
 intro i kt es h;by_cases e:i=id
 ·subst e;have q:=uR _ h;subst q;obtain⟨l,ob,p1,p2,p3,p4⟩:=hf;exact⟨l,ob,by simp only[G.bu];rw[List.getElem?_set_self (iM hg ht.obj),p1],p2,p3,p4⟩
 obtain⟨l,ob,p1,p2,p3,p4⟩:=hg.map i kt es (iC i _ e h);exact⟨l,ob,by simp only[G.bu];rw[List.getElem?_set_ne (Ne.symm e)];exact p1,p2,(uJ i l _ e p1 (iC i _ e h) trivial).trans p3,p4.mono hle⟩
end Go.Av
namespace Go.Av
inductive TD where
 | other
 | struct (fs:List (Nat×TypeId))
 | slice (e:TypeId)
 | array (n:Nat) (e:TypeId)
 | map (k e:TypeId)
structure b6 where
 size:Nat
 bytes:Nat
 zero:List ae
 desc:TD
def TD.agg:TD->Bool
 | .struct _ | .array _ _=>true
 | _=>false
def rF(d:TypeDesc):TD->Prop
 | .struct fs=>∃fields:Array Field,d=.struct fields∧fields.toList.map (fun f=>(f.offset,f.type))=fs
 | .slice e=>d=.slice e
 | .array n e=>d=.array n e
 | .map k e=>d=.map k e
 | .other=>(match d with | .struct _=>False | .array _ _=>False | _=>True)
structure Ea(P:Program)(t:TypeId)(ti:b6):Prop where
 info:∃(i:TypeInfo) (z:Value),P.info? t=some i∧i.size=ti.size∧i.bytes=ti.bytes∧i.zero=some z∧z.cells.size=ti.zero.length∧ti.zero.length=ti.size ∧
  ((ti.desc.agg=true->∃cs,z=.agg cs)∧(ti.desc.agg=false->z.cells = #[z]))∧(∀g:G,∀(j:Nat) (c:ae) (u:Value),ti.zero[j]?=some c->z.cells[j]?=some u->RV g c u)∧∀c∈ti.zero,c.scalar
 desc:∃d,P.underlying t=some d∧rF d ti.desc
abbrev ez:=TypeId->Option b6
def bT(P:Program)(aR:ez):Prop:=∀t ti,aR t=some ti->Ea P t ti
def KZ:IntKind->Int
 | .i8=>-128
 | .i16=>-32768
 | .i32=>-2147483648
 | .i64=>-9223372036854775808
 | _=>0
def FX:IntKind->Int
 | .i8=>127
 | .i16=>32767
 | .i32=>2147483647
 | .i64=>9223372036854775807
 | .u8=>255
 | .u16=>65535
 | .u32=>4294967295
 | .u64=>18446744073709551615
theorem yM(k:IntKind):KZ k=k.min:=by cases k<;>rfl
theorem yE(k:IntKind):FX k=k.max:=by cases k<;>rfl
def rr:Value->Option ae
 | .int k n=>if KZ k<=n∧n<=FX k then some (.v (.int k n))else none
 | .agg _=>none
 | .tuple _=>none
 | x=>some (.v x)
def St.ev(σ:St):Operand->Option ae
 | .tmp t=>σ.get t
 | .const x=>rr x
 | .func f=>some (.fn (.func f) [] [])
 | .global _=>none
theorem Rel.eval{base:G}{σ:St}{a:Act}{g:G}(h:Rel base σ a g){x:Operand}{y:ae}(hx:σ.ev x=some y):RV g y (a.eval x):=by
 cases x with
 | tmp t =>
  obtain⟨u,h1,h2⟩:=h.slot t y hx;have:a.eval (.tmp t)=u:=by simp[Act.eval,Array.getD_eq_getD_getElem?,h1]
  rw[this];exact h2
 | const v =>
  simp only[St.ev]at hx;unfold rr at hx;split at hx
  ·split at hx
   ·rename_i hh;simp only[Option.some.injEq]at hx;subst hx;rw[yM,yE]at hh;exact .v hh
   cases hx
  ·cases hx
  ·cases hx
  rename_i h1 h2 h3;simp only[Option.some.injEq]at hx;subst hx;refine .v ?_;unfold gK;split
  ·rename_i k n;exact absurd rfl (h1 k n)
  ·rename_i cs;exact absurd rfl (h2 cs)
  ·rename_i vs;exact absurd rfl (h3 vs)
  trivial
 | func f =>
  simp only[St.ev,Option.some.injEq]at hx;subst hx;exact .fn rfl rfl (by simp) (by simp)
 | global _=>cases hx
inductive Mode where
 | pure
 | read
 | rd (id:Nat)
 | write (O:List ak)
 | wr (n:Nat) (l:List Nat) (O:List ak)
 | new (id:Nat) (o:ak)
def Mode.post(m:Mode)(O:List ak):List ak :=
 match m with
 | .write O'=>O'
 | .wr _ _ O'=>O'
 | .new id o=>O.set id o
 | _=>O
def Mode.agree(m:Mode)(O O0:List ak):Prop :=
 match m with
 | .pure=>True
 | .rd id=>O[id]?=O0[id]?
 | .new id _=>O[id]?=O0[id]?
 | _=>O=O0
def Mode.ok(m:Mode)(O:List ak):Prop :=
 match m with
 | .wr n l O'=>∀i,i<n->i ∉ l->O'[i]?=O[i]?
 | _=>True
theorem Mode.qj{m:Mode}{O O0:List ak}(h:m=.pure∨O=O0):m.agree O O0:=by
 rcases h with h|h
 ·subst h;trivial
 subst h;cases m<;>first|trivial|rfl
def pc(d:Option Nat)(r:ae)(l:List (Nat×ae)):List (Nat×ae) :=
 match d with
 | some d=>bw d r l
 | none=>l
def Cert(P:Program)(o:Oper)(pe:St)(r:ae)(m:Mode):Prop :=
 m.ok pe.objs∧∀(base:G) (σ:St) (a:Act) (g:G),Rel base σ a g->σ.n=pe.n->(∀x∈o.op.operands,∀y,pe.ev x=some y->σ.ev x=some y)->m.agree σ.objs pe.objs ->
  ∀(K:Act->World->Prop) (Q:Exit->Act->World->Prop),(∀u g',Rel base ⟨σ.n,pc o.dst r σ.bn,m.post σ.objs⟩ (a.put o.dst u) g'->K (a.put o.dst u) g'.w)->o.wp P a g.w K Q
theorem Cert.tG{P:Program}{o:Oper}{pe:St}{r:ae}{m:Mode}(k8:m.ok pe.objs)(hd:∀d,o.dst=some d->d<pe.n)
  (h:∀(base:G) (σ:St) (a:Act) (g:G),Rel base σ a g->(∀x∈o.op.operands,∀y,pe.ev x=some y->RV g y (a.eval x))->m.agree g.objs pe.objs ->
   ∃u g',((execOp a.eval o).run P g.w=.ok (.value u) g'.w∨(o.dst=none∧(execOp a.eval o).run P g.w=.ok .skip g'.w))∧Le g g'∧Good g'∧g'.objs=m.post g.objs∧RV g' r u):Cert P o pe r m:=by
 refine⟨k8,?_⟩;intro base σ a g bE hn mf hm K Q hK;obtain⟨u,g',bF,hle,c8,S4,th⟩:=h base σ a g bE (fun x hx y hy=>bE.eval (mf x hx y hy)) (by rw[bE.objs];exact hm);have key:Rel base ⟨σ.n,pc o.dst r σ.bn,m.post σ.objs⟩ (a.put o.dst u) g':=by
  have e:g'.objs=m.post σ.objs:=by rw[S4,bE.objs]
  cases iZ:o.dst with
  | none =>
   have:=bE.step hle c8;rw[e]at this;exact this
  | some d =>
   have:=bE.put hle c8 (d:=d) (by rw[hn];exact hd d iZ) th;rw[e]at this;exact this
 unfold Oper.wp;rcases bF with bF|⟨po,bF⟩
 ·rw[bF,Oper.upon_value];exact hK u g' key
 rw[bF,Oper.upon_skip];have:=hK u g' key;rw[po]at this ⊢;exact this
def Mode.plain:Mode->Prop
 | .rd _=>False
 | .wr _ _ _=>False
 | .new _ _=>False
 | _=>True
theorem Mode.Bk{m:Mode}(hp:m.plain){O O0:List ak}(h:m.agree O O0):m=.pure∨O=O0:=by
 cases m<;>first|exact .inl rfl|exact .inr h|exact hp.elim
theorem Cert.iy{P:Program}{o:Oper}{pe:St}{r:ae}{m:Mode}(hd:∀d,o.dst=some d->d<pe.n)
  (h:∀(base:G) (σ:St) (a:Act) (g:G),Rel base σ a g->(∀x∈o.op.operands,∀y,pe.ev x=some y->RV g y (a.eval x))->(m=.pure∨g.objs=pe.objs) ->
   ∃u g',((execOp a.eval o).run P g.w=.ok (.value u) g'.w∨(o.dst=none∧(execOp a.eval o).run P g.w=.ok .skip g'.w))∧Le g g'∧Good g'∧g'.objs=m.post g.objs∧RV g' r u) (hp:m.plain:=by trivial):Cert P o pe r m :=
 Cert.tG (by cases m<;>first|trivial|exact hp.elim) hd fun base σ a g bE mf hm=>h base σ a g bE mf (m.Bk hp hm)
theorem Cert.close{P:Program}{o:Oper}{pe:St}{r:ae}{O':List ak}(h:Cert P o pe r (.write O')){n:Nat}{l:List Nat}(hk:∀i,i<n->i ∉ l->O'[i]?=pe.objs[i]?):Cert P o pe r (.wr n l O'):=⟨hk,h.2⟩
theorem Cert.bL{P:Program}{o:Oper}{pe:St}{r:ae}(m:Mode)(hm:m=.pure∨m=.read)(hd:∀d,o.dst=some d->d<pe.n)
  (h:∀(a:Act) (g:G),Good g->(∀x∈o.op.operands,∀y,pe.ev x=some y->RV g y (a.eval x))->(m=.pure∨g.objs=pe.objs) ->
   ∃u,(execOp a.eval o).run P g.w=.ok (.value u) g.w∧RV g r u):Cert P o pe r m :=
 Cert.iy (hp:=by rcases hm with hm|hm<;>subst hm<;>trivial) hd fun base σ a g bE mf ho=>by
  obtain⟨u,h1,h2⟩:=h a g bE.good mf ho;refine⟨u,g,.inl h1,Le.refl g,bE.good,?_,h2⟩;rcases hm with hm|hm<;>subst hm<;>rfl
theorem Cert.MB{P:Program}{o:Oper}{pe:St}{r:ae}{id:Nat}(hd:∀d,o.dst=some d->d<pe.n)
  (h:∀(a:Act) (g:G),Good g->(∀x∈o.op.operands,∀y,pe.ev x=some y->RV g y (a.eval x))->g.objs[id]?=pe.objs[id]? ->
   ∃u,(execOp a.eval o).run P g.w=.ok (.value u) g.w∧RV g r u):Cert P o pe r (.rd id) :=
 Cert.tG trivial hd fun base σ a g bE mf ho=>by
  obtain⟨u,h1,h2⟩:=h a g bE.good mf ho;exact⟨u,g,.inl h1,Le.refl g,bE.good,rfl,h2⟩
theorem addr_add(b off j:Nat):(⟨b,off,none⟩:Addr).add j=⟨b,off+j,none⟩:=by
 unfold Addr.add;split
 ·rename_i h;subst h;rfl
 rfl
section
variable {P:Program} {t:TypeId} {ti:b6}
theorem Ea.sizeOf(h:Ea P t ti)(w:World):(Go.sizeOf t).run P w=.ok ti.size w:=by
 obtain⟨⟨i,z,h1,h2,_⟩,_⟩:=h;simp[Go.sizeOf,typeInfo,h1,h2]
theorem Ea.isAgg(h:Ea P t ti)(w:World):(Go.isAgg t).run P w=.ok ti.desc.agg w:=by
 obtain⟨_,d,h1,h2⟩:=h;simp only[Go.isAgg,Go.underlying,Sem.run_bind,run_program,Result.andThen_ok,h1];cases hd:ti.desc<;>rw[hd]at h2<;>simp only[rF]at h2
 ·cases d<;>simp_all [TD.agg]
 ·obtain⟨fs,h3,_⟩:=h2;subst h3;simp[TD.agg]
 ·subst h2;simp[TD.agg]
 ·subst h2;simp[TD.agg]
 subst h2;simp[TD.agg]
theorem Ea.zeroValue(h:Ea P t ti):∃z,(∀w,(Go.zeroValue t).run P w=.ok z w)∧z.cells.size=ti.zero.length∧ti.zero.length=ti.size∧(ti.desc.agg=true->∃cs,z=.agg cs) ∧
  (∀g:G,∀(j:Nat) (c:ae) (u:Value),ti.zero[j]?=some c->z.cells[j]?=some u->RV g c u)∧∀c∈ti.zero,c.scalar:=by
 obtain⟨⟨i,z,h1,h2,h3,h4,h5,h6,h7,h8,h9⟩,_⟩:=h;exact⟨z,fun w=>by simp[Go.zeroValue,typeInfo,h1,h4],h5,h6,h7.1,h8,h9⟩
theorem Ea.nY(h:Ea P t ti)(eM:ti.desc.agg=true)(w:World)(b off:Nat)(f:Nat->Value)(hc:∀j,j<ti.size->w.cell? ⟨b,off+j,none⟩=some (f j)) :
  (loadVar t ⟨b,off,none⟩).run P w=.ok (.agg ((List.range ti.size).map f).toArray) w:=by
 have hl:=run_loadCells (P:=P) w ⟨b,off,none⟩ ti.size f (fun j hj=>by rw[addr_add];exact hc j hj);simp[loadVar,h.isAgg,h.sizeOf,eM,hl]
theorem Ea.mL(h:Ea P t ti)(eM:ti.desc.agg=false)(w:World)(a:Addr)(u:Value)(hc:w.cell? a=some u):(loadVar t a).run P w=.ok u w:=by
 simp[loadVar,h.isAgg,eM,hc]
end
theorem m8(k:IntKind)(n:Int)(h1:k.min<=n)(h2:n<=k.max):k.wrap n=n:=by
 cases k<;>simp[IntKind.min,IntKind.max,IntKind.wrap,IntKind.bits,IntKind.signed]at *<;>omega
theorem RV.iA{g:G}{x:ae}{u:Value}(h:RV g x u)(hs:x.scalar):u.oneCell'=true∧u.cells = #[u]:=by
 cases h with
 | v hx =>
  cases u<;>simp[gK]at hx<;>simp[Value.oneCell',Value.cells]
 | agg=>exact hs.elim
 | cw=>exact hs.elim
 | nil=>simp[Value.oneCell',Value.cells]
 | aA=>simp[Value.oneCell',Value.cells]
 | ip=>simp[Value.oneCell',Value.cells]
 | mp=>simp[Value.oneCell',Value.cells]
 | ms=>simp[Value.oneCell',Value.cells]
 | os=>simp[Value.oneCell',Value.cells]
 | raw=>simp[Value.oneCell',Value.cells]
 | mm=>simp[Value.oneCell',Value.cells]
 | im=>simp[Value.oneCell',Value.cells]
 | fn=>simp[Value.oneCell',Value.cells]
theorem RV.cells{g:G}{x:ae}{u:Value}(h:RV g x u)(hs:∀c∈x.cells,c.scalar):u.cells.size=x.cells.length∧∀(j:Nat) (c:ae) (e:Value),x.cells[j]?=some c->u.cells[j]?=some e->RV g c e:=by
 by_cases hx:x.scalar
 ·have:=(h.iA hx).2;have hc:x.cells=[x]:=by
   cases x<;>simp[ae.scalar]at hx<;>rfl
  rw[this,hc];refine⟨rfl,fun j c e h1 h2=>?_⟩
  match j,h1,h2 with
  | 0,h1,h2 =>
   simp at h1 h2;subst h1;subst h2;exact h
 cases h with
 | agg hl df hh=>exact⟨hl,hh⟩
 | cw=>exact absurd (hs _ (List.mem_singleton.2 rfl)) (by simp[ae.scalar])
 | _=>exact absurd trivial hx
theorem wF{α:Type}(l:List α)(n:Nat)(f:Nat->α)(hn:l.length=n)(h:∀j,j<n->l[j]?=some (f j)):(List.range n).map f=l:=by
 apply List.ext_getElem?;intro i;rcases Nat.lt_or_ge i n with hi|hi
 ·rw[h i hi];simp[hi]
 rw[List.getElem?_eq_none (by simpa using hi),List.getElem?_eq_none (by omega)]
theorem RV.ofRow{g:G}(cs:List ae)(f:Nat->Value)(df:∀c∈cs,c.scalar)(hr:∀(j:Nat)(c:ae),cs[j]?=some c->RV g c (f j)):RV g (.agg cs) (.agg ((List.range cs.length).map f).toArray) :=
 .agg (by simp) df fun i c u h1 h2=>by
  have hi:=I h1;simp[hi]at h2;subst h2;exact hr i c h1
theorem RV.bZ{g:G}{x u:Value}(h:RV g (.v x) u):u=x∧gK x:=by
 cases h with
 | v h=>exact⟨rfl,h⟩
theorem RV.nX{g:G}{oa:Option Addr}{cs:List ae}{u:Value}(h:RV g (.ip oa cs) u):∃(b off:Nat) (f:Nat->Value),u=.pointer (some ⟨b,off,none⟩)∧(oa=none∨oa=some ⟨b,off,none⟩)∧(∀c∈cs,c.scalar) ∧
  (∀(j:Nat) (c:ae),cs[j]?=some c->g.cell b (off+j)=some (f j)∧¬iX g b (off+j))∧∀(j:Nat) (c:ae),cs[j]?=some c->RV g c (f j):=by
 cases h with
 | ip ha df f hm hr=>exact⟨_,_,f,rfl,ha,df,hm,hr⟩
theorem RV.kO{g:G}{id off:Nat}{u:Value}(h:RV g (.mp id off) u):∃(l:Loc) (o:ak),g.env[id]?=some (some l)∧g.objs[id]?=some o∧¬o.aD∧u=.pointer (some ⟨l.block,off,none⟩):=by
 cases h with
 | mp he ho hn=>exact⟨_,_,he,ho,hn,rfl⟩
theorem RV.n5{g:G}{id off len cap:Nat}{u:Value}(h:RV g (.ms id off len cap) u):∃(l:Loc) (o:ak),g.env[id]?=some (some l)∧g.objs[id]?=some o∧¬o.aD∧len<=cap∧len<=2 ^ 62∧∃gA,cap<=gA∧u=.slice (some ⟨l.block,off,none⟩) len gA:=by
 cases h with
 | ms he ho hn hc qh cy=>exact⟨_,_,he,ho,hn,hc,cy,_,qh,rfl⟩
theorem RV.rX{g:G}{id len sz:Nat}{u:Value}(h:RV g (.os id len sz) u):∃(l:Loc) (o:ak) (cap:Nat),g.env[id]?=some (some l)∧g.objs[id]?=some o∧¬o.aD∧len<=cap∧cap*sz<=l.sz∧len<=2 ^ 62∧u=.slice (some ⟨l.block,0,none⟩) len cap:=by
 cases h with
 | os he ho hn hc hb cy=>exact⟨_,_,_,he,ho,hn,hc,hb,cy,rfl⟩
theorem RV.MF{g:G}{sz n id:Nat}{u:Value}(h:RV g (.raw sz n id) u):∃(a:Addr) (cap:Nat),u=.slice (some a) n cap∧n<=cap∧si g (.tok id) a sz 0 cap:=by
 cases h with
 | raw hn ho=>exact⟨_,_,rfl,hn,ho⟩
theorem RV.Dm{g:G}{id:Nat}{u:Value}(h:RV g (.mm id) u):∃(l:Loc) (o:ak),g.env[id]?=some (some l)∧g.objs[id]?=some o∧¬o.aD∧u=.map (some l.block):=by
 cases h with
 | mm he ho hn=>exact⟨_,_,he,ho,hn,rfl⟩
theorem RV.x9{g:G}{cs:List ae}{u:Value}(h:RV g (.agg cs) u):∃vs:Array Value,u=.agg vs∧vs.size=cs.length∧(∀c∈cs,c.scalar)∧∀(i:Nat) (c:ae) (e:Value),cs[i]?=some c->vs[i]?=some e->RV g c e:=by
 cases h with
 | agg hl df h=>exact⟨_,rfl,hl,df,h⟩
theorem RV.NX{g:G}{cs:List ae}{u:Value}(h:RV g (.cw cs) u):∃vs:Array Value,u=.tuple vs∧vs.size=cs.length∧∀(i:Nat) (c:ae) (e:Value),cs[i]?=some c->vs[i]?=some e->RV g c e:=by
 cases h with
 | cw hl h=>exact⟨_,rfl,hl,h⟩
theorem RV.Im{g:G}{f:Fn}{fs cs:List ae}{u:Value}(h:RV g (.fn f fs cs) u):∃us vs:Array Value,u=.func f us vs∧us.size=fs.length∧vs.size=cs.length ∧
  (∀(i:Nat) (c:ae) (e:Value),fs[i]?=some c->us[i]?=some e->RV g c e)∧∀(i:Nat) (c:ae) (e:Value),cs[i]?=some c->vs[i]?=some e->RV g c e:=by
 cases h with
 | fn hl zF h h'=>exact⟨_,_,rfl,hl,zF,h,h'⟩
theorem RV.Qm{g:G}{kt:KT}{es:List (Value×ae)}{u:Value}(h:RV g (.im kt es) u):∃(r clk:Nat) (arr:Array MapEntry),u=.map (some r)∧g.w.heap[r]?=some (.map arr clk)∧arr.size=es.length ∧
  (∀(i:Nat) (e:MapEntry) (kx:Value×ae),arr[i]?=some e->es[i]?=some kx->e.key=kx.1)∧(∀p∈es,kt.ok p.1)∧∀(i:Nat) (e:MapEntry) (kx:Value×ae),arr[i]?=some e->es[i]?=some kx->RV g kx.2 e.val:=by
 cases h with
 | im hh hn hl hk uN hb hr=>exact⟨_,_,_,rfl,hh,hl,hk,uN,hr⟩
theorem RV.fg{g:G}{sz:Nat}{xs:List ae}{o:m9}{u:Value}(h:RV g (.aA sz xs o) u) :
  (u=.slice none 0 0∧xs=[])∨∃(a:Addr) (cap:Nat) (f:Nat->Value),u=.slice (some a) xs.length cap∧(∀x∈xs,x.cells.length=sz)∧(∀x∈xs,∀c∈x.cells,c.scalar)∧xs.length<=cap∧xs.length<=2 ^ 62∧(xs≠[]->a.spot=none) ∧
   (∀(j:Nat) (c:ae),(an xs)[j]?=some c->g.cell a.block (a.off+j)=some (f j)∧¬iX g a.block (a.off+j))∧(∀(j:Nat) (c:ae),(an xs)[j]?=some c->RV g c (f j))∧si g o a sz xs.length cap:=by
 cases h with
 | nil=>exact .inl ⟨rfl,rfl⟩
 | aA cH df cP cy hs f hm hr ho=>exact .inr ⟨_,_,f,rfl,cH,df,cP,cy,hs,hm,hr,ho⟩
theorem RV.EU{g:G}{sz:Nat}{xs:List ae}{o:m9}{u:Value}(h:RV g (.aA sz xs o) u):xs.length<=2 ^ 62:=by
 rcases h.fg with⟨_,h⟩|⟨_,_,_,_,_,_,_,h,_⟩
 ·subst h;simp
 exact h
theorem RV.rR{g:G}{sz:Nat}{xs:List ae}{o:m9}{u:Value}(h:RV g (.aA sz xs o) u):RV g (.aA sz xs .sh) u:=by
 cases h with
 | nil=>exact .nil (fun id e=>by cases e) (by simp)
 | aA cH df cP cy hs f hm hr ho=>exact .aA cH df cP cy hs f hm hr trivial
theorem iG{sz:Nat}{xs:List ae}(cH:∀x∈xs,x.cells.length=sz){i j:Nat}{x c:ae}(hx:xs[i]?=some x)(hc:x.cells[j]?=some c):(an xs)[i*sz+j]?=some c:=by
 induction xs generalizing i with
 | nil=>simp at hx
 | cons y ys ih =>
  have hy:=cH y (by simp);cases i with
  | zero =>
   simp at hx;subst hx;simp only[an,List.flatMap_cons,Nat.zero_mul,Nat.zero_add];rw[List.getElem?_append,if_pos (I hc)];exact hc
  | succ i =>
   simp at hx;have:=ih (fun x hx=>cH x (by simp[hx])) hx;simp only[an,List.flatMap_cons]at this ⊢;rw[List.getElem?_append,if_neg (by rw[hy,Nat.succ_mul];omega),hy];rw[show(i+1)*sz+j-sz=i*sz+j by rw[Nat.succ_mul];omega];exact this
theorem bz{sz:Nat}{xs:List ae}(cH:∀x∈xs,x.cells.length=sz):(an xs).length=xs.length*sz:=by
 induction xs with
 | nil=>simp[an]
 | cons y ys ih =>
  have hy:=cH y (by simp);have:=ih (fun x hx=>cH x (by simp[hx]));simp only[an,List.flatMap_cons,List.length_append,List.length_cons]at this ⊢;rw[this,hy,Nat.succ_mul];omega
theorem Fv{P:Program}{o:Oper}{σ:St}{x:Operand}{y:ae}(ho:o.op=.move x∨o.op=.assign x)(hd:∀d,o.dst=some d->d<σ.n)(hx:σ.ev x=some y):Cert P o σ y .pure :=
 Cert.bL .pure (.inl rfl) hd fun a g _ h _=>⟨a.eval x,by rcases ho with ho|ho<;>simp[execOp,ho],h x (by rcases ho with ho|ho<;>simp[ho,Op.operands]) y hx⟩
theorem HN{P:Program}{o:Oper}{σ:St}(sz:Nat)(ho:o.op=.move (.const (.slice none 0 0))∨o.op=.assign (.const (.slice none 0 0)))(hd:∀d,o.dst=some d->d<σ.n):Cert P o σ (.aA sz [] .ex) .pure :=
 Cert.bL .pure (.inl rfl) hd fun a g _ _ _=>⟨.slice none 0 0,by rcases ho with ho|ho<;>simp[execOp,ho,Act.eval],.nil (fun id e=>by cases e) (by simp)⟩
theorem wZ{P:Program}{o:Oper}{σ:St}{c x z:Operand}{b:Bool}{y:ae}(ho:o.op=.pick c x z)(hd:∀d,o.dst=some d->d<σ.n)(hc:σ.ev c=some (.v (.bool b)))
  (hx:b=true->σ.ev x=some y) (hz:b=false->σ.ev z=some y):Cert P o σ y .pure :=
 Cert.bL .pure (.inl rfl) hd fun a g _ h _=>by
  have e2:=(h c (by simp[ho,Op.operands]) _ hc).bZ.1;cases b
  ·exact⟨a.eval z,by simp[execOp,ho,e2,asBool],h z (by simp[ho,Op.operands]) y (hz rfl)⟩
  exact⟨a.eval x,by simp[execOp,ho,e2,asBool],h x (by simp[ho,Op.operands]) y (hx rfl)⟩
theorem l9{α:Type}{l:List α}{n j:Nat}{c:α}(h:(l.take n)[j]?=some c):l[j]?=some c:=by
 rw[List.getElem?_take]at h;split at h
 ·exact h
 cases h
theorem yj{P:Program}{aR:ez}(hT:bT P aR){o:Oper}{σ:St}{t:TypeId}{x:Operand}{ti:b6}{oa:Option Addr}{cs:List ae}(ho:o.op=.load t x)(hd:∀d,o.dst=some d->d<σ.n)
  (ht:aR t=some ti) (hx:σ.ev x=some (.ip oa cs)) (eM:ti.desc.agg=true) (hs:ti.size<=cs.length):Cert P o σ (.agg (cs.take ti.size)) .pure :=
 Cert.bL .pure (.inl rfl) hd fun a g _ h _=>by
  obtain⟨b,off,f,e,_,df,hm,hr⟩:=(h x (by simp[ho,Op.operands]) _ hx).nX;have bF:=(hT t ti ht).nY eM g.w b off f (fun j hj=>(hm j _ (List.getElem?_eq_getElem (by omega))).1);have hlen:(cs.take ti.size).length=ti.size:=by simp;omega
  refine⟨.agg ((List.range ti.size).map f).toArray,by simp[execOp,ho,e,Instr.loadAt,Instr.sureAddr,bF],?_⟩;have:=RV.ofRow (g:=g) (cs.take ti.size) f (fun c hc=>df c (List.mem_of_mem_take hc)) (fun j c hj=>hr j c (l9 hj));rw[hlen]at this;exact this
theorem wg{P:Program}{aR:ez}(hT:bT P aR){o:Oper}{σ:St}{t:TypeId}{x:Operand}{ti:b6}{oa:Option Addr}{cs:List ae}{c:ae}(ho:o.op=.load t x)(hd:∀d,o.dst=some d->d<σ.n)
  (ht:aR t=some ti) (hx:σ.ev x=some (.ip oa cs)) (eM:ti.desc.agg=false) (hs:cs[0]?=some c):Cert P o σ c .pure :=
 Cert.bL .pure (.inl rfl) hd fun a g _ h _=>by
  obtain⟨b,off,f,e,_,df,hm,hr⟩:=(h x (by simp[ho,Op.operands]) _ hx).nX;have bF:=(hT t ti ht).mL eM g.w ⟨b,off,none⟩ (f 0) (hm 0 c hs).1;exact⟨f 0,by simp[execOp,ho,e,Instr.loadAt,Instr.sureAddr,bF],hr 0 c hs⟩
theorem Good.row{g:G}(hg:Good g){id:Nat}{cs:List ae}{l:Loc}(ho:g.objs[id]?=some (.cells cs))(he:g.env[id]?=some (some l)) :
  ∃(arr:Array Value) (t:TypeId),l.lo=0∧g.w.heap[l.block]?=some (.cells arr t (0,0))∧cs.length<=arr.size∧(∀(j:Nat) (c:ae) (u:Value),cs[j]?=some c->arr[j]?=some u->RV g c u)∧(∀c∈cs,c.scalar)∧l.sz<=arr.size:=by
 obtain⟨l',arr,t,h1,h2,h3,h4,h5,h6⟩:=hg.cells id cs ho;rw[he]at h1;simp only[Option.some.injEq]at h1;subst h1;exact⟨arr,t,h2,h3,h4,h5,h6⟩
theorem cell_of_row{w:World}{b:Nat}{arr:Array Value}{t:TypeId}{fz:Nat×Nat}(h:w.heap[b]?=some (.cells arr t fz))(off:Nat):w.cell? ⟨b,off,none⟩=arr[off]?:=by
 simp[World.cell?,h]
theorem yk{P:Program}{aR:ez}(hT:bT P aR){o:Oper}{σ:St}{t:TypeId}{x:Operand}{ti:b6}{id off:Nat}{cs:List ae}(ho:o.op=.load t x)(hd:∀d,o.dst=some d->d<σ.n)
  (ht:aR t=some ti) (hx:σ.ev x=some (.mp id off)) (mJ:σ.objs[id]?=some (.cells cs)) (eM:ti.desc.agg=true) (hs:off+ti.size<=cs.length):Cert P o σ (.agg ((cs.drop off).take ti.size)) (.rd id) :=
 Cert.MB hd fun a g hg h hO=>by
  obtain⟨l,o1,he,h1,_,e⟩:=(h x (by simp[ho,Op.operands]) _ hx).kO;obtain⟨arr,t',_,da,hlen,th,df,_⟩:=hg.row (by rw[hO];exact mJ) he;obtain⟨f,hf⟩:∃f:Nat->Value,∀j,off+j<arr.size->arr[off+j]?=some (f j):=⟨fun j=>arr.getD (off+j) undef,fun j hj=>by simp[Array.getD_eq_getD_getElem?,hj]⟩
  have bF:=(hT t ti ht).nY eM g.w l.block off f (fun j hj=>by
   rw[cell_of_row da];exact hf j (by omega))
  have hl:((cs.drop off).take ti.size).length=ti.size:=by simp;omega
  refine⟨.agg ((List.range ti.size).map f).toArray,by simp[execOp,ho,e,Instr.loadAt,Instr.sureAddr,bF],?_⟩;have:=RV.ofRow (g:=g) ((cs.drop off).take ti.size) f (fun c hc=>df c (List.mem_of_mem_drop (List.mem_of_mem_take hc))) (fun j c hj=>by
   have iB:=l9 hj;rw[List.getElem?_drop]at iB;have bf:=I iB;exact th (off+j) c _ iB (hf j (by omega)))
  rw[hl]at this;exact this
theorem wh{P:Program}{aR:ez}(hT:bT P aR){o:Oper}{σ:St}{t:TypeId}{x:Operand}{ti:b6}{id off:Nat}{cs:List ae}{c:ae}(ho:o.op=.load t x)(hd:∀d,o.dst=some d->d<σ.n)
  (ht:aR t=some ti) (hx:σ.ev x=some (.mp id off)) (mJ:σ.objs[id]?=some (.cells cs)) (eM:ti.desc.agg=false) (hs:cs[off]?=some c):Cert P o σ c (.rd id) :=
 Cert.MB hd fun a g hg h hO=>by
  obtain⟨l,o1,he,h1,_,e⟩:=(h x (by simp[ho,Op.operands]) _ hx).kO;obtain⟨arr,t',_,da,hlen,th,df,_⟩:=hg.row (by rw[hO];exact mJ) he;have bf:=I hs;have eS:g.w.cell? ⟨l.block,off,none⟩=some arr[off]:=by
   rw[cell_of_row da];simp[show off<arr.size by omega]
  have bF:=(hT t ti ht).mL eM g.w ⟨l.block,off,none⟩ _ eS;exact⟨arr[off],by simp[execOp,ho,e,Instr.loadAt,Instr.sureAddr,bF],th off c _ hs (by simp[show off<arr.size by omega])⟩
theorem om{P:Program}{aR:ez}(hT:bT P aR){f:Field}{tf:b6}(hf:aR f.type=some tf)(hs:tf.size≠0)(w:World)(b off:Nat) :
  (fieldPlace ⟨b,off,none⟩ f).run P w=.ok ⟨b,off+f.offset,none⟩ w:=by
 have:=(hT _ _ hf).sizeOf w;simp[fieldPlace,this,hs,addr_add]
theorem m5{P:Program}{aR:ez}(hT:bT P aR){s:TypeId}{ti:b6}{fs:List (Nat×TypeId)}{k rV:Nat}{ft:TypeId}(ht:aR s=some ti)(aS:ti.desc=.struct fs)(hk:fs[k]?=some (rV,ft)) :
  ∃(fields:Array Field) (f:Field),P.underlying s=some (.struct fields)∧fields[k]?=some f∧f.offset=rV∧f.type=ft:=by
 obtain⟨_,d,h1,h2⟩:=hT s ti ht;rw[aS]at h2;obtain⟨fields,h3,h4⟩:=h2;subst h3;rw[<-h4]at hk;simp only[List.getElem?_map,Option.map_eq_some_iff,Prod.mk.injEq,Array.getElem?_toList]at hk;obtain⟨f,e1,e2,e3⟩:=hk;exact⟨fields,f,h1,e1,e2,e3⟩
theorem qv{P:Program}{aR:ez}(hT:bT P aR){o:Oper}{σ:St}{s:TypeId}{x:Operand}{k rV:Nat}{ft:TypeId}{ti tf:b6}{fs:List (Nat×TypeId)}{oa:Option Addr}{cs:List ae}
  (ho:o.op=.fieldAddr s x k) (hd:∀d,o.dst=some d->d<σ.n) (ht:aR s=some ti) (aS:ti.desc=.struct fs) (hk:fs[k]?=some (rV,ft)) (hf:aR ft=some tf) (hz:tf.size≠0)
  (hx:σ.ev x=some (.ip oa cs)):Cert P o σ (.ip (oa.map (·.add rV)) (cs.drop rV)) .pure :=
 Cert.bL .pure (.inl rfl) hd fun a g _ h _=>by
  obtain⟨b,off,f,e,ha,df,hm,hr⟩:=(h x (by simp[ho,Op.operands]) _ hx).nX;obtain⟨fields,fl,h1,h2,h3,h4⟩:=m5 hT ht aS hk;subst h3;subst h4;refine⟨.pointer (some ⟨b,off+fl.offset,none⟩),by simp[execOp,ho,e,Instr.fieldAt,run_underlying h1,h2,Instr.sureAddr,om hT hf hz],?_⟩;refine .ip ?_ (fun c hc=>df c (List.mem_of_mem_drop hc)) (fun j=>f (fl.offset+j)) (fun j c hj=>?_) (fun j c hj=>?_)
  ·rcases ha with ha|ha<;>subst ha<;>simp[addr_add]
  ·rw[List.getElem?_drop]at hj;rw[Nat.add_assoc];exact hm _ c hj
  rw[List.getElem?_drop]at hj;exact hr _ c hj
theorem qw{P:Program}{aR:ez}(hT:bT P aR){o:Oper}{σ:St}{s:TypeId}{x:Operand}{k rV:Nat}{ft:TypeId}{ti tf:b6}{fs:List (Nat×TypeId)}{id off:Nat}
  (ho:o.op=.fieldAddr s x k) (hd:∀d,o.dst=some d->d<σ.n) (ht:aR s=some ti) (aS:ti.desc=.struct fs) (hk:fs[k]?=some (rV,ft)) (hf:aR ft=some tf) (hz:tf.size≠0)
  (hx:σ.ev x=some (.mp id off)):Cert P o σ (.mp id (off+rV)) .pure :=
 Cert.bL .pure (.inl rfl) hd fun a g _ h _=>by
  obtain⟨l,o1,he,h1,hn,e⟩:=(h x (by simp[ho,Op.operands]) _ hx).kO;obtain⟨fields,fl,h2,h3,h4,h5⟩:=m5 hT ht aS hk;subst h4;subst h5;exact⟨.pointer (some ⟨l.block,off+fl.offset,none⟩),by simp[execOp,ho,e,Instr.fieldAt,run_underlying h2,h3,Instr.sureAddr,om hT hf hz],.mp he h1 hn⟩
theorem bQ{P:Program}{aR:ez}(hT:bT P aR){t e:TypeId}{ti:b6}(ht:aR t=some ti)(aS:ti.desc=.slice e):P.underlying t=some (.slice e):=by
 obtain⟨_,d,h1,h2⟩:=hT t ti ht;rw[aS]at h2;simp only[rF]at h2;rw[h1,h2]
def qR:m9->Nat->Option Addr
 | .sh,_=>none
 | .ex,_=>none
 | .nn,_=>none
 | .tok _,_=>none
 | .loc a,k=>some ⟨a.block,a.off+k,none⟩
theorem pJ{P:Program}{aR:ez}(hT:bT P aR){o:Oper}{σ:St}{t e:TypeId}{x i:Operand}{ti te:b6}{sz:Nat}{xs:List ae}{ow:m9}{k:IntKind}{n:Int}{y:ae}
  (ho:o.op=.indexAddr t x i) (hd:∀d,o.dst=some d->d<σ.n) (ht:aR t=some ti) (aS:ti.desc=.slice e) (he:aR e=some te) (cH:te.size=sz)
  (hx:σ.ev x=some (.aA sz xs ow)) (hi:σ.ev i=some (.v (.int k n))) (h0:0<=n) (hy:xs[n.toNat]?=some y):Cert P o σ (.ip (qR ow (n.toNat*te.size)) y.cells) .pure :=
 Cert.bL .pure (.inl rfl) hd fun a g _ h _=>by
  have ei:=(h i (by simp[ho,Op.operands]) _ hi).bZ.1;have hu:=bQ hT ht aS;have bf:=I hy;rcases(h x (by simp[ho,Op.operands]) _ hx).fg with⟨_,e0⟩|⟨ad,cap,f,eu,nU,df,_,cy,hs,hm,hr,nT⟩
  ·subst e0;simp at bf
  have AR:=hs (by intro e;subst e;simp at bf);obtain⟨b,off,sp⟩:=ad;simp only at AR;subst AR;subst cH;have fL:y∈xs:=List.mem_of_getElem? hy;refine⟨.pointer (some ⟨b,off+n.toNat*te.size,none⟩),?_,?_⟩
  ·have j6:n<(xs.length:Int):=by omega
   simp[execOp,ho,ei,eu,Instr.indexAt,asIntOf,run_underlying hu,h0,j6,(hT e te he).sizeOf,addr_add]
  have R2:qR ow (n.toNat*te.size)=none∨qR ow (n.toNat*te.size)=some ⟨b,off+n.toNat*te.size,none⟩:=by
   cases ow with
   | loc a' =>
    have e:(⟨b,off,none⟩:Addr)=a':=nT;subst e;exact .inr rfl
   | _=>exact .inl rfl
  refine .ip R2 (df y fL) (fun j=>f (n.toNat*te.size+j)) (fun j c hj=>?_) (fun j c hj=>?_)
  ·rw[Nat.add_assoc];exact hm _ c (iG nU hy hj)
  exact hr _ c (iG nU hy hj)
theorem qx{P:Program}{aR:ez}(hT:bT P aR){o:Oper}{σ:St}{t e:TypeId}{x i:Operand}{ti te:b6}{id off len cap:Nat}{k:IntKind}{n:Int}
  (ho:o.op=.indexAddr t x i) (hd:∀d,o.dst=some d->d<σ.n) (ht:aR t=some ti) (aS:ti.desc=.slice e) (he:aR e=some te)
  (hx:σ.ev x=some (.ms id off len cap)) (hi:σ.ev i=some (.v (.int k n))) (h0:0<=n) (hn:n<len):Cert P o σ (.mp id (off+n.toNat*te.size)) .pure :=
 Cert.bL .pure (.inl rfl) hd fun a g _ h _=>by
  have ei:=(h i (by simp[ho,Op.operands]) _ hi).bZ.1;have hu:=bQ hT ht aS;obtain⟨l,o1,h1,h2,h3,_,_,_,_,eu⟩:=(h x (by simp[ho,Op.operands]) _ hx).n5;exact⟨.pointer (some ⟨l.block,off+n.toNat*te.size,none⟩),by simp[execOp,ho,ei,eu,Instr.indexAt,asIntOf,run_underlying hu,h0,hn,(hT e te he).sizeOf,addr_add],.mp h1 h2 h3⟩
end Go.Av
namespace Go.Av
theorem um{P:Program}{aR:ez}(hT:bT P aR){o:Oper}{σ:St}{s:TypeId}{x:Operand}{k rV:Nat}{ft:TypeId}{ti tf:b6}{fs:List (Nat×TypeId)}{cs:List ae}{r:ae}
  (ho:o.op=.field s x k) (hd:∀d,o.dst=some d->d<σ.n) (ht:aR s=some ti) (aS:ti.desc=.struct fs) (hk:fs[k]?=some (rV,ft)) (hf:aR ft=some tf)
  (hx:σ.ev x=some (.agg cs)) (hr:if tf.desc.agg then r=.agg ((cs.drop rV).take tf.size)else cs[rV]?=some r):Cert P o σ r .pure :=
 Cert.bL .pure (.inl rfl) hd fun a g _ h _=>by
  obtain⟨vs,e,hl,df,hh⟩:=(h x (by simp[ho,Op.operands]) _ hx).x9;obtain⟨fields,fl,h1,h2,h3,h4⟩:=m5 hT ht aS hk;subst h3;subst h4;have mf:=(hT _ _ hf).isAgg g.w;have cH:=(hT _ _ hf).sizeOf g.w;split at hr
  ·rename_i eM;subst hr;refine⟨.agg (vs.extract fl.offset (fl.offset+tf.size)),by simp[execOp,ho,e,Instr.field,run_underlying h1,h2,asAgg,part,mf,eM,cH],?_⟩;refine .agg ?_ (fun c hc=>df c (List.mem_of_mem_drop (List.mem_of_mem_take hc))) (fun i c u hi hu=>?_)
   ·simp[hl];omega
   have gP:=l9 hi;rw[List.getElem?_drop]at gP;refine hh (fl.offset+i) c u gP ?_;have:i<tf.size:=by
    have:=I hi;simp at this;omega
   rw[Array.getElem?_extract]at hu;split at hu
   ·exact hu
   cases hu
  rename_i eM;have bf:fl.offset<vs.size:=by
   rw[hl];exact I hr
  exact⟨vs[fl.offset],by simp[execOp,ho,e,Instr.field,run_underlying h1,h2,asAgg,part,mf,eM,bf],hh _ _ _ hr (by simp[bf])⟩
theorem yi{P:Program}{o:Oper}{σ:St}{x:Operand}{k:Nat}{cs:List ae}{r:ae}
  (ho:o.op=.extract x k) (hd:∀d,o.dst=some d->d<σ.n) (hx:σ.ev x=some (.cw cs)) (hr:cs[k]?=some r):Cert P o σ r .pure :=
 Cert.bL .pure (.inl rfl) hd fun a g _ h _=>by
  obtain⟨vs,e,hl,hh⟩:=(h x (by simp[ho,Op.operands]) _ hx).NX;have bf:k<vs.size:=by
   rw[hl];exact I hr
  exact⟨vs[k],by simp[execOp,ho,e,Instr.extract,bf],hh _ _ _ hr (by simp[bf])⟩
theorem cK{P:Program}(op:BinOp)(t:TypeId)(x y:Operand)(a b:Value)(w:World)(h1:a≠.nilIface)(h2:∀cs,a≠.agg cs):(eqGuard op t x y a b).run P w=.ok () w:=by
 cases op<;>first|rfl|(cases a<;>first|rfl|exact absurd rfl h1|exact absurd rfl (h2 _))
def kG:BinOp->Int->Int->Option Bool
 | .eql,a,b=>some (decide (a=b))
 | .neq,a,b=>some (!decide (a=b))
 | .lss,a,b=>some (decide (a<b))
 | .leq,a,b=>some (decide (a<=b))
 | .gtr,a,b=>some (decide (b<a))
 | .geq,a,b=>some (decide (b<=a))
 | _,_,_=>none
theorem zX{P:Program}{o:Oper}{σ:St}{op:BinOp}{t t':TypeId}{x y:Operand}{k:IntKind}{m n:Int}{r:Bool}
  (ho:o.op=.binOp op t x y t') (hd:∀d,o.dst=some d->d<σ.n) (hx:σ.ev x=some (.v (.int k m))) (hy:σ.ev y=some (.v (.int k n))) (hr:kG op m n=some r):Cert P o σ (.v (.bool r)) .pure :=
 Cert.bL .pure (.inl rfl) hd fun a g _ h _=>by
  have ex:=(h x (by simp[ho,Op.operands]) _ hx).bZ.1;have ey:=(h y (by simp[ho,Op.operands]) _ hy).bZ.1;have hg:=cK (P:=P) op t x y (.int k m) (.int k n) g.w (by simp) (by simp);refine⟨.bool r,?_,.v trivial⟩;have hb:(binOp op t (.int k m) (.int k n)).run P g.w=.ok (.bool r) g.w:=by
   cases op<;>first|(cases hr;done)|(obtain rfl:=Option.some.inj hr;simp[binOp,Op.intCmp];try (rw[Bool.eq_iff_iff];simp))
  simp[execOp,ho,ex,ey,hg,hb]
def bitsOf(k:IntKind)(f:BitVec k.bits->BitVec k.bits->BitVec k.bits)(a b:Int):Int:=k.wrap (f (BitVec.ofInt k.bits a) (BitVec.ofInt k.bits b)).toNat
def eA(k:IntKind):BinOp->Int->Int->Option Int
 | .add,a,b=>some (a+b)
 | .sub,a,b=>some (a-b)
 | .mul,a,b=>some (a*b)
 | .quo,a,b=>if b=0 then none else some (a.tdiv b)
 | .rem,a,b=>if b=0 then none else some (a.tmod b)
 | .and,a,b=>some (bitsOf k (fun x y=>x&&& y) a b)
 | .or,a,b=>some (bitsOf k (fun x y=>x ||| y) a b)
 | .xor,a,b=>some (bitsOf k (fun x y=>x ^^^ y) a b)
 | .andNot,a,b=>some (bitsOf k (fun x y=>x&&& ~~~y) a b)
 | _,_,_=>none
theorem vZ{P:Program}{o:Oper}{σ:St}{op:BinOp}{t t':TypeId}{x y:Operand}{k:IntKind}{m n r:Int}
  (ho:o.op=.binOp op t x y t') (hd:∀d,o.dst=some d->d<σ.n) (hx:σ.ev x=some (.v (.int k m))) (hy:σ.ev y=some (.v (.int k n))) (hr:eA k op m n=some r) (h1:k.min<=r) (h2:r<=k.max) :
  Cert P o σ (.v (.int k r)) .pure :=
 Cert.bL .pure (.inl rfl) hd fun a g _ h _=>by
  have ex:=(h x (by simp[ho,Op.operands]) _ hx).bZ.1;have ey:=(h y (by simp[ho,Op.operands]) _ hy).bZ.1;have hg:=cK (P:=P) op t x y (.int k m) (.int k n) g.w (by simp) (by simp);have hw:=m8 k r h1 h2;refine⟨.int k r,?_,.v ⟨h1,h2⟩⟩;have hb:(binOp op t (.int k m) (.int k n)).run P g.w=.ok (.int k r) g.w:=by
   cases op with
   | add | sub | mul=>simp[eA]at hr;subst hr;simp[binOp,Op.intArith,hw]
   | quo | rem =>
    simp only[eA]at hr;split at hr
    ·cases hr
    rename_i uO;simp only[Option.some.injEq]at hr;subst hr;simp[binOp,Op.intDiv,uO,hw]
   | and | or | xor | andNot=>simp[eA]at hr;subst hr;simp[binOp,Op.intBits,bitsOf]
   | _=>simp[eA]at hr
  simp[execOp,ho,ex,ey,hg,hb]
def dv:BinOp->Bool
 | .add=>false
 | .sub=>false
 | .mul=>false
 | .quo=>false
 | .rem=>false
 | .and=>false
 | .or=>false
 | .xor=>false
 | .shl=>true
 | .shr=>true
 | .andNot=>false
 | .eql=>false
 | .neq=>false
 | .lss=>false
 | .leq=>false
 | .gtr=>false
 | .geq=>false
def eU(k:IntKind):BinOp->Int->Int->Int
 | .shl,a,n=>k.wrap (a*2 ^ (min n.toNat k.bits))
 | _,a,n=>a.fdiv (2 ^ (min n.toNat k.bits))
theorem wk{P:Program}{o:Oper}{σ:St}{op:BinOp}{t t':TypeId}{x y:Operand}{k k':IntKind}{m n:Int}
  (ho:o.op=.binOp op t x y t') (hd:∀d,o.dst=some d->d<σ.n) (hx:σ.ev x=some (.v (.int k m))) (hy:σ.ev y=some (.v (.int k' n))) (hs:dv op=true) (hn:0<=n) (h1:k.min<=eU k op m n) (h2:eU k op m n<=k.max) :
  Cert P o σ (.v (.int k (eU k op m n))) .pure :=
 Cert.bL .pure (.inl rfl) hd fun a g _ h _=>by
  have ex:=(h x (by simp[ho,Op.operands]) _ hx).bZ.1;have ey:=(h y (by simp[ho,Op.operands]) _ hy).bZ.1;have hg:=cK (P:=P) op t x y (.int k m) (.int k' n) g.w (by simp) (by simp);have jm:¬n<0:=by omega
  refine⟨.int k (eU k op m n),?_,.v ⟨h1,h2⟩⟩;have hb:(binOp op t (.int k m) (.int k' n)).run P g.w=.ok (.int k (eU k op m n)) g.w:=by
   cases op with
   | shl | shr=>simp[binOp,Op.shift,jm,eU]
   | _=>simp[dv]at hs
  simp[execOp,ho,ex,ey,hg,hb]
theorem Hy(a b:ByteArray):(a.toList == b.toList)=decide (a=b):=by
 rw[Bool.eq_iff_iff];simp only[beq_iff_eq,decide_eq_true_eq];refine⟨fun h=>?_,fun h=>by rw[h]⟩;rw[ByteArray.toList_eq,ByteArray.toList_eq]at h;exact ByteArray.ext (Array.toList_inj.1 h)
theorem we{P:Program}{o:Oper}{σ:St}{op:BinOp}{t t':TypeId}{x y:Operand}{m n:ByteArray}{r:Bool}
  (ho:o.op=.binOp op t x y t') (hd:∀d,o.dst=some d->d<σ.n) (hx:σ.ev x=some (.v (.string m))) (hy:σ.ev y=some (.v (.string n)))
  (hr:(op=.eql∧r=decide (m=n))∨(op=.neq∧r=!decide (m=n))):Cert P o σ (.v (.bool r)) .pure :=
 Cert.bL .pure (.inl rfl) hd fun a g _ h _=>by
  have ex:=(h x (by simp[ho,Op.operands]) _ hx).bZ.1;have ey:=(h y (by simp[ho,Op.operands]) _ hy).bZ.1;have hg:=cK (P:=P) op t x y (.string m) (.string n) g.w (by simp) (by simp);refine⟨.bool r,?_,.v trivial⟩;have hb:(binOp op t (.string m) (.string n)).run P g.w=.ok (.bool r) g.w:=by
   have Ix:=Hy m n;rcases hr with⟨e1,e2⟩|⟨e1,e2⟩<;>subst e1<;>subst e2
   ·simp only[binOp,Op.stringOp,Sem.run_pure,Ix]
   simp only[binOp,Op.stringOp,Sem.run_pure,Ix]
  simp[execOp,ho,ex,ey,hg,hb]
theorem zZ{P:Program}{o:Oper}{σ:St}{op:BinOp}{t t':TypeId}{x y:Operand}{m n r:Bool}
  (ho:o.op=.binOp op t x y t') (hd:∀d,o.dst=some d->d<σ.n) (ht:P.underlying t=some .bool) (hx:σ.ev x=some (.v (.bool m))) (hy:σ.ev y=some (.v (.bool n)))
  (hr:(op=.eql∧r=(m == n))∨(op=.neq∧r=!(m == n))):Cert P o σ (.v (.bool r)) .pure :=
 Cert.bL .pure (.inl rfl) hd fun a g _ h _=>by
  have ex:=(h x (by simp[ho,Op.operands]) _ hx).bZ.1;have ey:=(h y (by simp[ho,Op.operands]) _ hy).bZ.1;have hg:=cK (P:=P) op t x y (.bool m) (.bool n) g.w (by simp) (by simp);refine⟨.bool r,?_,.v trivial⟩;have he:(Op.equal t (.bool m) (.bool n)).run P g.w=.ok (m == n) g.w:=by
   have e:∃d,Op.equal t (.bool m) (.bool n)=Op.equalIn (d+1) t (.bool m) (.bool n):=⟨9999,rfl⟩
   obtain⟨d,e⟩:=e;rw[e];simp only[Op.equalIn,Sem.run_bind,run_underlying ht,Result.andThen_ok,Sem.run_pure]
  rcases hr with⟨e1,e2⟩|⟨e1,e2⟩<;>subst e1<;>subst e2<;>simp[execOp,ho,ex,ey,hg,binOp,he]
theorem HO{P:Program}{o:Oper}{σ:St}{t:TypeId}{x:Operand}{m:Bool}
  (ho:o.op=.unOp .not t x) (hd:∀d,o.dst=some d->d<σ.n) (hx:σ.ev x=some (.v (.bool m))):Cert P o σ (.v (.bool !m)) .pure :=
 Cert.bL .pure (.inl rfl) hd fun a g _ h _=>by
  have ex:=(h x (by simp[ho,Op.operands]) _ hx).bZ.1;exact⟨.bool !m,by simp[execOp,ho,ex,Op.unary],.v trivial⟩
theorem HM{P:Program}{o:Oper}{σ:St}{t:TypeId}{x:Operand}{k:IntKind}{m:Int}
  (ho:o.op=.unOp .neg t x) (hd:∀d,o.dst=some d->d<σ.n) (hx:σ.ev x=some (.v (.int k m))) (h1:k.min<=-m) (h2:-m<=k.max):Cert P o σ (.v (.int k (-m))) .pure :=
 Cert.bL .pure (.inl rfl) hd fun a g _ h _=>by
  have ex:=(h x (by simp[ho,Op.operands]) _ hx).bZ.1;have hw:=m8 k (-m) h1 h2;exact⟨.int k (-m),by simp[execOp,ho,ex,Op.unary,Op.intArith,hw],.v ⟨h1,h2⟩⟩
theorem cJ{P:Program}{o:Oper}{b:Builtin}{args:Array Operand}{rm:Array TypeId}(ho:o.op=.call ⟨.builtin b,args,rm⟩)(a:Act)(w:World) :
  (execOp a.eval o).run P w=(builtin b rm o.type (args.map fun | .const _=>true|_=>false) (args.map a.eval)).run P w:=by
 simp[execOp,ho,resolve,invoke];rfl
theorem HK{P:Program}{aR:ez}(hT:bT P aR){o:Oper}{σ:St}{t e:TypeId}{x:Operand}{ti:b6}{n:Nat}{y:ae}
  (ho:o.op=.call ⟨.builtin .len,#[x],#[t]⟩) (hd:∀d,o.dst=some d->d<σ.n) (ht:aR t=some ti) (aS:ti.desc=.slice e) (hx:σ.ev x=some y)
  (hy:(∃sz xs ow,y=.aA sz xs ow∧n=xs.length)∨(∃id off cap,y=.ms id off n cap)∨∃id sz,y=.os id n sz):Cert P o σ (.v (.int .i64 n)) .pure :=
 Cert.bL .pure (.inl rfl) hd fun a g _ h _=>by
  have hu:=bQ hT ht aS;have hZ:=h x (by simp[ho,Op.operands,Call.operands]) _ hx;have key:∃ad cap,a.eval x=.slice ad n cap∧n<=2 ^ 62:=by
   rcases hy with⟨sz,xs,ow,e1,e2⟩|⟨id,off,cap,e1⟩|⟨id,sz,e1⟩
   ·subst e1;subst e2;rcases hZ.fg with⟨q1,q2⟩|⟨ad,cap,_,q1,_,_,_,q2,_⟩
    ·subst q2;exact⟨_,_,q1,by simp⟩
    exact⟨_,_,q1,q2⟩
   ·subst e1;obtain⟨l,_,_,_,_,_,q2,_,_,q1⟩:=hZ.n5;exact⟨_,_,q1,q2⟩
   subst e1;obtain⟨l,_,_,_,_,_,_,_,q2,q1⟩:=hZ.rX;exact⟨_,_,q1,q2⟩
  obtain⟨ad,cap,q1,q2⟩:=key;refine⟨.int .i64 n,?_,.v ?_⟩
  ·rw[cJ ho];simp[builtin,Builtin.len_,q1,run_underlying hu,goInt]
  simp[gK,IntKind.min,IntKind.max,IntKind.bits,IntKind.signed];omega
theorem run_sliceBound{P:Program}(k:IntKind)(n:Int)(y:Nat)(c:BoundsCode)(w:World)(h0:0<=n)(h1:n<=y):(Instr.sliceBound (.int k n) y c).run P w=.ok n.toNat w:=by
 simp[Instr.sliceBound,asIntOf,h0,h1]
theorem Ej{sz:Nat}{xs:List ae}(cH:∀x∈xs,x.cells.length=sz)(lo hi j:Nat)(c:ae)(h:(an ((xs.take hi).drop lo))[j]?=some c):(an xs)[lo*sz+j]?=some c:=by
 induction xs generalizing lo hi j with
 | nil=>simp[an]at h
 | cons y ys ih =>
  have hy:=cH y (by simp);have EO:=ih (fun x hx=>cH x (by simp[hx]));cases hi with
  | zero=>simp[an]at h
  | succ hi =>
   cases lo with
   | zero =>
    simp only[List.take_succ_cons,List.drop_zero,an,List.flatMap_cons,Nat.zero_mul,Nat.zero_add]at h ⊢;rw[List.getElem?_append]at h ⊢;split at h
    ·rename_i hj;rw[if_pos hj];exact h
    rename_i hj;rw[if_neg hj];have:=EO 0 hi (j-y.cells.length) (by simpa[an]using h);simpa[an]using this
   | succ lo =>
    simp only[List.take_succ_cons,List.drop_succ_cons]at h;have:=EO lo hi j h;simp only[an,List.flatMap_cons]at this ⊢;rw[List.getElem?_append,if_neg (by rw[hy,Nat.succ_mul];omega),hy,show(lo+1)*sz+j-sz=lo*sz+j by rw[Nat.succ_mul];omega];exact this
def nH(σ:St)(p:Option Operand)(CF n:Nat):Prop:=(p=none∧n=CF)∨∃q k,p=some q∧σ.ev q=some (.v (.int k (n:Int)))
theorem Cy{P:Program}{aR:ez}(hT:bT P aR){o:Oper}{σ:St}{t e:TypeId}{x:Operand}{ti te:b6}{sz:Nat}{xs:List ae}{ow:m9}{lo hi:Option Operand}{l h:Nat}
  (ho:o.op=.slice t x lo hi none) (hd:∀d,o.dst=some d->d<σ.n) (ht:aR t=some ti) (aS:ti.desc=.slice e) (he:aR e=some te) (cH:te.size=sz) (hx:σ.ev x=some (.aA sz xs ow))
  (ix:nH σ lo 0 l) (o8:nH σ hi xs.length h) (h1:l<=h) (h2:h<=xs.length):Cert P o σ (.aA sz ((xs.take h).drop l) .sh) .pure :=
 Cert.bL .pure (.inl rfl) hd fun a g _ hh _=>by
  have hu:=bQ hT ht aS;have hZ:=hh x (by cases lo<;>cases hi<;>simp[ho,Op.operands]) _ hx;have hl:(lo=none∧l=0)∨∃q k,lo=some q∧a.eval q=.int k (l:Int):=by
   rcases ix with q|⟨q,k,e1,e2⟩
   ·exact .inl q
   exact .inr ⟨q,k,e1,(hh q (by subst e1;cases hi<;>simp[ho,Op.operands]) _ e2).bZ.1⟩
  have gP:(hi=none∧h=xs.length)∨∃q k,hi=some q∧a.eval q=.int k (h:Int):=by
   rcases o8 with q|⟨q,k,e1,e2⟩
   ·exact .inl q
   exact .inr ⟨q,k,e1,(hh q (by subst e1;cases lo<;>simp[ho,Op.operands]) _ e2).bZ.1⟩
  have cV:execOp a.eval o=(do pure (.value (<-Instr.sliceAt t (a.eval x) (lo.map a.eval) (hi.map a.eval) none))):=by
   simp[execOp,ho]
  clear ix o8 ho;have bounds:∀cap:Nat,xs.length<=cap->(Instr.sliceBounds true xs.length cap (lo.map a.eval) (hi.map a.eval) none).run P g.w=.ok (l,h,cap) g.w:=by
   intro cap cP;rcases hl with⟨e1,e2⟩|⟨p,k,e1,hk⟩
   ·rcases gP with⟨e3,e4⟩|⟨q,k',e3,oN⟩
    ·subst e1 e2 e3 e4;simp[Instr.sliceBounds]
    subst e1 e2 e3;have:=run_sliceBound (P:=P) k' h cap .sliceAcap g.w (by omega) (by omega);simp[Instr.sliceBounds,oN,this]
   rcases gP with⟨e3,e4⟩|⟨q,k',e3,oN⟩
   ·subst e1 e3 e4;have:=run_sliceBound (P:=P) k l xs.length .sliceB g.w (by omega) (by omega);simp[Instr.sliceBounds,hk,this]
   subst e1 e3;have e1:=run_sliceBound (P:=P) k' h cap .sliceAcap g.w (by omega) (by omega);have e2:=run_sliceBound (P:=P) k l h .sliceB g.w (by omega) (by omega);simp[Instr.sliceBounds,hk,oN,e1,e2]
  have kM:=(hT e te he).sizeOf g.w;rcases hZ.fg with⟨q1,q2⟩|⟨ad,cap,f,q1,nU,df,cP,cy,hs,hm,hr,_⟩
  ·subst q2;have b:=bounds 0 (by simp);simp at h2;subst h2;have:l=0:=by omega
   subst this;refine⟨.slice none 0 0,?_,.nil (fun id e=>by cases e) (by simp)⟩;rw[cV];simp only[List.length_nil]at b;simp[Instr.sliceAt,run_underlying hu,Instr.slice,q1,kM,b]
  obtain⟨b0,TL,sp⟩:=ad;have hlen:((xs.take h).drop l).length=h-l:=by simp;omega
  subst cH;by_cases gg:cap=l
  ·-- ZW cut is empty and keeps ZW address
   have e1:l=xs.length:=by omega
   have e2:h=xs.length:=by omega
   subst gg;subst e2;have b:=bounds cap cP;refine⟨.slice (some ⟨b0,TL,sp⟩) (xs.length-cap) (cap-cap),?_,?_⟩
   ·rw[cV];simp[Instr.sliceAt,run_underlying hu,Instr.slice,q1,b,kM]
   have Mg:(xs.take xs.length).drop cap=[]:=by simp;omega
   rw[Mg];have h0:xs.length-cap=0:=by omega
   rw[h0];exact .aA (by simp) (by simp) (by simp) (by simp) (by simp) f (by simp[an]) (by simp[an]) trivial
  have b:=bounds cap cP;refine⟨.slice (some ((⟨b0,TL,sp⟩:Addr).add (l*te.size))) (h-l) (cap-l),?_,?_⟩
  ·rw[cV];simp[Instr.sliceAt,run_underlying hu,Instr.slice,q1,b,kM,gg]
  rw[<-hlen];have fL:∀y,y∈(xs.take h).drop l->y∈xs:=fun y hy=>List.mem_of_mem_take (List.mem_of_mem_drop hy);by_cases cq:xs=[]
  ·subst cq;simp only[List.take_nil,List.drop_nil];exact .aA (by simp) (by simp) (by simp) (by simp) (by simp) f (by simp[an]) (by simp[an]) trivial
  have nh:=hs cq;simp only at nh;subst nh;rw[addr_add];refine .aA (fun y hy=>nU y (fL y hy)) (fun y hy=>df y (fL y hy)) (by rw[hlen];omega) (by rw[hlen];omega) (fun _=>rfl) (fun j=>f (l*te.size+j)) (fun j c hj=>?_) (fun j c hj=>?_) trivial
  ·have:=hm _ c (Ej nU l h j c hj);simpa[Nat.add_assoc]using this
  exact hr _ c (Ej nU l h j c hj)
def ae.bg:ae->ae
 | .aA sz xs _=>.aA sz xs .sh
 | x=>x
def ae.share:ae->ae
 | .aA sz xs _=>.aA sz xs .sh
 | .agg cs=>.agg (cs.map ae.bg)
 | x=>x
theorem RV.bg{g:G}{x:ae}{u:Value}(h:RV g x u):RV g x.bg u:=by
 unfold ae.bg;split
 ·exact h.rR
 exact h
theorem ae.ew{x:ae}(h:x.scalar):x.bg.scalar:=by
 cases x<;>first|exact h|trivial
theorem RV.share{g:G}{x:ae}{u:Value}(h:RV g x u):RV g x.share u:=by
 unfold ae.share;split
 ·exact h.rR
 ·obtain⟨vs,e,hl,df,hh⟩:=h.x9;subst e;refine .agg (by simpa using hl) (fun c hc=>?_) (fun i c w h1 h2=>?_)
  ·rw[List.mem_map]at hc;obtain⟨c',h1,h2⟩:=hc;subst h2;exact ae.ew (df c' h1)
  rw[List.getElem?_map,Option.map_eq_some_iff]at h1;obtain⟨c',h3,h4⟩:=h1;subst h4;exact(hh i c' w h3 h2).bg
 exact h
def jg(g:G)(cs:List ae)(arr:Array Value):Prop:=arr.size=cs.length∧∀(j:Nat) (c:ae) (u:Value),cs[j]?=some c->arr[j]?=some u->RV g c u
theorem jg.mono{g g':G}(h:Le g g'){cs:List ae}{arr:Array Value}(k:jg g cs arr):jg g' cs arr:=⟨k.1,fun j c u a b=>(k.2 j c u a b).mono h⟩
theorem jg.agg{g:G}{cs:List ae}{arr:Array Value}(k:jg g cs arr)(df:∀c∈cs,c.scalar):RV g (.agg cs) (.agg arr):=.agg k.1 df k.2
theorem RV.Cp{g:G}{x:ae}{u:Value}(h:RV g x u)(hs:∀c∈x.cells,c.scalar):jg g x.cells u.cells:=h.cells hs
def ae.flat:ae->Prop
 | .cw _=>False
 | _=>True
theorem RV.iH{g:G}{x:ae}{u:Value}(h:RV g x u)(hx:x.flat):∀c∈x.cells,c.scalar:=by
 cases h with
 | agg hl df hh=>exact df
 | cw=>exact hx.elim
 | _=>intro c hc;simp only[ae.cells,List.mem_singleton]at hc;subst hc;trivial
def bh(cs:List ae)(off:Nat)(xs:List ae):List ae:=cs.take off++(xs++cs.drop (off+xs.length))
theorem fQ{cs:List ae}{off:Nat}{xs:List ae}(h:off+xs.length<=cs.length):(bh cs off xs).length=cs.length:=by
 simp[bh];omega
theorem mY{cs:List ae}{off:Nat}{xs:List ae}(h:off+xs.length<=cs.length)(k:Nat) :
  (bh cs off xs)[k]?=if off<=k∧k<off+xs.length then xs[k-off]? else cs[k]?:=by
 simp only[bh];rw[List.getElem?_append,List.getElem?_append,List.getElem?_take,List.getElem?_drop];have hl:(cs.take off).length=off:=by simp;omega
 rw[hl];by_cases h1:k<off
 ·rw[if_pos h1,if_pos h1,if_neg (by omega)]
 rw[if_neg h1];by_cases h2:k-off<xs.length
 ·rw[if_pos h2,if_pos (by omega)]
 rw[if_neg h2,if_neg (by omega)];congr 1;omega
theorem xg(off:Nat):∀(vs:List Value) (n:Nat) (arr:Array Value),off+n+vs.length<=arr.size->∀k,((vs.zipIdx n).foldl (fun cs p=>cs.setIfInBounds (off+p.2) p.1) arr).size=arr.size ∧
  ((vs.zipIdx n).foldl (fun cs p=>cs.setIfInBounds (off+p.2) p.1) arr)[k]?=if off+n<=k∧k<off+n+vs.length then vs[k-(off+n)]? else arr[k]?
 | [],n,arr,_,k=>by
  refine⟨rfl,?_⟩;rw[if_neg (by simp only[List.length_nil];omega)];rfl
 | v::vs,n,arr,h,k=>by
  simp only[List.length_cons]at h;obtain⟨h1,h2⟩:=xg off vs (n+1) (arr.setIfInBounds (off+n) v) (by rw[Array.size_setIfInBounds];omega) k;simp only[List.zipIdx_cons,List.foldl_cons];refine⟨h1.trans (by simp),?_⟩;rw[h2];simp only[List.length_cons];by_cases e1:off+(n+1)<=k∧k<off+(n+1)+vs.length
  ·rw[if_pos e1,if_pos (by omega),show k-(off+n)=(k-(off+(n+1)))+1 by omega];simp
  rw[if_neg e1];by_cases e2:k=off+n
  ·subst e2;rw[if_pos (by omega),Nat.sub_self];rw[Array.getElem?_setIfInBounds_self_of_lt (by omega)];rfl
  rw[if_neg (by omega),Array.getElem?_setIfInBounds_ne (by omega)]
def iN(place:Nat->Option (Nat×Nat)):List ae->List (Nat×ae)->Option (List ae)
 | cs,[]=>some cs
 | cs,(i,x)::r =>
  match place i with
  | none=>none
  | some (off,size)=>if x.cells.length=size∧off+size<=cs.length then iN place (bh cs off x.cells) r else none
inductive B6(g:G):List (Nat×ae)->List (Nat×Value)->Prop
 | nil:B6 g [] []
 | cons {i:Nat} {x:ae} {u:Value} {ps:List (Nat×ae)} {vs:List (Nat×Value)} (h:RV g x u) (hf:x.flat) (r:B6 g ps vs):B6 g ((i,x)::ps) ((i,u)::vs)
theorem oI{g:G}(place:Nat->Option (Nat×Nat)){ps:List (Nat×ae)}{vs:List (Nat×Value)}(hp:B6 g ps vs):∀{cs cs':List ae} {arr:Array Value},jg g cs arr->iN place cs ps=some cs' ->
  ∃b9,Instr.fill place arr vs=some b9∧jg g cs' b9∧((∀c∈cs,c.scalar)->∀c∈cs',c.scalar):=by
 induction hp with
 | nil =>
  intro cs cs' arr h e;simp only[iN,Option.some.injEq]at e;subst e;exact⟨arr,rfl,h,fun h=>h⟩
 | cons hx hf r ih =>
  rename_i i x u ps vs;intro cs cs' arr h e;simp only[iN]at e;cases wz:place i with
  | none=>simp[wz]at e
  | some p =>
   obtain⟨off,size⟩:=p;simp only[wz]at e;split at e
   ·rename_i hc;obtain⟨lj,KM⟩:=hc;have fA:=hx.iH hf;obtain⟨q1,q2⟩:=hx.Cp fA;have cH:off+0+u.cells.toList.length<=arr.size:=by
     simp only[Array.length_toList,q1,lj,h.1];omega
    have gL:=xg off u.cells.toList 0 arr cH;have uQ:jg g (bh cs off x.cells) (u.cells.zipIdx.foldl (fun cs p=>cs.setIfInBounds (off+p.2) p.1) arr):=by
     have xl:u.cells.zipIdx.foldl (fun cs p=>cs.setIfInBounds (off+p.2) p.1) arr=(u.cells.toList.zipIdx 0).foldl (fun cs p=>cs.setIfInBounds (off+p.2) p.1) arr:=by
      rw[<-Array.foldl_toList];congr 1;simp[Array.toList_zipIdx]
     rw[xl];refine⟨?_,fun j c w hj hw=>?_⟩
     ·rw[(gL 0).1,fQ (by omega),h.1]
     rw[(gL j).2]at hw;rw[mY (by omega)]at hj;simp only[Nat.add_zero,Array.length_toList,q1]at hw;by_cases xq:off<=j∧j<off+x.cells.length
     ·rw[if_pos xq]at hj hw;exact q2 _ c w hj (by simpa using hw)
     rw[if_neg xq]at hj hw;exact h.2 j c w hj hw
    obtain⟨b9,e1,e2,e3⟩:=ih uQ e;refine⟨b9,?_,e2,fun cr=>e3 fun c hc=>?_⟩
    ·simp only[Instr.fill,wz];rw[if_neg (by simp[q1,lj,h.1];omega)];exact e1
    simp only[bh,List.mem_append]at hc;rcases hc with hc|hc|hc
    ·exact cr c (List.mem_of_mem_take hc)
    ·exact fA c hc
    exact cr c (List.mem_of_mem_drop hc)
   cases e
def St.eR(σ:St):List (Nat×Operand)->Option (List (Nat×ae))
 | []=>some []
 | (i,x)::r =>
  match σ.ev x,σ.eR r with
  | some y,some ys=>some ((i,y)::ys)
  | _,_=>none
theorem jO{σ:St}{a:Act}{g:G}:∀{parts:List (Nat×Operand)} {ps:List (Nat×ae)},(∀x∈parts.map (·.2),∀y,σ.ev x=some y->RV g y (a.eval x))->σ.eR parts=some ps->(∀p∈ps,p.2.flat) ->
  B6 g ps (parts.map fun p=>(p.1,a.eval p.2))
 | [],ps,_,h,_=>by
  simp only[St.eR,Option.some.injEq]at h;subst h;exact .nil
 | (i,x)::r,ps,mf,h,hf=>by
  simp only[St.eR]at h;cases hx:σ.ev x with
  | none=>simp[hx]at h
  | some y =>
   cases hr:σ.eR r with
   | none=>simp[hx,hr]at h
   | some ys =>
    simp only[hx,hr,Option.some.injEq]at h;subst h;exact .cons (mf x (by simp) y hx) (hf (i,y) (List.mem_cons_self)) (jO (fun z hz=>mf z (by simp only[List.map_cons,List.mem_cons];exact .inr hz)) hr fun p hp=>hf p (List.mem_cons_of_mem _ hp))
def iT(aR:ez):List (Nat×TypeId)->Option (List (Nat×Nat))
 | []=>some []
 | (off,t)::r =>
  match aR t,iT aR r with
  | some ti,some ps=>some ((off,ti.size)::ps)
  | _,_=>none
theorem sJ{P:Program}{aR:ez}(hT:bT P aR):∀{fields:List Field} {ps:List (Nat×Nat)},iT aR (fields.map fun f=>(f.offset,f.type))=some ps ->
  fields.mapM (fun f=>(P.info? f.type).map fun i=>(f.offset,i.size))=some ps
 | [],ps,h=>by
  simp only[List.map_nil,iT,Option.some.injEq]at h;subst h;rfl
 | f::r,ps,h=>by
  simp only[List.map_cons,iT]at h;cases ht:aR f.type with
  | none=>simp[ht]at h
  | some ti =>
   cases hr:iT aR (r.map fun f=>(f.offset,f.type))with
   | none=>simp[ht,hr]at h
   | some qs =>
    simp only[ht,hr,Option.some.injEq]at h;subst h;obtain⟨⟨i,z,h1,h2,_⟩,_⟩:=hT _ _ ht;have ih:=sJ hT hr;simp only[List.mapM_cons,h1,Option.map_some,ih];simp[h2]
theorem Cs{P:Program}{aR:ez}(hT:bT P aR){o:Oper}{σ:St}{t:TypeId}{parts:Array (Nat×Operand)}{ti:b6}{fs:List (Nat×TypeId)}{yV:List (Nat×Nat)}{ps:List (Nat×ae)}{cs:List ae}
  (ho:o.op=.build t parts) (hd:∀d,o.dst=some d->d<σ.n) (ht:aR t=some ti) (aS:ti.desc=.struct fs) (wz:iT aR fs=some yV) (xn:σ.eR parts.toList=some ps) (ga:∀p∈ps,p.2.flat)
  (fA:iN (fun i=>yV[i]?) ti.zero ps=some cs):Cert P o σ (.agg cs) .pure :=
 Cert.bL .pure (.inl rfl) hd fun a g _ h _=>by
  have bE:=jO (a:=a) (g:=g) (fun x hx y hy=>h x (by simpa[ho,Op.operands]using hx) y hy) xn ga;obtain⟨⟨i,z,h1,h2,h3,h4,h5,h6,h7,h8,h9⟩,d,LI,UM⟩:=hT t ti ht;rw[aS]at UM;obtain⟨fields,e1,e2⟩:=UM;subst e1;obtain⟨b9,q1,q2,q3⟩:=oI (fun i=>yV[i]?) bE (cs:=ti.zero) (arr:=z.cells) ⟨h5,h8 g⟩ fA;have hp:=sJ hT (fields:=fields.toList) (ps:=yV) (by rw[e2];exact wz);have hb:P.built t (parts.map fun(i,x)=>(i,a.eval x)).toList=some b9:=by
   unfold Program.built;simp only[h1,LI,h4,hp];rw[Array.toList_map];simpa using q1
  have bF:=run_build g.w t _ b9 hb;exact⟨.agg b9,by simp[execOp,ho,bF],q2.agg (q3 h9)⟩
theorem RV.newRow{g:G}(hg:Good g){xs:List ae}{sz:Nat}{arr:Array Value}{t:TypeId}(cH:∀x∈xs,x.cells.length=sz)(df:∀x∈xs,∀c∈x.cells,c.scalar)(cy:xs.length<=2 ^ 62)
  (hr:jg g (an xs) arr):RV (g.push (.cells arr t)) (.aA sz xs .ex) (.slice (some ⟨g.w.heap.size,0,none⟩) xs.length xs.length):=by
 have hle:=Le.push g hg (.cells arr t);have Xf:=hg.push (.cells arr t);refine .aA cH df (Nat.le_refl _) cy (fun _=>rfl) (fun j=>arr.getD j undef) (fun j c hj=>?_) (fun j c hj=>?_) rfl
 ·have bf:=I hj;rw[<-hr.1]at bf;refine⟨?_,?_⟩
  ·simp only[G.cell,G.push,Nat.zero_add];rw[cell_of_row (cF _ _)];simp[Array.getD_eq_getD_getElem?,bf]
  rintro(hf|⟨id,l,o,h1,h2,h3,h4,_⟩)
  ·have ff:g.fr g.w.heap.size (0+j):=hf;have:=hg.frlt _ _ ff;omega
  have:=hg.loc id l o h1 h2 h3;have WA:l.block=g.w.heap.size:=h4;omega
 have bf:=I hj;rw[<-hr.1]at bf;exact(hr.2 j c _ hj (by simp[Array.getD_eq_getD_getElem?,bf])).mono hle
theorem rI{sz:Nat}:∀(ys:List ae) (k:Nat) (cs cs':List ae),iN (fun i=>some (i*sz,sz)) cs ((ys.zipIdx k).map fun p=>(p.2,p.1))=some cs'->(k+ys.length)*sz<=cs.length ->
  cs'=cs.take (k*sz)++(an ys++cs.drop ((k+ys.length)*sz))∧∀y∈ys,y.cells.length=sz
 | [],k,cs,cs',h,hl=>by
  simp only[List.zipIdx_nil,List.map_nil,iN,Option.some.injEq]at h;subst h;simp[an]
 | y::ys,k,cs,cs',h,hl=>by
  simp only[List.zipIdx_cons,List.map_cons,iN]at h;split at h
  ·rename_i hc;obtain⟨lj,KM⟩:=hc;have zF:(k+1+ys.length)*sz<=(bh cs (k*sz) y.cells).length:=by
    rw[fQ (by omega)];simp only[List.length_cons]at hl;rw[show k+1+ys.length=k+(ys.length+1) by omega];exact hl
   obtain⟨e1,e2⟩:=rI ys (k+1) _ cs' h zF;refine⟨?_,fun z hz=>?_⟩
   ·rw[e1];apply List.ext_getElem?;intro j;simp only[List.length_cons]at hl ⊢;have EA:(k+1)*sz=k*sz+sz:=Nat.succ_mul k sz;have nh:(bh cs (k*sz) y.cells).take ((k+1)*sz)=cs.take (k*sz)++y.cells:=by
     simp only[bh];rw[EA,List.take_append];have hlen:(cs.take (k*sz)).length=k*sz:=by simp;omega
     have Tv:(cs.take (k*sz)).take (k*sz+sz)=cs.take (k*sz):=List.take_of_length_le (by omega);rw[hlen,Tv,show k*sz+sz-k*sz=sz by omega,List.take_append,List.take_of_length_le (Nat.le_of_eq lj),lj,Nat.sub_self];simp
    have YK:(bh cs (k*sz) y.cells).drop ((k+1+ys.length)*sz)=cs.drop ((k+(ys.length+1))*sz):=by
     simp only[bh];have hlen:(cs.take (k*sz)).length=k*sz:=by simp;omega
     have hmul:(k+1+ys.length)*sz=k*sz+sz+ys.length*sz:=by rw[Nat.add_mul,EA]
     have SZ:(k+(ys.length+1))*sz=k*sz+sz+ys.length*sz:=by rw[Nat.add_mul,Nat.succ_mul];omega
     have wu:(cs.take (k*sz)).drop (k*sz+sz+ys.length*sz)=[]:=List.drop_of_length_le (by rw[hlen];omega);have oM:y.cells.drop (k*sz+sz+ys.length*sz-k*sz)=[]:=List.drop_of_length_le (by omega);rw[hmul,SZ,List.drop_append,wu,hlen,List.nil_append,List.drop_append,oM,List.nil_append,List.drop_drop,lj];congr 1;omega
    rw[nh,YK];simp[an,List.append_assoc]
   rcases List.mem_cons.1 hz with hz|hz
   ·subst hz;exact lj
   exact e2 z hz
  cases h
def gv:Nat->List (Nat×ae)->Option (List ae)
 | _,[]=>some []
 | k,(i,x)::r =>
  if i=k then
   match gv (k+1) r with
   | some xs=>some (x::xs)
   | none=>none
  else none
theorem oo:∀{ps:List (Nat×ae)} {k:Nat} {xs:List ae},gv k ps=some xs->ps=(xs.zipIdx k).map fun p=>(p.2,p.1)
 | [],k,xs,h=>by
  simp only[gv,Option.some.injEq]at h;subst h;rfl
 | (i,x)::r,k,xs,h=>by
  simp only[gv]at h;split at h
  ·rename_i hi;subst hi;cases hr:gv (i+1) r with
   | none=>simp[hr]at h
   | some ys =>
    simp only[hr,Option.some.injEq]at h;subst h;simp[oo hr]
  cases h
theorem ae.lg(x:ae):x.share.cells=x.cells.map ae.bg:=by
 cases x<;>rfl
theorem jg.de{g:G}{cs:List ae}{arr:Array Value}(h:jg g cs arr):jg g (cs.map ae.bg) arr :=
 ⟨by simpa using h.1,fun j c u h1 h2=>by
  rw[List.getElem?_map,Option.map_eq_some_iff]at h1;obtain⟨c',h3,h4⟩:=h1;subst h4;exact(h.2 j c' u h3 h2).bg⟩
theorem fi(xs:List ae):an (xs.map ae.share)=(an xs).map ae.bg:=by
 induction xs with
 | nil=>rfl
 | cons y ys ih =>
  simp only[an,List.map_cons,List.flatMap_cons,List.map_append,ae.lg]at ih ⊢;rw[ih]
theorem sX{P:Program}{aR:ez}(hT:bT P aR){o:Oper}{σ:St}{t e:TypeId}{len:Nat}{parts:Array (Nat×Operand)}{ti te:b6}{ps:List (Nat×ae)}{xs:List ae}
  (ho:o.op=.buildSlice t len parts) (hd:∀d,o.dst=some d->d<σ.n) (ht:aR t=some ti) (aS:ti.desc=.slice e) (he:aR e=some te) (pP:0<te.size) (xn:σ.eR parts.toList=some ps) (ga:∀p∈ps,p.2.flat)
  (IX:gv 0 ps=some xs) (hlen:xs.length=len) (cH:∀x∈xs,x.cells.length=te.size) (To:len*te.size<=2 ^ 24):Cert P o σ (.aA te.size (xs.map ae.share) .ex) .pure :=
 Cert.iy hd fun base fw a g bE h _=>by
  have hg:=bE.good;have wA:=jO (a:=a) (g:=g) (fun x hx y hy=>h x (by simpa[ho,Op.operands]using hx) y hy) xn ga;have hu:=bQ hT ht aS;obtain⟨⟨i,z,h1,h2,h3,h4,h5,h6,h7,h8,h9⟩,_⟩:=hT e te he;have qO:=oo IX;have df:∀x∈xs,∀c∈x.cells,c.scalar:=by
   have aux:∀{ps:List (Nat×ae)} {vs:List (Nat×Value)},B6 g ps vs->∀p∈ps,∀c∈p.2.cells,c.scalar:=by
    intro ps vs hr;induction hr with
    | nil=>intro p hp;cases hp
    | cons hx hf r ih =>
     intro p hp;rcases List.mem_cons.1 hp with hp|hp
     ·subst hp;exact hx.iH hf
     exact ih p hp
   intro x hx c hc;have fL:∃k,(k,x)∈ps:=by
    obtain⟨k,hk⟩:=List.getElem?_of_mem hx;refine⟨0+k,?_⟩;rw[qO,List.mem_map];refine⟨(x,0+k),?_,rfl⟩;rw[List.mem_iff_getElem?];exact⟨k,by simp[hk]⟩
   obtain⟨k,hk⟩:=fL;exact aux wA _ hk c hc
  by_cases hz:len=0
  ·subst hz;have u7:xs=[]:=List.length_eq_zero_iff.1 hlen;subst u7;have VO:ps=[]:=by rw[qO];rfl
   subst VO;have S':parts.toList=[]:=by
    cases hp:parts.toList with
    | nil=>rfl
    | cons p r =>
     obtain⟨i,x⟩:=p;rw[hp]at xn;simp only[St.eR]at xn;cases hx:σ.ev x with
     | none=>simp[hx]at xn
     | some y =>
      cases hr:σ.eR r with
      | none=>simp[hx,hr]at xn
      | some ys=>simp[hx,hr]at xn
   have Qa:parts = #[]:=Array.toList_eq_nil_iff.1 S';subst Qa;refine⟨.slice (some ⟨g.w.heap.size,0,none⟩) 0 0,g.push (.cells #[] e),.inl ?_,Le.push g hg _,hg.push _,rfl,?_⟩
   ·have er:Array.range 0 = #[]:=rfl;simp[execOp,ho,Instr.buildSlice,run_underlying hu,Go.sizeOf,typeInfo,h1,Instr.fill,Go.newRow,G.push,er]
   exact RV.newRow (xs:=[]) hg (by simp) (by simp) (by simp) ⟨by simp[an],by simp[an]⟩
  have cq:¬len*i.size=0:=by
   rw[h2];intro e0;rcases Nat.mul_eq_zero.1 e0 with q|q<;>omega
  obtain⟨zs,yJ⟩:∃zs:Array Value,zs=(Array.range (len*i.size)).map (z.cells[· % z.cells.size]!):=⟨_,rfl⟩
  have Dc:zs.size=len*te.size:=by rw[yJ];simp[h2]
  obtain⟨zc,TG,Hg,zJ⟩:∃zc:List ae,(∀c∈zc,c.scalar)∧jg g zc zs∧zc.length=len*te.size:=by
   refine⟨(List.range (len*te.size)).map fun j=>te.zero.getD (j % te.size) (.v (.bool false)),fun c hc=>?_,⟨by simp[Dc],fun j c u hj Mb=>?_⟩,by simp⟩
   ·rw[List.mem_map]at hc;obtain⟨j,_,e⟩:=hc;subst e;have bf:j % te.size<te.zero.length:=by rw[h6];exact Nat.mod_lt _ pP
    rw[List.getD_eq_getElem?_getD,List.getElem?_eq_getElem bf];exact h9 _ (List.getElem_mem bf)
   have iB:=I hj;simp only[List.length_map,List.length_range]at iB;rw[List.getElem?_map,List.getElem?_range iB]at hj;simp only[Option.map_some,Option.some.injEq]at hj;subst hj;have bf:j % te.size<te.zero.length:=by rw[h6];exact Nat.mod_lt _ pP
   have j6:j % te.size<z.cells.size:=by rw[h5];exact bf
   rw[yJ]at Mb;simp only[Array.getElem?_map,h2,Array.getElem?_range,if_pos iB,Option.map_some,Option.some.injEq]at Mb;subst Mb;rw[List.getD_eq_getElem?_getD,List.getElem?_eq_getElem bf];refine h8 g (j % te.size) _ _ (List.getElem?_eq_getElem bf) ?_;rw[h5,h6];simp[j6]
  have ID:∃cs',iN (fun i=>some (i*te.size,te.size)) zc ps=some cs':=by
   have aux:∀(ys:List ae) (k:Nat) (cs:List ae),(∀y∈ys,y.cells.length=te.size)->(k+ys.length)*te.size<=cs.length->∃cs',iN (fun i=>some (i*te.size,te.size)) cs ((ys.zipIdx k).map fun p=>(p.2,p.1))=some cs':=by
    intro ys;induction ys with
    | nil=>intro k cs _ _;exact⟨cs,rfl⟩
    | cons y ys ih =>
     intro k cs hy hl;simp only[List.zipIdx_cons,List.map_cons,iN];simp only[List.length_cons]at hl;have EA:(k+1)*te.size=k*te.size+te.size:=Nat.succ_mul k te.size;have EC:(k+1)*te.size<=(k+(ys.length+1))*te.size:=Nat.mul_le_mul_right _ (by omega);have hc:y.cells.length=te.size∧k*te.size+te.size<=cs.length:=⟨hy y (by simp),by omega⟩
     rw[if_pos hc];refine ih (k+1) _ (fun z hz=>hy z (List.mem_cons_of_mem _ hz)) ?_;rw[fQ (by omega),show k+1+ys.length=k+(ys.length+1) by omega];exact hl
   rw[qO];exact aux xs 0 zc cH (by rw[zJ,hlen,Nat.zero_add];exact Nat.le_refl _)
  obtain⟨cs',C1⟩:=ID;obtain⟨b9,q1,q2,_⟩:=oI (fun i=>some (i*te.size,te.size)) wA Hg C1;obtain⟨e1,_⟩:=rI xs 0 zc cs' (by rw[<-qO];exact C1) (by rw[zJ,hlen,Nat.zero_add];exact Nat.le_refl _);have e2:cs'=an xs:=by
   rw[e1];simp only[Nat.zero_mul,List.take_zero,List.nil_append,Nat.zero_add];rw[List.drop_of_length_le (by rw[zJ,hlen];omega),List.append_nil]
  subst e2;have bF:(Instr.buildSlice t len (parts.map fun(i,x)=>(i,a.eval x))).run P g.w=.ok (.slice (some ⟨g.w.heap.size,0,none⟩) len len) (g.w.alloc (.cells b9 e)):=by
   have yC:¬len*i.size > 2 ^ 24:=by rw[h2];omega
   rw[yJ,<-h2]at q1;have ON:Instr.fill (fun V8=>some (V8*i.size,i.size)) ((Array.range (len*i.size)).map (z.cells[· % z.cells.size]!)) (parts.map fun(i,x)=>(i,a.eval x)).toList=some b9:=by
    rw[Array.toList_map];exact q1
   simp only[Instr.buildSlice,run_underlying hu,Go.sizeOf,typeInfo,Go.zeroValue,Sem.run_bind,run_program,Result.andThen_ok,h1,Sem.run_pure,Go.newRow];rw[if_neg yC,if_neg cq];simp only[Sem.run_bind,Sem.run_pure,Result.andThen_ok,run_program,h1,h4,ON,run_newObj];rfl
  refine⟨.slice (some ⟨g.w.heap.size,0,none⟩) len len,g.push (.cells b9 e),.inl (by simp[execOp,ho,bF,G.push]),Le.push g hg _,hg.push _,rfl,?_⟩;have:=RV.newRow (xs:=xs.map ae.share) (sz:=te.size) (arr:=b9) (t:=e) hg (fun x hx=>by
   rw[List.mem_map]at hx;obtain⟨y,h1,h2⟩:=hx;subst h2;rw[ae.lg,List.length_map];exact cH y h1) (fun x hx c hc=>by
   rw[List.mem_map]at hx;obtain⟨y,h1,h2⟩:=hx;subst h2;rw[ae.lg,List.mem_map]at hc;obtain⟨c',h3,h4⟩:=hc;subst h4;exact ae.ew (df y h1 c' h3)) (by
    simp only[List.length_map,hlen];have:len<=len*te.size:=Nat.le_mul_of_pos_right _ pP;omega) (by rw[fi];exact q2.de)
  rw[List.length_map,hlen]at this;exact this
end Go.Av
namespace Go.Av
theorem eH{g:G}{o:ak}:(g.objs++[o])[g.objs.length]?=some o:=by simp
theorem hU{g:G}(hg:Good g){l:Option Loc}:(g.env++[l])[g.objs.length]?=some l:=by
 rw[<-hg.len];simp
theorem HJ{P:Program}{o:Oper}{σ:St}{t:TypeId}{x:Operand}{y:ae}(ho:o.op=.box t x)(hd:∀d,o.dst=some d->d<σ.n)(hx:σ.ev x=some y)(hf:y.flat) :
  Cert P o σ (.mp σ.objs.length 0) (.write (σ.objs++[.cells y.cells])) :=
 Cert.iy hd fun base fw a g bE h iD=>by
  have hO:g.objs=σ.objs:=iD.resolve_left (by simp);have hg:=bE.good;have hZ:=h x (by simp[ho,Op.operands]) _ hx;have df:=hZ.iH hf;have th:=hZ.Cp df;have hle:=Le.alloc hg (.cells (a.eval x).cells t) 0 (.cells y.cells);refine⟨.pointer (some ⟨g.w.heap.size,0,none⟩),g.alloc (.cells (a.eval x).cells t) 0 (.cells y.cells),.inl ?_,hle,Good.alloc hg _ 0 _ (.inr rfl) ⟨_,t,rfl,by rw[th.1];exact Nat.le_refl _,(th.mono hle).2,df⟩,?_,?_⟩
  ·simp[execOp,ho,Instr.box,Go.newVar,Go.newRow,G.alloc]
  ·simp[G.alloc,hO,Mode.post]
  rw[<-hO];exact .mp (l:=⟨g.w.heap.size,0,_⟩) (hU hg) eH (by simp[ak.aD])
theorem Cr{P:Program}{aR:ez}(hT:bT P aR){o:Oper}{σ:St}{t:TypeId}{ti:b6}(ho:o.op=.alloc t)(hd:∀d,o.dst=some d->d<σ.n)(ht:aR t=some ti) :
  Cert P o σ (.mp σ.objs.length 0) (.write (σ.objs++[.cells ti.zero])) :=
 Cert.iy hd fun base fw a g bE h iD=>by
  have hO:g.objs=σ.objs:=iD.resolve_left (by simp);have hg:=bE.good;obtain⟨z,hz,h5,_,_,h8,h9⟩:=(hT t ti ht).zeroValue;have hle:=Le.alloc hg (.cells z.cells t) 0 (.cells ti.zero);refine⟨.pointer (some ⟨g.w.heap.size,0,none⟩),g.alloc (.cells z.cells t) 0 (.cells ti.zero),.inl ?_,hle,Good.alloc hg _ 0 _ (.inr rfl) ⟨_,t,rfl,by rw[h5];exact Nat.le_refl _,fun j c u a b=>h8 _ j c u a b,h9⟩,?_,?_⟩
  ·simp[execOp,ho,Instr.alloc,hz,Go.newVar,Go.newRow,G.alloc]
  ·simp[G.alloc,hO,Mode.post]
  rw[<-hO];exact .mp (l:=⟨g.w.heap.size,0,_⟩) (hU hg) eH (by simp[ak.aD])
theorem yl{P:Program}{o:Oper}{σ:St}{t:TypeId}(kt:KT)(hp:kt.plain)(ho:o.op=.makeMap t none)(hd:∀d,o.dst=some d->d<σ.n) :
  Cert P o σ (.mm σ.objs.length) (.write (σ.objs++[.map kt []])) :=
 Cert.iy hd fun base fw a g bE h iD=>by
  have hO:g.objs=σ.objs:=iD.resolve_left (by simp);have hg:=bE.good;have hle:=Le.alloc hg (.map #[] 0) 0 (.map kt []);refine⟨.map (some g.w.heap.size),g.alloc (.map #[] 0) 0 (.map kt []),.inl ?_,hle,Good.alloc hg _ 0 _ (.inr rfl) (sg.XP ⟨#[],0,rfl,rfl,by simp,by simp,⟨by simp,by simp⟩⟩ hp),?_,?_⟩
  ·simp[execOp,ho,Instr.makeMap,G.alloc]
  ·simp[G.alloc,hO,Mode.post]
  rw[<-hO];exact .mm (l:=⟨g.w.heap.size,0,_⟩) (hU hg) eH (by simp[ak.aD])
theorem oW(z:List ae)(hz:0<z.length):∀(m j:Nat) (c:ae),(List.replicate m z).flatten[j]?=some c->z[j % z.length]?=some c
 | 0,j,c=>by simp
 | m+1,j,c=>by
  intro hj;rw[List.replicate_succ,List.flatten_cons,List.getElem?_append]at hj;split at hj
  ·rename_i bf;rw[Nat.mod_eq_of_lt bf];exact hj
  rename_i pq;have:=oW z hz m _ c hj;rw[Nat.mod_eq_sub_mod (by omega)];exact this
theorem ur{P:Program}{aR:ez}(hT:bT P aR){o:Oper}{σ:St}{t e:TypeId}{x y:Operand}{ti te:b6}{k k':IntKind}{n:Int}
  (ho:o.op=.makeSlice t x y) (hd:∀d,o.dst=some d->d<σ.n) (ht:aR t=some ti) (aS:ti.desc=.slice e) (he:aR e=some te) (hx:σ.ev x=some (.v (.int k n))) (hy:σ.ev y=some (.v (.int k' n)))
  (h0:0<=n) (hb:te.bytes*n.toNat<=2 ^ 48) (Oi:n.toNat<=2 ^ 62) (hs:0<te.size) :
  Cert P o σ (.ms σ.objs.length 0 n.toNat n.toNat) (.write (σ.objs++[.cells (List.replicate n.toNat te.zero).flatten])) :=
 Cert.iy hd fun base fw a g bE h iD=>by
  have hO:g.objs=σ.objs:=iD.resolve_left (by simp);have hg:=bE.good;have ex:=(h x (by simp[ho,Op.operands]) _ hx).bZ.1;have ey:=(h y (by simp[ho,Op.operands]) _ hy).bZ.1;have hu:=bQ hT ht aS;obtain⟨⟨i,z,h1,h2,h3,h4,h5,h6,h7,h8,h9⟩,_⟩:=hT e te he;obtain⟨m,rfl⟩:=Int.eq_ofNat_of_zero_le h0;simp only[Int.toNat_natCast]at *;have CV:(i.bytes:Int)*(m:Int)<=281474976710656:=by
   rw[h3,<-Int.natCast_mul];omega
  have bF:=run_make (P:=P) g.w t e i z hu h1 h4 k k' m m (by omega) (Int.le_refl _) CV (by omega);simp only[Int.toNat_natCast]at bF;have hlen:(List.replicate m te.zero).flatten.length=m*te.size:=by simp[h6]
  have eJ:∀(j:Nat) (c:ae),(List.replicate m te.zero).flatten[j]?=some c->te.zero[j % te.size]?=some c:=fun j c=>h6 ▸ oW te.zero (by omega) m j c;have hle:=Le.alloc hg (.cells (madeCells z.cells (m*i.size)) e) 0 (.cells (List.replicate m te.zero).flatten);refine⟨.slice (some ⟨g.w.heap.size,0,none⟩) m m,g.alloc (.cells (madeCells z.cells (m*i.size)) e) 0 (.cells (List.replicate m te.zero).flatten),.inl ?_,hle,Good.alloc hg _ 0 _ (.inr rfl) ⟨_,e,rfl,?_,?_,?_⟩,?_,?_⟩
  ·simp[execOp,ho,ex,ey,bF,G.alloc]
  ·rw[hlen,size_madeCells,h2];exact Nat.le_refl _
  ·intro j c u hj oO;have iB:=eJ j c hj;have bf:=I hj;rw[hlen]at bf;have j6:j % te.size<z.cells.size:=by rw[h5];exact I iB
   refine h8 _ _ _ _ iB ?_;simp only[madeCells,Array.getElem?_map,h2,Array.getElem?_range,if_pos bf,Option.map_some,Option.some.injEq]at oO;subst oO;rw[h5,h6];simp[j6]
  ·intro c hc;rw[List.mem_flatten]at hc;obtain⟨l,hl,hc⟩:=hc;rw[List.mem_replicate]at hl;exact h9 c (hl.2 ▸ hc)
  ·simp[G.alloc,hO,Mode.post]
  rw[<-hO];exact .ms (l:=⟨g.w.heap.size,0,_⟩) (hU hg) eH (by simp[ak.aD]) (Nat.le_refl _) (Nat.le_refl _) Oi
theorem jg.bh{g:G}{cs xs:List ae}{arr vs:Array Value}(h:cs.length<=arr.size∧∀(j:Nat)(c:ae)(u:Value),cs[j]?=some c->arr[j]?=some u->RV g c u)(k:jg g xs vs){off:Nat}(ho:off+xs.length<=cs.length) :
  (bh cs off xs).length<=(arr.toList.take off++vs.toList++arr.toList.drop (off+vs.toList.length)).toArray.size ∧
  ∀(j:Nat) (c:ae) (u:Value),(bh cs off xs)[j]?=some c->(arr.toList.take off++vs.toList++arr.toList.drop (off+vs.toList.length)).toArray[j]?=some u->RV g c u:=by
 obtain⟨h1,h2⟩:=h;obtain⟨k1,k2⟩:=k;have hl:(arr.toList.take off).length=off:=by simp;omega
 refine⟨?_,fun j c u hj hu=>?_⟩
 ·rw[fQ ho];simp[k1];omega
 rw[mY ho]at hj;have oO:(arr.toList.take off++vs.toList++arr.toList.drop (off+vs.toList.length))[j]?=some u:=by simpa using hu
 rw[List.append_assoc,List.getElem?_append,hl,List.getElem?_append,Array.length_toList,k1]at oO;by_cases e1:j<off
 ·rw[if_pos e1]at oO;rw[if_neg (by omega)]at hj;rw[List.getElem?_take,if_pos e1]at oO;exact h2 j c u hj (by simpa using oO)
 rw[if_neg e1]at oO;by_cases e2:j-off<xs.length
 ·rw[if_pos e2]at oO;rw[if_pos (by omega)]at hj;exact k2 _ c u hj (by simpa using oO)
 rw[if_neg e2]at oO;rw[if_neg (by omega)]at hj;rw[List.getElem?_drop]at oO;refine h2 j c u hj ?_;rw[show off+xs.length+(j-off-xs.length)=j by omega]at oO;simpa using oO
theorem setRow_other(w:World)(b k:Nat)(cs:Array Value)(h:k≠b):(w.setRow b cs).heap[k]?=w.heap[k]?:=by
 simp only[World.setRow,Array.getElem?_modify];rw[if_neg (by omega)]
theorem setRow_size(w:World)(b:Nat)(cs:Array Value):(w.setRow b cs).heap.size=w.heap.size:=by
 simp[World.setRow]
theorem lq{g:G}{id:Nat}{cs cs':List ae}{l:Loc}(ho:g.objs[id]?=some (.cells cs))(he:g.env[id]?=some (some l))(ix:l.lo=0)(b9:Array Value):kC g id (.cells cs) (some l) (.cells cs') (g.w.setRow l.block b9) where
 obj:=ho
 os:=rfl
 tape:=rfl
 output:=rfl
 size:=by rw[setRow_size];exact Nat.le_refl _
 block:=fun k _ hk=>setRow_other _ _ _ _ (fun e=>hk l he trivial e.symm)
 cell:=fun b off x hx hb=>by
  by_cases e:b=l.block
  ·have:=hb l he trivial e.symm;omega
  rw[ji (setRow_other g.w l.block b b9 e)];exact hx
 place:=fun l1 h1 _=>by
  simp only[Option.some.injEq]at h1;subst h1;exact .inr ⟨l,he,trivial,rfl,Nat.le_refl _⟩
 spare:=fun m h=>by cases h
 plain:=fun _=>⟨by simp[ak.aD],he⟩
 gone:=by simp
theorem Cz{P:Program}{aR:ez}(hT:bT P aR){o:Oper}{σ:St}{t:TypeId}{x y:Operand}{ti:b6}{id off:Nat}{cs:List ae}{v:ae}(ho:o.op=.store t x y)(iZ:o.dst=none)
  (ht:aR t=some ti) (hx:σ.ev x=some (.mp id off)) (mJ:σ.objs[id]?=some (.cells cs)) (hy:σ.ev y=some v) (hf:v.flat) (cH:v.cells.length=ti.size) (hs:off+ti.size<=cs.length) :
  Cert P o σ (.v (.bool false)) (.write (σ.objs.set id (.cells (bh cs off v.cells)))) :=
 Cert.iy (by simp[iZ]) fun base fw a g bE h iD=>by
  have hO:g.objs=σ.objs:=iD.resolve_left (by simp);have hg:=bE.good;obtain⟨l,o1,he,h1,_,ex⟩:=(h x (by simp[ho,Op.operands]) _ hx).kO;have B1:=h y (by simp[ho,Op.operands]) _ hy;have df:=B1.iH hf;have th:=B1.Cp df;have kL:g.objs[id]?=some (.cells cs):=by rw[hO];exact mJ
  obtain⟨arr,t',ix,da,hlen,fA,nQ,F1⟩:=hg.row kL he;obtain⟨b9,iw⟩:∃b9,b9=(arr.toList.take off++(a.eval y).cells.toList++arr.toList.drop (off+(a.eval y).cells.toList.length)).toArray:=⟨_,rfl⟩
  have fo:=run_storeCells_at P l.block off t' (a.eval y).cells.toList 0 arr g.w da (by simp[th.1];omega) (fun u hu=>by
   obtain⟨j,hj⟩:=List.getElem?_of_mem hu;have iB:(a.eval y).cells[j]?=some u:=by simpa using hj
   have bf:=aU iB;rw[th.1]at bf;have hc:=List.getElem?_eq_getElem bf;exact((th.2 j _ u hc iB).iA (df _ (List.mem_of_getElem? hc))).1)
  simp only[Nat.add_zero]at fo;rw[<-iw]at fo;have dZ:=lq (cs':=bh cs off v.cells) kL he ix b9;have hle:=Le.bu hg dZ;have nh:=jg.bh ⟨hlen,fA⟩ th (off:=off) (by omega);rw[<-iw]at nh;refine⟨.bool false,g.bu id (some l) (.cells (bh cs off v.cells)) (g.w.setRow l.block b9),.inr ⟨iZ,?_⟩,hle,Good.bu hg dZ ?_ ?_,?_,.v trivial⟩
  ·have Rf:((a.eval y).cells.size≠ti.size)=False:=by simp[th.1,cH]
   simp[execOp,ho,ex,Instr.storeAt,Instr.sureAddr,Go.storeVar,(hT t ti ht).sizeOf,th.1,cH,fo,G.bu]
  ·refine⟨l,b9,t',rfl,ix,?_,nh.1,fun j c u a b=>(nh.2 j c u a b).mono hle,fun c hc=>?_,?_⟩
   ·exact setRow_heap g.w l.block arr b9 t' (0,0) da
   ·simp only[bh,List.mem_append]at hc;rcases hc with hc|hc|hc
    ·exact nQ c (List.mem_of_mem_take hc)
    ·exact df c hc
    exact nQ c (List.mem_of_mem_drop hc)
   have q:=th.1;rw[iw];simp only[List.size_toArray,List.length_append,List.length_take,List.length_drop,Array.length_toList];omega
  ·intro l1 h1 _;simp only[Option.some.injEq]at h1;subst h1;rw[setRow_size];exact aU da
  simp only[G.bu,Mode.post,hO]
section
variable {P:Program}
theorem gX(w w':World)(t ty e:TypeId)(i:TypeInfo)(ht:P.underlying t=some (.slice e))(hi:P.info? e=some i)(a:Addr)(nA vA n:Nat)(x:Value)(news:List Value)
  (Ms:∀w,(Builtin.lenOf x).run P w=.ok n w) (yI:(Builtin.firstCells i.size n x).run P w=.ok news.toArray w) (nf:nA+n<=vA) (fo:(storeCells (a.add (nA*i.size)) news).run P w=.ok () w') :
  (Builtin.append_ #[t,t] ty #[.slice (some a) nA vA,x]).run P w=.ok (.slice (some a) (nA+n) vA) w':=by
 simp[Builtin.append_,run_underlying ht,Go.sizeOf,typeInfo,hi,Ms,nf,yI,fo]
theorem gu(w:World)(t ty e:TypeId)(i:TypeInfo)(z:Value)(ht:P.underlying t=some (.slice e))(hi:P.info? e=some i)(hz:i.zero=some z)(s:Option Addr)(nA vA n:Nat)(x:Value)(gN news:List Value)
  (Ms:∀w,(Builtin.lenOf x).run P w=.ok n w) (yI:(Builtin.firstCells i.size n x).run P w.drew=.ok news.toArray w.drew) (hs:(Builtin.firstCells i.size nA (.slice s nA vA)).run P w.drew=.ok gN.toArray w.drew)
  (nf:vA<nA+n) (X4:nA+n<=2 ^ 62) (bo:(nA+n)*i.bytes<=2 ^ 47) :
  (Builtin.append_ #[t,t] ty #[.slice s nA vA,x]).run P w =
   .ok (.slice (some ⟨w.heap.size,0,none⟩) (nA+n) (grownCap w (nA+n) vA e)) (w.drew.alloc (.cells (gN.toArray++news.toArray++Builtin.zeroCells z.cells (grownCap w (nA+n) vA e-(nA+n))) e)):=by
 have hn:¬(nA+n<=vA):=by omega
 have UQ:¬(9223372036854775807<((nA:Int)+(n:Int))):=by omega
 have WB:¬(281474976710656<Builtin.nextslicecap (nA+n) vA*i.bytes):=by
  have h1:=nextslicecap_le nf;have h2:=Nat.mul_le_mul_right i.bytes h1;rw[Nat.mul_assoc]at h2;omega
 simp[Builtin.append_,run_underlying ht,Go.sizeOf,typeInfo,Go.zeroValue,hi,hz,Ms,hn,UQ,WB,Question.forced,yI,hs,Go.newRow,grownCap];congr 2;apply Array.ext';simp[List.append_assoc]
end
theorem RV.fN{P:Program}{g:G}{sz:Nat}{xs:List ae}{o:m9}{u:Value}(h:RV g (.aA sz xs o) u):∃(ad:Option Addr) (cap:Nat) (vs:List Value),u=.slice ad xs.length cap∧(∀w,(Builtin.lenOf u).run P w=.ok xs.length w) ∧
  (∀w:World,w.heap=g.w.heap->(Builtin.firstCells sz xs.length u).run P w=.ok vs.toArray w)∧jg g (an xs) vs.toArray∧(∀x∈xs,x.cells.length=sz)∧(∀c∈an xs,c.scalar)∧vs.length=xs.length*sz:=by
 rcases h.fg with⟨e1,e2⟩|⟨a,cap,f,e1,cH,df,_,_,hs,hm,hr,_⟩
 ·subst e1 e2;exact⟨none,0,[],rfl,fun w=>rfl,fun w _=>by simp[Builtin.firstCells],⟨by simp[an],by simp[an]⟩,by simp,by simp[an],by simp⟩
 subst e1;have hl:=bz cH;refine⟨some a,cap,(List.range (xs.length*sz)).map f,rfl,fun w=>rfl,fun w hw=>?_,⟨by simp[hl],fun j c u hj hu=>?_⟩,cH,fun c hc=>?_,by simp⟩
 ·simp only[Builtin.firstCells];refine run_loadCells w a (xs.length*sz) f fun j hj=>?_;have iB:j<(an xs).length:=by omega
  have cq:xs≠[]:=by
   intro e;subst e;simp[an]at iB
  have:=(hm j _ (List.getElem?_eq_getElem iB)).1;obtain⟨b,off,sp⟩:=a;have nh:=hs cq;simp only at nh;subst nh;rw[addr_add];simp only[World.cell?,hw];exact this
 ·have bf:=I hj;rw[hl]at bf;have oO:((List.range (xs.length*sz)).map f)[j]?=some u:=by simpa using hu
  rw[List.getElem?_map,List.getElem?_range bf]at oO;simp only[Option.map_some,Option.some.injEq]at oO;subst oO;exact hr j c hj
 simp only[an,List.mem_flatMap]at hc;obtain⟨x,hx,hc⟩:=hc;exact df x hx c hc
theorem cE(xs ys:List ae):an (xs++ys)=an xs++an ys:=by simp[an]
theorem jg.append{g:G}{cs ds:List ae}{us vs:List Value}(h:jg g cs us.toArray)(k:jg g ds vs.toArray):jg g (cs++ds) (us++vs).toArray:=by
 obtain⟨h1,h2⟩:=h;obtain⟨k1,k2⟩:=k;simp only[List.size_toArray]at h1 k1;refine⟨by simp[h1,k1],fun j c u hj hu=>?_⟩;have oO:(us++vs)[j]?=some u:=by simpa using hu
 rw[List.getElem?_append]at hj oO;by_cases e:j<cs.length
 ·rw[if_pos e]at hj;rw[if_pos (by omega)]at oO;exact h2 j c u hj (by simpa using oO)
 rw[if_neg e]at hj;rw[if_neg (by omega),h1]at oO;exact k2 _ c u hj (by simpa using oO)
theorem RV.y3{g:G}{zs:List ae}{sz cap:Nat}{l:Loc}{arr:Array Value}{t:TypeId}{id:Nat}(hg:Good g)(cH:∀x∈zs,x.cells.length=sz)(df:∀c∈an zs,c.scalar)(cy:zs.length<=2 ^ 62)(cP:zs.length<=cap)
  (he:g.env[id]?=some (some l)) (fK:g.objs[id]?=some (.spare zs.length)) (ix:l.lo=zs.length*sz) (da:g.w.heap[l.block]?=some (.cells arr t (0,0))) (hc:cap*sz<=arr.size) (dG:∀off,¬g.fr l.block off)
  (hr:∀(j:Nat) (c:ae) (u:Value),(an zs)[j]?=some c->arr[j]?=some u->RV g c u):RV g (.aA sz zs (.tok id)) (.slice (some ⟨l.block,0,none⟩) zs.length cap):=by
 have hl:=bz cH;have hle:zs.length*sz<=cap*sz:=Nat.mul_le_mul_right _ cP;refine .aA cH (fun x hx c hc=>df c (by simp only[an,List.mem_flatMap];exact⟨x,hx,hc⟩)) cP cy (fun _=>rfl) (fun j=>arr.getD j undef) (fun j c hj=>?_) (fun j c hj=>?_) ⟨I fK,fun m hm=>?_⟩
 ·have bf:=I hj;rw[hl]at bf;refine⟨?_,?_⟩
  ·simp only[G.cell,Nat.zero_add];rw[cell_of_row da];simp[Array.getD_eq_getD_getElem?,show j<arr.size by omega]
  rintro(hf|⟨lE,l',o',h1,h2,h3,h4,h5⟩)
  ·exact dG _ hf
  have hb:l'.block=l.block:=h4;have:=hg.apart lE id l' l o' _ h1 h2 h3 he fK trivial hb;subst this;rw[he]at h1;simp only[Option.some.injEq]at h1;subst h1;simp only[Nat.zero_add]at h5;omega
 ·have bf:=I hj;rw[hl]at bf;exact hr j c _ hj (by simp[Array.getD_eq_getD_getElem?,show j<arr.size by omega])
 rw[fK]at hm;simp only[Option.some.injEq,ak.spare.injEq]at hm;subst hm;exact⟨Nat.le_refl _,fun _=>.inr ⟨l,arr,t,he,rfl,ix,da,hc⟩⟩
theorem jg.jv{g:G}{ys:List ae}{vs:List Value}(h:jg g (an ys) vs.toArray):jg g (an (ys.map ae.share)) vs.toArray:=by
 rw[fi];exact h.de
theorem dD{ys:List ae}{sz:Nat}(h:∀x∈ys,x.cells.length=sz):∀x∈ys.map ae.share,x.cells.length=sz:=fun x hx=>by
 rw[List.mem_map]at hx;obtain⟨y,h1,h2⟩:=hx;subst h2;rw[ae.lg,List.length_map];exact h y h1
theorem dp{ys:List ae}(h:∀c∈an ys,c.scalar):∀c∈an (ys.map ae.share),c.scalar:=fun c hc=>by
 rw[fi,List.mem_map]at hc;obtain⟨c',h1,h2⟩:=hc;subst h2;exact ae.ew (h c' h1)
theorem eg{gN news rest:Array Value}{j:Nat}{u:Value}(h:(gN++news++rest)[j]?=some u)(hj:j<gN.size+news.size):(gN++news)[j]?=some u:=by
 rw[Array.getElem?_append]at h;rw[if_pos (by simpa using hj)]at h;exact h
theorem uf{P:Program}{aR:ez}(hT:bT P aR){o:Oper}{σ:St}{t e:TypeId}{x y:Operand}{ti te:b6}{sz:Nat}{xs ys:List ae}{ow:m9}
  (ho:o.op=.call ⟨.builtin .append,#[x,y],#[t,t]⟩) (hd:∀d,o.dst=some d->d<σ.n) (ht:aR t=some ti) (aS:ti.desc=.slice e) (he:aR e=some te) (cH:te.size=sz) (hx:σ.ev x=some (.aA sz xs .ex)) (hy:σ.ev y=some (.aA sz ys ow))
  (hlen:xs.length+ys.length<=2 ^ 62) (hb:(xs.length+ys.length)*te.bytes<=2 ^ 47) :
  Cert P o σ (.aA sz (xs++ys.map ae.share) (.tok σ.objs.length)) (.write (σ.objs++[.spare (xs.length+ys.length)])) :=
 Cert.iy hd fun base fw a g bE h iD=>by
  have hO:g.objs=σ.objs:=iD.resolve_left (by simp);have hg:=bE.good;have hu:=bQ hT ht aS;subst cH;have hZ:=h x (by simp[ho,Op.operands,Call.operands]) _ hx;have B1:=h y (by simp[ho,Op.operands,Call.operands]) _ hy;obtain⟨BX,ly,gN,ex,Ms,yI,Mt,I0,KW,EJ⟩:=hZ.fN (P:=P);obtain⟨RB,HC,news,ey,AY,AZ,A1,Hf,EL,tA⟩:=B1.fN (P:=P);obtain⟨⟨i,z,h1,h2,h3,h4,h5,h6,h7,h8,h9⟩,_⟩:=hT e te he;have qK:ly=xs.length:=by
   rcases hZ.fg with⟨q1,q2⟩|⟨ad,cap,f,q1,_,_,_,_,_,_,_,q2⟩
   ·rw[ex]at q1;cases q2;simp at q1;simp[q1]
   rw[ex]at q1;simp only[Value.slice.injEq]at q1;rw[q1.2.2];exact q2
  subst qK;have cV:=cJ (P:=P) ho a g.w;simp only[builtin,List.map_toArray,List.map_cons,List.map_nil]at cV;by_cases hn:ys.length=0
  ·have A2:ys=[]:=List.length_eq_zero_iff.1 hn;subst A2;have sw:news=[]:=by
    have:news.length=0:=by simpa using tA
    exact List.length_eq_zero_iff.1 this
   subst sw;have bF:(Builtin.append_ #[t,t] o.type #[a.eval x,a.eval y]).run P g.w=.ok (a.eval x) g.w:=by
    rw[ex];cases BX with
    | none =>
     have Rl:xs=[]:=by
      rcases hZ.fg with⟨_,q2⟩|⟨ad,cap,f,q1,_⟩
      ·exact q2
      rw[ex]at q1;simp at q1
     subst Rl;have q:=AZ g.w rfl;simp only[List.length_nil]at q;simp[Builtin.append_,run_underlying hu,Go.sizeOf,typeInfo,h1,AY,h2,q]
    | some ad =>
     have:=gX (P:=P) g.w g.w t o.type e i hu h1 ad xs.length xs.length 0 (a.eval y) [] (fun w=>by simpa using AY w) (by rw[h2];simpa using AZ g.w rfl) (by omega) (by simp[storeCells]);simpa using this
   refine⟨a.eval x,g.mark (.spare (xs.length+0)),.inl (by rw[cV];simp[bF,G.mark]),Le.mark hg _,Good.mark hg _,by simp[G.mark,hO,Mode.post],?_⟩;simp only[List.map_nil,List.append_nil];have KX:=hZ.mono (Le.mark hg (.spare (xs.length+0)));cases oO:a.eval x with
   | slice ad len cap =>
    rw[oO]at KX;cases KX with
    | nil=>exact .nil (fun id e=>by simp only[m9.tok.injEq]at e;subst e;simp[G.mark,hO]) (by simp)
    | aA cH df cP cy hs f hm hr Rb =>
     refine .aA cH df cP cy hs f hm hr ⟨by simp[G.mark,hO],fun m dS=>?_⟩;have:(g.mark (.spare (xs.length+0))).objs[σ.objs.length]?=some (.spare (xs.length+0)):=by
      rw[<-hO];exact eH
     rw[this]at dS;simp only[Option.some.injEq,ak.spare.injEq]at dS;exact⟨by omega,fun _=>.inl Rb⟩
   | _=>rw[ex]at oO;cases oO
  have bF:=gu (P:=P) g.w t o.type e i z hu h1 h4 BX xs.length xs.length ys.length (a.eval y) gN news AY (by rw[h2];exact AZ g.w.drew rfl) (by rw[h2,<-ex];exact yI g.w.drew rfl) (by omega) hlen (by rw[h3];exact hb);rw[<-ex]at bF;obtain⟨cap,cP⟩:∃cap,cap=grownCap g.w (xs.length+ys.length) xs.length e:=⟨_,rfl⟩
  obtain⟨rest,cG⟩:∃rest,rest=Builtin.zeroCells z.cells (cap-(xs.length+ys.length)):=⟨_,rfl⟩
  have pq:=grownCap_ge g.w (xs.length+ys.length) xs.length e;rw[<-cP]at bF pq;rw[<-cG]at bF;have xv:rest.size=(cap-(xs.length+ys.length))*te.size:=by rw[cG,size_zeroCells,h5,h6]
  obtain⟨arr,gm⟩:∃arr,arr=gN.toArray++news.toArray++rest:=⟨_,rfl⟩
  rw[<-gm]at bF;have nt:=hg.heap (w':=g.w.drew) rfl rfl rfl rfl;have nR:=Le.heap (g:=g) (w':=g.w.drew) rfl rfl rfl rfl;obtain⟨g1,kY⟩:∃g1:G,g1=⟨g.w.drew,g.fr,g.env,g.objs⟩:=⟨_,rfl⟩
  rw[<-kY]at nt nR;have rP:g1.w=g.w.drew:=by rw[kY]
  have mI:g1.objs=σ.objs:=by rw[kY];exact hO
  have iC:Fits (g1.alloc (.cells arr e) ((xs.length+ys.length)*te.size) (.spare (xs.length+ys.length))) (.cells arr e) (.spare (xs.length+ys.length)):=⟨arr,e,rfl⟩
  have c8:=Good.alloc nt (.cells arr e) ((xs.length+ys.length)*te.size) (.spare (xs.length+ys.length)) (.inl trivial) iC;have hle:=nR.trans (Le.alloc nt (.cells arr e) ((xs.length+ys.length)*te.size) (.spare (xs.length+ys.length)));refine⟨.slice (some ⟨g.w.heap.size,0,none⟩) (xs.length+ys.length) cap,_,.inl ?_,hle,c8,?_,?_⟩
  ·rw[cV];simp[bF,G.alloc,rP]
  ·simp[G.alloc,mI,Mode.post]
  have gV:(xs++ys.map ae.share).length=xs.length+ys.length:=by simp
  have ij:=Mt.append A1.jv;rw[<-cE]at ij;have gg:(an (xs++ys.map ae.share)).length=(xs.length+ys.length)*te.size:=by
   rw[bz (sz:=te.size) (fun x hx=>by
    rcases List.mem_append.1 hx with q|q
    ·exact I0 x q
    exact dD Hf x q),gV]
  have:=RV.y3 (g:=g1.alloc (.cells arr e) ((xs.length+ys.length)*te.size) (.spare (xs.length+ys.length))) (zs:=xs++ys.map ae.share) (sz:=te.size) (cap:=cap) (l:=⟨g.w.heap.size,(xs.length+ys.length)*te.size,arr.size⟩) (arr:=arr) (t:=e) (id:=σ.objs.length) c8
   (fun x hx=>by
    rcases List.mem_append.1 hx with q|q
    ·exact I0 x q
    exact dD Hf x q)
   (fun c hc=>by
    rw[cE]at hc;rcases List.mem_append.1 hc with q|q
    ·exact KW c q
    exact dp EL c q)
   (by rw[gV];exact hlen) (by rw[gV];exact pq) (by
    have:=hU nt (l:=some ⟨g1.w.heap.size,(xs.length+ys.length)*te.size,lP (.cells arr e)⟩);rw[mI]at this;simp only[G.alloc];rw[this,rP];rfl) (by rw[gV,<-mI];exact eH) (by rw[gV]) (by
    have:=cF g1.w (.cells arr e);rw[rP]at this;simp only[G.alloc,rP];exact this) (by
    rw[gm];simp only[Array.size_append,List.size_toArray,EJ,tA,xv,<-Nat.add_mul];rw[show xs.length+ys.length+(cap-(xs.length+ys.length))=cap by omega];exact Nat.le_refl _) (fun off hf=>by
    have ff:g.fr g.w.heap.size off:=by rw[kY]at hf;exact hf
    have:=hg.frlt _ _ ff;omega) (fun j c u hj hu=>by
    have bf:=I hj;rw[gg]at bf;rw[gm]at hu;have wD:=eg hu (by simp only[List.size_toArray,EJ,tA,<-Nat.add_mul];exact bf);exact(ij.2 j c u hj (by simpa using wD)).mono hle)
  rw[gV]at this;exact this
theorem sW{P:Program}{aR:ez}(hT:bT P aR){o:Oper}{σ:St}{t e:TypeId}{x y:Operand}{ti te:b6}{sz:Nat}{xs ys:List ae}{ow:m9}{id:Nat}
  (ho:o.op=.call ⟨.builtin .append,#[x,y],#[t,t]⟩) (hd:∀d,o.dst=some d->d<σ.n) (ht:aR t=some ti) (aS:ti.desc=.slice e) (he:aR e=some te) (cH:te.size=sz) (hx:σ.ev x=some (.aA sz xs (.tok id))) (hy:σ.ev y=some (.aA sz ys ow))
  (fK:σ.objs[id]?=some (.spare xs.length)) (hlen:xs.length+ys.length<=2 ^ 62) (hb:(xs.length+ys.length)*te.bytes<=2 ^ 47) :
  Cert P o σ (.aA sz (xs++ys.map ae.share) (.tok id)) (.write (σ.objs.set id (.spare (xs.length+ys.length)))) :=
 Cert.iy hd fun base fw a g bE h iD=>by
  have hO:g.objs=σ.objs:=iD.resolve_left (by simp);have hg:=bE.good;have hu:=bQ hT ht aS;subst cH;have hZ:=h x (by simp[ho,Op.operands,Call.operands]) _ hx;have B1:=h y (by simp[ho,Op.operands,Call.operands]) _ hy;obtain⟨BX,ly,gN,ex,Ms,yI,Mt,I0,KW,EJ⟩:=hZ.fN (P:=P);obtain⟨RB,HC,news,ey,AY,AZ,A1,Hf,EL,tA⟩:=B1.fN (P:=P);obtain⟨⟨i,z,h1,h2,h3,h4,h5,h6,h7,h8,h9⟩,_⟩:=hT e te he;have gb:g.objs[id]?=some (.spare xs.length):=by rw[hO];exact fK
  have cV:=cJ (P:=P) ho a g.w;simp only[builtin,List.map_toArray,List.map_cons,List.map_nil]at cV;have gL:∀m,m=xs.length->g.objs.set id (.spare m)=g.objs:=fun m hm=>by
   subst hm;apply List.ext_getElem?;intro k;by_cases e:id=k
   ·subst e;rw[List.getElem?_set_self (I gb),gb]
   rw[List.getElem?_set_ne e]
  have gV:(xs++ys.map ae.share).length=xs.length+ys.length:=by simp
  have Dc:∀x∈xs++ys.map ae.share,x.cells.length=te.size:=fun x hx=>by
   rcases List.mem_append.1 hx with q|q
   ·exact I0 x q
   exact dD Hf x q
  have I1:∀c∈an (xs++ys.map ae.share),c.scalar:=fun c hc=>by
   rw[cE]at hc;rcases List.mem_append.1 hc with q|q
   ·exact KW c q
   exact dp EL c q
  have gg:(an (xs++ys.map ae.share)).length=(xs.length+ys.length)*te.size:=by
   rw[bz Dc,gV]
  have ij:=Mt.append A1.jv;rw[<-cE]at ij;by_cases hn:ys.length=0
  ·have A2:ys=[]:=List.length_eq_zero_iff.1 hn;subst A2;have sw:news=[]:=by
    have:news.length=0:=by simpa using tA
    exact List.length_eq_zero_iff.1 this
   subst sw;have cP:xs.length<=ly:=by
    rcases hZ.fg with⟨_,q2⟩|⟨ad,cap,f,q1,_,_,q2,_⟩
    ·simp[q2]
    rw[ex]at q1;simp only[Value.slice.injEq]at q1;rw[q1.2.2];exact q2
   have bF:(Builtin.append_ #[t,t] o.type #[a.eval x,a.eval y]).run P g.w=.ok (a.eval x) g.w:=by
    rw[ex];cases BX with
    | none =>
     have Rl:xs=[]∧ly=0:=by
      rcases hZ.fg with⟨q1,q2⟩|⟨ad,cap,f,q1,_⟩
      ·rw[ex]at q1;simp only[Value.slice.injEq]at q1;exact⟨q2,q1.2.2⟩
      rw[ex]at q1;simp at q1
     obtain⟨e1,e2⟩:=Rl;subst e1;subst e2;have q:=AZ g.w rfl;simp only[List.length_nil]at q;simp[Builtin.append_,run_underlying hu,Go.sizeOf,typeInfo,h1,AY,h2,q]
    | some ad =>
     have:=gX (P:=P) g.w g.w t o.type e i hu h1 ad xs.length ly 0 (a.eval y) [] (fun w=>by simpa using AY w) (by rw[h2];simpa using AZ g.w rfl) (by omega) (by simp[storeCells]);simpa using this
   refine⟨a.eval x,g,.inl (by rw[cV];simp[bF]),Le.refl g,hg,?_,?_⟩
   ·simp only[Mode.post,<-hO];exact(gL _ (by simp)).symm
   simpa using hZ
  have hm:xs.length<xs.length+ys.length:=by omega
  by_cases nf:xs.length+ys.length<=ly
  ·-- in place
   obtain⟨l,arr,t',q1,q2,q3,q4,q5⟩:∃(l:Loc) (arr:Array Value) (t':TypeId),g.env[id]?=some (some l)∧BX=some ⟨l.block,0,none⟩∧l.lo=xs.length*te.size∧g.w.heap[l.block]?=some (.cells arr t' (0,0))∧ly*te.size<=arr.size:=by
    rcases hZ.fg with⟨q1,q2⟩|⟨ad,cap,f,q1,_,_,_,_,_,_,_,q2⟩
    ·rw[ex]at q1;simp only[Value.slice.injEq]at q1;omega
    rw[ex]at q1;simp only[Value.slice.injEq]at q1;obtain⟨e1,_,e3⟩:=q1;subst e1;subst e3;rcases(q2.2 _ gb).2 rfl with q|⟨l,arr,t',q1,q2,q3,q4,q5⟩
    ·omega
    exact⟨l,arr,t',q1,by rw[q2],q3,q4,q5⟩
   subst q2;have bo:xs.length*te.size+0+news.length<=arr.size:=by
    rw[tA,Nat.add_zero,<-Nat.add_mul];exact Nat.le_trans (Nat.mul_le_mul_right _ nf) q5
   have IT:∀v∈news,v.oneCell'=true:=fun v hv=>by
    obtain⟨j,hj⟩:=List.getElem?_of_mem hv;have bf:=I hj;have hs:=A1.1;simp only[List.size_toArray]at hs;rw[hs]at bf;have hc:=List.getElem?_eq_getElem bf;exact((A1.2 j _ v hc (by simpa using hj)).iA (EL _ (List.mem_of_getElem? hc))).1
   have fo:=run_storeCells_at P l.block (xs.length*te.size) t' news 0 arr g.w q4 bo IT;simp only[Nat.add_zero]at fo;obtain⟨b9,iw⟩:∃b9,b9=(arr.toList.take (xs.length*te.size)++news++arr.toList.drop (xs.length*te.size+news.length)).toArray:=⟨_,rfl⟩
   rw[<-iw]at fo;have nU:b9.size=arr.size:=by
    rw[iw];simp;omega
   have yF:∀j,j<xs.length*te.size->b9[j]?=arr[j]?:=fun j hj=>by
    rw[iw];simp only[List.append_assoc,List.getElem?_toArray];rw[List.getElem?_append,if_pos (by simp;omega),List.getElem?_take,if_pos hj];simp
   have uQ:∀j u,b9[j]?=some u->xs.length*te.size<=j->j<(xs.length+ys.length)*te.size->news[j-xs.length*te.size]?=some u:=fun j u hj h1 h2=>by
    rw[iw]at hj;simp only[List.append_assoc,List.getElem?_toArray]at hj;have P1:(arr.toList.take (xs.length*te.size)).length=xs.length*te.size:=by simp;omega
    rw[List.getElem?_append,P1,if_neg (by omega),List.getElem?_append,if_pos (by rw[tA];rw[Nat.add_mul]at h2;omega)]at hj;exact hj
   have bF:=gX (P:=P) g.w (g.w.setRow l.block b9) t o.type e i hu h1 ⟨l.block,0,none⟩ xs.length ly ys.length (a.eval y) news AY (by rw[h2];exact AZ g.w rfl) nf (by rw[h2,addr_add,Nat.zero_add];exact fo);rw[<-ex]at bF;have dZ:kC g id (.spare xs.length) (some ⟨l.block,(xs.length+ys.length)*te.size,0⟩) (.spare (xs.length+ys.length)) (g.w.setRow l.block b9):={
    obj:=gb
    os:=rfl
    tape:=rfl
    output:=rfl
    size:=by rw[setRow_size];exact Nat.le_refl _
    block:=fun k _ hk=>setRow_other _ _ _ _ (fun e=>hk l q1 trivial e.symm)
    cell:=fun b off x hx hb=>by
     by_cases e:b=l.block
     ·subst e;have bf:=hb l q1 trivial rfl;rw[q3]at bf;rw[cell_of_row (setRow_heap g.w l.block arr b9 t' (0,0) q4),yF off bf];simp only[G.cell]at hx;rw[cell_of_row q4]at hx;exact hx
     rw[ji (setRow_other g.w l.block b b9 e)];exact hx
    place:=fun l1 h1 _=>by
     simp only[Option.some.injEq]at h1;subst h1;exact .inr ⟨l,q1,trivial,rfl,by rw[q3];exact Nat.mul_le_mul_right _ (by omega)⟩
    spare:=fun m h=>by
     simp only[ak.spare.injEq]at h;subst h;exact .inl ⟨_,rfl,hm⟩
    plain:=fun h=>absurd trivial h
    gone:=by simp }
   have hle:=Le.bu hg dZ;have c8:=Good.bu hg dZ (fun l1 h1=>by
    simp only[Option.some.injEq]at h1;subst h1;exact⟨b9,t',setRow_heap g.w l.block arr b9 t' (0,0) q4⟩) (fun l1 h1 _=>by
    simp only[Option.some.injEq]at h1;subst h1;rw[setRow_size];exact aU q4)
   refine⟨.slice (some ⟨l.block,0,none⟩) (xs.length+ys.length) ly,_,.inl ?_,hle,c8,by simp only[G.bu,Mode.post,hO],?_⟩
   ·rw[cV];simp[bF,G.bu]
   have:=RV.y3 (g:=g.bu id (some ⟨l.block,(xs.length+ys.length)*te.size,0⟩) (.spare (xs.length+ys.length)) (g.w.setRow l.block b9)) (zs:=xs++ys.map ae.share) (sz:=te.size) (cap:=ly)
    (l:=⟨l.block,(xs.length+ys.length)*te.size,0⟩) (arr:=b9) (t:=t') (id:=id) c8 Dc I1 (by rw[gV];exact hlen) (by rw[gV];exact nf)
    (by simp only[G.bu];rw[List.getElem?_set_self (iM hg gb)]) (by rw[gV];simp only[G.bu];rw[List.getElem?_set_self (I gb)]) (by rw[gV])
    (setRow_heap g.w l.block arr b9 t' (0,0) q4) (by rw[nU];exact q5) (fun off hf=>?_) (fun j c u hj hu=>?_)
   ·rw[gV]at this;exact this
   ·have ff:g.fr l.block off:=hf;exact absurd ff (hg.fm id l _ q1 gb trivial off)
   have bf:=I hj;rw[gg]at bf;refine(ij.2 j c u hj ?_).mono hle;have F5:gN.length=xs.length*te.size:=EJ;simp only[List.getElem?_toArray];rw[List.getElem?_append];by_cases e:j<gN.length
   ·rw[if_pos e];have iB:(an xs)[j]?=some c:=by
     rw[cE,List.getElem?_append,if_pos (by rw[bz I0];omega)]at hj;exact hj
    rw[yF j (by omega)]at hu;have Ew:=yI g.w rfl;rw[ex]at Ew;simp only[Builtin.firstCells]at Ew;have SQ:=run_loadCells (P:=P) g.w ⟨l.block,0,none⟩ (xs.length*te.size) (fun k=>arr.getD k undef) (fun k hk=>by
     rw[addr_add,cell_of_row q4,Nat.zero_add];simp[Array.getD_eq_getD_getElem?,show k<arr.size by omega])
    rw[SQ]at Ew;simp only[Result.ok.injEq,and_true]at Ew;have holds:gN=(List.range (xs.length*te.size)).map (fun k=>arr.getD k undef):=by
     have:=congrArg Array.toList Ew;simpa using this.symm
    rw[holds,List.getElem?_map,List.getElem?_range (by omega)];simp only[Option.map_some,Option.some.injEq];have P0:j<arr.size:=by omega
    simp only[Array.getElem?_eq_getElem P0,Option.some.injEq]at hu;simp[Array.getD_eq_getD_getElem?,P0,hu]
   rw[if_neg e,F5];exact uQ j u hu (by omega) bf
  -- a new row
  have bF:=gu (P:=P) g.w t o.type e i z hu h1 h4 BX xs.length ly ys.length (a.eval y) gN news AY (by rw[h2];exact AZ g.w.drew rfl) (by rw[h2,<-ex];exact yI g.w.drew rfl) (by omega) hlen (by rw[h3];exact hb);rw[<-ex]at bF;obtain⟨cap,cP⟩:∃cap,cap=grownCap g.w (xs.length+ys.length) ly e:=⟨_,rfl⟩
  obtain⟨rest,cG⟩:∃rest,rest=Builtin.zeroCells z.cells (cap-(xs.length+ys.length)):=⟨_,rfl⟩
  have pq:=grownCap_ge g.w (xs.length+ys.length) ly e;rw[<-cP]at bF pq;rw[<-cG]at bF;have xv:rest.size=(cap-(xs.length+ys.length))*te.size:=by rw[cG,size_zeroCells,h5,h6]
  obtain⟨arr,gm⟩:∃arr,arr=gN.toArray++news.toArray++rest:=⟨_,rfl⟩
  rw[<-gm]at bF;have dZ:kC g id (.spare xs.length) (some ⟨g.w.heap.size,(xs.length+ys.length)*te.size,0⟩) (.spare (xs.length+ys.length)) (g.w.drew.alloc (.cells arr e)):={
   obj:=gb
   os:=rfl
   tape:=rfl
   output:=rfl
   size:=by show g.w.heap.size<=(g.w.heap.push _).size;rw[Array.size_push];omega
   block:=fun k hk _=>cI g.w.drew _ hk
   cell:=fun b off x hx _=>by
    have:=oF hx;rw[ji (cI g.w.drew (.cells arr e) this)];exact hx
   place:=fun l1 h1 _=>by
    simp only[Option.some.injEq]at h1;subst h1;exact .inl (Nat.le_refl _)
   spare:=fun m h=>by
    simp only[ak.spare.injEq]at h;subst h;exact .inl ⟨_,rfl,hm⟩
   plain:=fun h=>absurd trivial h
   gone:=by simp }
  have hle:=Le.bu hg dZ;have c8:=Good.bu hg dZ (fun l1 h1=>by
   simp only[Option.some.injEq]at h1;subst h1;exact⟨arr,e,cF g.w.drew _⟩) (fun l1 h1 _=>by
   simp only[Option.some.injEq]at h1;subst h1;exact aU (cF g.w.drew (.cells arr e)))
  refine⟨.slice (some ⟨g.w.heap.size,0,none⟩) (xs.length+ys.length) cap,_,.inl ?_,hle,c8,by simp only[G.bu,Mode.post,hO],?_⟩
  ·rw[cV];simp[bF,G.bu]
  have:=RV.y3 (g:=g.bu id (some ⟨g.w.heap.size,(xs.length+ys.length)*te.size,0⟩) (.spare (xs.length+ys.length)) (g.w.drew.alloc (.cells arr e))) (zs:=xs++ys.map ae.share) (sz:=te.size) (cap:=cap)
   (l:=⟨g.w.heap.size,(xs.length+ys.length)*te.size,0⟩) (arr:=arr) (t:=e) (id:=id) c8 Dc I1 (by rw[gV];exact hlen) (by rw[gV];exact pq)
   (by simp only[G.bu];rw[List.getElem?_set_self (iM hg gb)]) (by rw[gV];simp only[G.bu];rw[List.getElem?_set_self (I gb)]) (by rw[gV])
   (cF g.w.drew _) (by
    rw[gm];simp only[Array.size_append,List.size_toArray,EJ,tA,xv,<-Nat.add_mul];rw[show xs.length+ys.length+(cap-(xs.length+ys.length))=cap by omega];exact Nat.le_refl _) (fun off hf=>by
    have ff:g.fr g.w.heap.size off:=hf;have:=hg.frlt _ _ ff;omega) (fun j c u hj hu=>by
    have bf:=I hj;rw[gg]at bf;rw[gm]at hu;have wD:=eg hu (by simp only[List.size_toArray,EJ,tA,<-Nat.add_mul];exact bf);exact(ij.2 j c u hj (by simpa using wD)).mono hle)
  rw[gV]at this;exact this
end Go.Av
namespace Go.Av
def lT:Value->Value->Bool
 | .string a,.string b=>decide (a=b)
 | .int _ a,.int _ b=>decide (a=b)
 | _,_=>false
def eY:List (Value×ae)->Value->Option ae
 | [],_=>none
 | (k,x)::r,key=>if lT k key then some x else eY r key
def gf:List (Value×ae)->Value->ae->List (Value×ae)
 | [],key,y=>[(key,y)]
 | (k,x)::r,key,y=>if lT k key then(key,y)::r else(k,x)::gf r key y
def KT.desc:KT->TypeDesc->Prop
 | .str,d=>d=.string
 | .int k,d=>d=.int k
 | .iter _,_=>False
theorem KT.mv{kt:KT}{d:TypeDesc}(h:kt.desc d):kt.plain:=by
 cases kt with
 | str=>trivial
 | int k=>trivial
 | iter c=>exact h.elim
theorem bytes_beq(s t:ByteArray):(s == t)=decide (s=t):=by
 obtain⟨a⟩:=s;obtain⟨b⟩:=t;have e:((⟨a⟩:ByteArray) == ⟨b⟩)=(a == b):=rfl;rw[e,Bool.eq_iff_iff];simp
theorem DO{kt:KT}{d:TypeDesc}(hd:kt.desc d){a b:Value}(ha:kt.ok a)(hb:kt.ok b):Instr.sameNow d a b=some (lT b a):=by
 cases kt with
 | iter c=>exact hd.elim
 | str =>
  simp only[KT.desc]at hd;subst hd;cases a<;>simp only[KT.ok]at ha;cases b<;>simp only[KT.ok]at hb;rename_i s t;simp only[Instr.sameNow,lT,Option.some.injEq,bytes_beq];rw[Bool.eq_iff_iff];simp only[decide_eq_true_eq];exact⟨Eq.symm,Eq.symm⟩
 | int k =>
  simp only[KT.desc]at hd;subst hd;cases a<;>simp only[KT.ok]at ha;cases b<;>simp only[KT.ok]at hb;rename_i s t;subst ha;subst hb;simp only[Instr.sameNow,lT,if_true,Option.some.injEq];rw[Bool.eq_iff_iff];simp only[beq_iff_eq,decide_eq_true_eq];exact⟨Eq.symm,Eq.symm⟩
theorem findNow_spec{kt:KT}{d:TypeDesc}(hd:kt.desc d){key:Value}(hk:kt.ok key):∀(arr:List MapEntry) (es:List (Value×ae)) (i:Nat),arr.length=es.length ->
  (∀(j:Nat) (e:MapEntry) (kx:Value×ae),arr[j]?=some e->es[j]?=some kx->e.key=kx.1)->(∀p∈es,kt.ok p.1) ->
  ∃r,Instr.findNow d key arr i=some r ∧
   ((r=none∧eY es key=none∧∀y,gf es key y=es++[(key,y)]) ∨
    ∃(j:Nat) (e:MapEntry) (x:ae) (k0:Value),r=some (i+j,e.val)∧arr[j]?=some e∧es[j]?=some (k0,x)∧lT k0 key=true∧eY es key=some x∧∀y,gf es key y=es.set j (key,y))
 | [],[],i,_,_,_=>⟨none,rfl,.inl ⟨rfl,rfl,fun _=>rfl⟩⟩
 | [],_::_,i,hl,_,_=>by simp at hl
 | _::_,[],i,hl,_,_=>by simp at hl
 | e::arr,(k0,x)::es,i,hl,F0,k8=>by
  have he:e.key=k0:=F0 0 e (k0,x) rfl rfl;have KR:kt.ok k0:=k8 (k0,x) (by simp);have hs:=DO hd hk (he ▸ KR:kt.ok e.key);simp only[Instr.findNow,hs];cases hq:lT e.key key with
  | true =>
   refine⟨some (i,e.val),by rfl,.inr ⟨0,e,x,k0,by simp,rfl,rfl,he ▸ hq,?_,fun y=>?_⟩⟩
   ·rw[he]at hq;simp[eY,hq]
   rw[he]at hq;simp[gf,hq]
  | false =>
   rw[he]at hq;obtain⟨r,h1,h2⟩:=findNow_spec hd hk arr es (i+1) (by simpa using hl) (fun j e' kx a b=>F0 (j+1) e' kx (by simpa using a) (by simpa using b)) (fun p hp=>k8 p (by simp[hp]));refine⟨r,h1,?_⟩;rcases h2 with⟨q1,q2,q3⟩|⟨j,e',x',k',q1,q2,q3,q4,q5,q6⟩
   ·exact .inl ⟨q1,by simp[eY,hq,q2],fun y=>by simp[gf,hq,q3]⟩
   refine .inr ⟨j+1,e',x',k',?_,by simpa using q2,by simpa using q3,q4,by simp[eY,hq,q5],fun y=>by simp[gf,hq,q6]⟩;rw[q1];simp only[Option.some.injEq,Prod.mk.injEq,and_true];omega
theorem l6{P:Program}{aR:ez}(hT:bT P aR){t k e:TypeId}{ti:b6}(ht:aR t=some ti)(aS:ti.desc=.map k e):P.underlying t=some (.map k e):=by
 obtain⟨_,d,h1,h2⟩:=hT t ti ht;rw[aS]at h2;simp only[rF]at h2;rw[h1,h2]
theorem run_checkKey{P:Program}{kt:KT}{k:TypeId}{d:TypeDesc}(hu:P.underlying k=some d)(hd:kt.desc d){key:Value}(w:World)(b:Bool)(n:Nat):(Instr.checkKey b (n+1) k key).run P w=.ok () w:=by
 cases kt<;>simp only[KT.desc]at hd<;>subst hd<;>simp[Instr.checkKey,run_underlying hu]
def zeroOf(ti:b6):ae:=if ti.desc.agg then .agg ti.zero else ti.zero.getD 0 (.v (.bool false))
theorem oB{P:Program}{t:TypeId}{ti:b6}(h:Ea P t ti)(hs:ti.desc.agg=true∨ti.size=1):∃z,(∀w,(Go.zeroValue t).run P w=.ok z w)∧∀g,RV g (zeroOf ti) z:=by
 obtain⟨⟨i,z,h1,h2,h3,h4,h5,h6,h7,h8,h9⟩,_⟩:=h;refine⟨z,fun w=>by simp[Go.zeroValue,typeInfo,h1,h4],fun g=>?_⟩;unfold zeroOf;split
 ·rename_i eM;obtain⟨cs,e⟩:=h7.1 eM;subst e;exact .agg h5 h9 (h8 g)
 rename_i eM;have cH:ti.zero.length=1:=by
  rcases hs with q|q
  ·exact absurd q eM
  omega
 match hz:ti.zero,cH with
 | [c],_ =>
  have lj:z.cells.size=1:=by rw[h5,hz];rfl
  have df:c.scalar:=h9 c (by rw[hz];simp);have hr:=h8 g 0 c (z.cells[0]) (by rw[hz];rfl) (by simp[lj]);have Gb:=h7.2 (by simpa using eM);have TG:z.cells[0]=z:=by simp[Gb]
  rw[TG]at hr;exact hr
theorem zD{P:Program}{t:TypeId}{ti:b6}(h:Ea P t ti)(hs:ti.desc.agg=true∨ti.size=1):(zeroOf ti).cells=ti.zero∧ti.zero.length=ti.size∧∀c∈ti.zero,c.scalar:=by
 obtain⟨⟨i,z,h1,h2,h3,h4,h5,h6,h7,h8,h9⟩,_⟩:=h;refine⟨?_,h6,h9⟩;unfold zeroOf;split
 ·rfl
 rename_i eM;have cH:ti.zero.length=1:=by
  rcases hs with q|q
  ·exact absurd q eM
  omega
 match hz:ti.zero,cH with
 | [c],_ =>
  have df:c.scalar:=h9 c (by rw[hz];simp);simp only[List.getD_cons_zero];cases c<;>first|rfl|exact df.elim
theorem RV.yN{g:G}{sz:Nat}{xs:List ae}{o:m9}{u:Value}(h:RV g (.aA sz xs o) u):RV g (.aA sz (xs.map ae.share) o) u:=by
 cases h with
 | nil ho hn=>exact .nil ho hn
 | aA cH df cP cy hs f hm hr ho =>
  have key:∀(j:Nat) (c:ae),(an (xs.map ae.share))[j]?=some c->∃c',(an xs)[j]?=some c'∧c'.bg=c:=fun j c hj=>by
   rw[fi,List.getElem?_map,Option.map_eq_some_iff]at hj;exact hj
  have hl:(xs.map ae.share).length=xs.length:=List.length_map _;rw[<-hl]at cP cy ho ⊢;refine .aA (dD cH) (fun x hx c hc=>?_) cP cy (fun cq=>hs fun e=>cq (by rw[e];rfl)) f (fun j c hj=>?_) (fun j c hj=>?_) ho
  ·exact dp (fun c hc=>by
    simp only[an,List.mem_flatMap]at hc;obtain⟨x,hx,hc⟩:=hc;exact df x hx c hc) c (by
    simp only[an,List.mem_flatMap];exact⟨x,hx,hc⟩)
  ·obtain⟨c',qh,_⟩:=key j c hj;exact hm j c' qh
  obtain⟨c',qh,rfl⟩:=key j c hj;exact(hr j c' qh).bg
theorem sZ{P:Program}{aR:ez}(hT:bT P aR){o:Oper}{σ:St}{t e:TypeId}{x y:Operand}{ti te:b6}{k k':IntKind}{n:Int}
  (ho:o.op=.makeSlice t x y) (hd:∀d,o.dst=some d->d<σ.n) (ht:aR t=some ti) (aS:ti.desc=.slice e) (he:aR e=some te) (hx:σ.ev x=some (.v (.int k n))) (hy:σ.ev y=some (.v (.int k' n)))
  (h0:0<=n) (hb:te.bytes*n.toNat<=2 ^ 48) (Oi:n.toNat<=2 ^ 62) (hs:0<te.size) (IT:te.desc.agg=true∨te.size=1) :
  Cert P o σ (.aA te.size (List.replicate n.toNat (zeroOf te).share) .ex) .pure :=
 Cert.iy hd fun base fw a g bE h _=>by
  have hg:=bE.good;have ex:=(h x (by simp[ho,Op.operands]) _ hx).bZ.1;have ey:=(h y (by simp[ho,Op.operands]) _ hy).bZ.1;have hu:=bQ hT ht aS;obtain⟨c1,c2,c3⟩:=zD (hT e te he) IT;obtain⟨⟨i,z,h1,h2,h3,h4,h5,h6,h7,h8,h9⟩,_⟩:=hT e te he;obtain⟨m,rfl⟩:=Int.eq_ofNat_of_zero_le h0;simp only[Int.toNat_natCast]at *;have CV:(i.bytes:Int)*(m:Int)<=281474976710656:=by
   rw[h3,<-Int.natCast_mul];omega
  have bF:=run_make (P:=P) g.w t e i z hu h1 h4 k k' m m (by omega) (Int.le_refl _) CV (by omega);simp only[Int.toNat_natCast]at bF;have Sd:an (List.replicate m (zeroOf te))=(List.replicate m te.zero).flatten:=by
   rw[an,List.flatMap_replicate,c1]
  have hlen:(List.replicate m te.zero).flatten.length=m*te.size:=by simp[h6]
  have eJ:∀(j:Nat) (c:ae),(List.replicate m te.zero).flatten[j]?=some c->te.zero[j % te.size]?=some c:=fun j c=>h6 ▸ oW te.zero (by omega) m j c;have hle:=Le.push g hg (.cells (madeCells z.cells (m*i.size)) e);have uQ:=cF g.w (.cells (madeCells z.cells (m*i.size)) e (0,0));have Qj:RV (g.push (.cells (madeCells z.cells (m*i.size)) e)) (.aA te.size (List.replicate m (zeroOf te)) .ex) (.slice (some ⟨g.w.heap.size,0,none⟩) m m):=by
   have key:=@RV.aA (g.push (.cells (madeCells z.cells (m*i.size)) e)) te.size (List.replicate m (zeroOf te)) .ex ⟨g.w.heap.size,0,none⟩ m (fun x hx=>by
    rw[(List.mem_replicate.1 hx).2,c1,c2]) (fun x hx c hc=>by
    rw[(List.mem_replicate.1 hx).2,c1]at hc;exact c3 c hc) (by simp) (by simpa using Oi) (fun _=>rfl) (fun j=>(madeCells z.cells (m*i.size)).getD j undef) (fun j c hj=>by
     rw[Sd]at hj;have bf:=I hj;rw[hlen]at bf;refine⟨?_,?_⟩
     ·show(g.w.alloc _).cell? _=_;rw[cell_of_row uQ,Nat.zero_add];have cH:j<(madeCells z.cells (m*i.size)).size:=by rw[size_madeCells,h2];exact bf
      simp[Array.getD_eq_getD_getElem?,cH]
     ·rintro(hf|⟨id,l,o',q1,q2,q3,q4,_⟩)
      ·have:=hg.frlt _ _ hf;simp at this
      have:=hg.loc id l o' q1 q2 q3;simp only at q4;omega) (fun j c hj=>by
     rw[Sd]at hj;have iB:=eJ j c hj;have bf:=I hj;rw[hlen]at bf;have j6:j % te.size<z.cells.size:=by rw[h5];exact I iB
     refine h8 _ _ _ _ iB ?_;have cH:j<(madeCells z.cells (m*i.size)).size:=by rw[size_madeCells,h2];exact bf
     have:(madeCells z.cells (m*i.size))[j]?=some (z.cells[j % te.size]'j6):=by
      simp only[madeCells,Array.getElem?_map,h2,Array.getElem?_range,if_pos bf,Option.map_some,Option.some.injEq];rw[h5,h6];simp[Array.getD_eq_getD_getElem?,j6]
     rw[Array.getD_eq_getD_getElem?,this,Option.getD_some];exact Array.getElem?_eq_getElem j6) (by simp[si])
   simpa using key
  refine⟨.slice (some ⟨g.w.heap.size,0,none⟩) m m,g.push (.cells (madeCells z.cells (m*i.size)) e),.inl ?_,hle,Good.push hg _,rfl,by simpa using Qj.yN⟩;simp[execOp,ho,ex,ey,bF,G.push]
theorem vy{P:Program}{kt:KT}{t k e:TypeId}{d:TypeDesc}(hu:P.underlying t=some (.map k e))(hk:P.underlying k=some d)(hd:kt.desc d){g:G}{r clk:Nat}{arr:Array MapEntry}{es:List (Value×ae)}{z:Value}{zx:ae}
  (hh:g.w.heap[r]?=some (.map arr clk)) (hl:arr.size=es.length) (F0:∀(i:Nat) (e:MapEntry) (kx:Value×ae),arr[i]?=some e->es[i]?=some kx->e.key=kx.1) (k8:∀p∈es,kt.ok p.1)
  (hr:∀(i:Nat) (e:MapEntry) (kx:Value×ae),arr[i]?=some e->es[i]?=some kx->RV g kx.2 e.val) {key:Value} (gi:kt.ok key) (hz:(Go.zeroValue e).run P g.w=.ok z g.w) (ZL:RV g zx z) (ok:Bool) :
  ∃u,(Instr.lookup t (.map (some r)) key ok).run P g.w=.ok (if ok then .tuple #[u,.bool (eY es key).isSome]else u) g.w∧RV g ((eY es key).getD zx) u:=by
 obtain⟨fr,h1,h2⟩:=findNow_spec hd gi arr.toList es 0 (by simpa using hl) (fun j e kx a b=>F0 j e kx (by simpa using a) b) k8;have CX:∀b,(Instr.checkKey b 10000 k key).run P g.w=.ok () g.w:=fun b=>run_checkKey hk hd g.w b 9999;have eJ:(getObj r).run P g.w=.ok (.map arr clk) g.w:=by
  simp[Go.getObj,Sem.run,hh]
 have AH:(Instr.findKey k key arr.toList).run P g.w=.ok fr g.w:=by
  simp[Instr.findKey,run_underlying hk,h1]
 rcases h2 with⟨q1,q2,_⟩|⟨j,e',x,k0,q1,q2,q3,_,q5,_⟩
 ·subst q1;refine⟨z,?_,by rw[q2];exact ZL⟩;simp only[Instr.lookup,Sem.run_bind,run_underlying hu,Result.andThen_ok,eJ,Sem.run_pure,CX,AH,hz,q2];cases ok<;>rfl
 subst q1;refine⟨e'.val,?_,by rw[q5];exact hr j e' (k0,x) (by simpa using q2) q3⟩;simp only[Instr.lookup,Sem.run_bind,run_underlying hu,Result.andThen_ok,eJ,Sem.run_pure,CX,AH,q5];cases ok<;>rfl
def ll(ok:Bool)(x:Option ae)(z:ae):ae:=if ok then .cw [x.getD z,.v (.bool x.isSome)]else x.getD z
theorem mM{g:G}{ok:Bool}{x:Option ae}{z:ae}{u:Value}(h:RV g (x.getD z) u):RV g (ll ok x z) (if ok then .tuple #[u,.bool x.isSome]else u):=by
 cases ok
 ·exact h
 refine .cw rfl (fun i c v h1 h2=>?_)
 match i,h1,h2 with
 | 0,h1,h2 =>
  simp at h1 h2;subst h1;subst h2;exact h
 | 1,h1,h2 =>
  simp at h1 h2;subst h1;subst h2;exact .v trivial
theorem uo{P:Program}{aR:ez}(hT:bT P aR){o:Oper}{σ:St}{t k e:TypeId}{x y:Operand}{ok:Bool}{ti te:b6}{kt:KT}{es:List (Value×ae)}{key:Value}{d:TypeDesc}
  (ho:o.op=.lookup t x y ok) (hd:∀d,o.dst=some d->d<σ.n) (ht:aR t=some ti) (aS:ti.desc=.map k e) (hk:P.underlying k=some d) (uM:kt.desc d) (he:aR e=some te) (cH:te.desc.agg=true∨te.size=1)
  (hx:σ.ev x=some (.im kt es)) (hy:σ.ev y=some (.v key)) (gi:kt.ok key):Cert P o σ (ll ok (eY es key) (zeroOf te)) .pure :=
 Cert.bL .pure (.inl rfl) hd fun a g _ h _=>by
  obtain⟨r,clk,arr,ex,hh,hl,F0,k8,hr⟩:=(h x (by simp[ho,Op.operands]) _ hx).Qm;have ey:=(h y (by simp[ho,Op.operands]) _ hy).bZ.1;obtain⟨z,hz,Hg⟩:=oB (hT e te he) cH;obtain⟨u,h1,h2⟩:=vy (l6 hT ht aS) hk uM hh hl F0 k8 hr gi (hz g.w) (Hg g) ok;exact⟨_,by simp only[execOp,ho,ex,ey,Sem.run_bind,h1,Result.andThen_ok,Sem.run_pure],mM h2⟩
theorem uq{P:Program}{aR:ez}(hT:bT P aR){o:Oper}{σ:St}{t k e:TypeId}{x y:Operand}{ok:Bool}{ti te:b6}{kt:KT}{es:List (Value×ae)}{id:Nat}{key:Value}{d:TypeDesc}
  (ho:o.op=.lookup t x y ok) (hd:∀d,o.dst=some d->d<σ.n) (ht:aR t=some ti) (aS:ti.desc=.map k e) (hk:P.underlying k=some d) (uM:kt.desc d) (he:aR e=some te) (cH:te.desc.agg=true∨te.size=1)
  (hx:σ.ev x=some (.mm id)) (mJ:σ.objs[id]?=some (.map kt es)) (hy:σ.ev y=some (.v key)) (gi:kt.ok key):Cert P o σ (ll ok (eY es key) (zeroOf te)) (.rd id) :=
 Cert.MB hd fun a g hg h hO=>by
  obtain⟨l,o1,qL,h1,_,ex⟩:=(h x (by simp[ho,Op.operands]) _ hx).Dm;have ey:=(h y (by simp[ho,Op.operands]) _ hy).bZ.1;obtain⟨l',ob,e1,_,YV,yG⟩:=hg.map id kt es (by rw[hO];exact mJ);obtain⟨arr,clk,e2,hl,k8,hr,_⟩:=yG.map (KT.mv uM);subst e2;have hh:=YV;rw[qL]at e1;simp only[Option.some.injEq]at e1;subst e1;obtain⟨z,hz,Hg⟩:=oB (hT e te he) cH;obtain⟨u,h1,h2⟩:=vy (l6 hT ht aS) hk uM hh hl (fun i e kx a b=>(hr i e kx a b).1) k8 (fun i e kx a b=>(hr i e kx a b).2.2) gi (hz g.w) (Hg g) ok;exact⟨_,by simp only[execOp,ho,ex,ey,Sem.run_bind,h1,Result.andThen_ok,Sem.run_pure],mM h2⟩
theorem sY{P:Program}{aR:ez}(hT:bT P aR){o:Oper}{σ:St}{t k e:TypeId}{x y:Operand}{ok:Bool}{ti te:b6}{kt:KT}{key:Value}{d:TypeDesc}
  (ho:o.op=.lookup t x y ok) (hd:∀d,o.dst=some d->d<σ.n) (ht:aR t=some ti) (aS:ti.desc=.map k e) (hk:P.underlying k=some d) (uM:kt.desc d) (he:aR e=some te) (cH:te.desc.agg=true∨te.size=1)
  (hx:σ.ev x=some (.v (.map none))) (hy:σ.ev y=some (.v key)):Cert P o σ (ll ok none (zeroOf te)) .pure :=
 Cert.bL .pure (.inl rfl) hd fun a g _ h _=>by
  have ex:=(h x (by simp[ho,Op.operands]) _ hx).bZ.1;have ey:=(h y (by simp[ho,Op.operands]) _ hy).bZ.1;obtain⟨z,hz,Hg⟩:=oB (hT e te he) cH;have CX:∀b,(Instr.checkKey b 10000 k key).run P g.w=.ok () g.w:=fun b=>run_checkKey hk uM g.w b 9999;have h1:(Instr.lookup t (.map none) key ok).run P g.w=.ok (if ok then .tuple #[z,.bool (none:Option ae).isSome]else z) g.w:=by
   simp only[Instr.lookup,Sem.run_bind,run_underlying (l6 hT ht aS),Result.andThen_ok,Sem.run_pure,CX,Instr.findKey,run_underlying hk,Instr.findNow,hz g.w];cases ok<;>rfl
  exact⟨_,by simp only[execOp,ho,ex,ey,Sem.run_bind,h1,Result.andThen_ok,Sem.run_pure],mM (Hg g)⟩
theorem Ib{kt:KT}{a b:Value}(ha:kt.ok a)(hb:kt.ok b)(h:lT a b=true):a=b:=by
 cases kt with
 | iter c=>exact ha.elim
 | str =>
  cases a<;>simp only[KT.ok]at ha;cases b<;>simp only[KT.ok]at hb;simp only[lT,decide_eq_true_eq]at h;rw[h]
 | int k =>
  cases a<;>simp only[KT.ok]at ha;cases b<;>simp only[KT.ok]at hb;simp only[lT,decide_eq_true_eq]at h;rw[h,ha,hb]
theorem sameBits_self{kt:KT}{a:Value}(ha:kt.ok a)(n:Nat):Instr.sameBits n a a=true:=by
 cases kt with
 | iter c=>exact ha.elim
 | str =>
  cases a<;>simp only[KT.ok]at ha;cases n<;>simp[Instr.sameBits,bytes_beq]
 | int k =>
  cases a<;>simp only[KT.ok]at ha;cases n<;>simp[Instr.sameBits]
theorem MD{kt:KT}{es:List (Value×ae)}{key:Value}{y:ae}(h:∀p∈es,kt.ok p.1)(hk:kt.ok key):∀p∈gf es key y,kt.ok p.1:=by
 induction es with
 | nil=>simp[gf,hk]
 | cons q r ih =>
  obtain⟨k,x⟩:=q;simp only[gf];split
  ·intro p hp;rcases List.mem_cons.1 hp with e|e
   ·subst e;exact hk
   exact h p (by simp[e])
  intro p hp;rcases List.mem_cons.1 hp with e|e
  ·subst e;exact h _ (by simp)
  exact ih (fun p hp=>h p (by simp[hp])) p e
theorem jf.push{arr:Array MapEntry}{clk:Nat}(h:jf arr clk){x:MapEntry}(hx:x.born=clk):jf (arr.push x) (clk+1):=by
 have key:∀(i:Nat) (e:MapEntry),(arr.push x)[i]?=some e->(i<arr.size∧arr[i]?=some e)∨(i=arr.size∧e=x):=fun i e hi=>by
  rw[Array.getElem?_push]at hi;split at hi
  ·rename_i q;simp only[Option.some.injEq]at hi;exact .inr ⟨q,hi.symm⟩
  exact .inl ⟨aU hi,hi⟩
 refine⟨fun i j e e' rK hi hj=>?_,fun i e hi=>?_⟩
 ·rcases key j e' hj with⟨q1,q2⟩|⟨q1,q2⟩
  ·rcases key i e hi with⟨r1,r2⟩|⟨r1,r2⟩
   ·exact h.1 i j e e' rK r2 q2
   omega
  rcases key i e hi with⟨r1,r2⟩|⟨r1,r2⟩
  ·rw[q2,hx];exact h.2 i e r2
  omega
 rcases key i e hi with⟨q1,q2⟩|⟨q1,q2⟩
 ·have:=h.2 i e q2;omega
 rw[q2,hx];omega
theorem jf.modify{arr:Array MapEntry}{clk:Nat}(h:jf arr clk)(j:Nat){f:MapEntry->MapEntry}(hf:∀e,(f e).born=e.born):jf (arr.modify j f) clk:=by
 have key:∀(i:Nat) (e:MapEntry),(arr.modify j f)[i]?=some e->∃e0,arr[i]?=some e0∧e.born=e0.born:=fun i e hi=>by
  rw[Array.getElem?_modify]at hi;split at hi
  ·cases h0:arr[i]? with
   | none=>rw[h0]at hi;cases hi
   | some e0 =>
    rw[h0,Option.map_some,Option.some.injEq]at hi;exact⟨e0,rfl,by rw[<-hi,hf]⟩
  exact⟨e,hi,rfl⟩
 refine⟨fun i k e e' SF hi hk=>?_,fun i e hi=>?_⟩
 ·obtain⟨a,a1,a2⟩:=key i e hi;obtain⟨b,b1,b2⟩:=key k e' hk;rw[a2,b2];exact h.1 i k a b SF a1 b1
 obtain⟨a,a1,a2⟩:=key i e hi;rw[a2];exact h.2 i a a1
theorem nI{P:Program}{aR:ez}(hT:bT P aR){o:Oper}{σ:St}{t k e:TypeId}{x y v:Operand}{ti:b6}{kt:KT}{es:List (Value×ae)}{id:Nat}{key:Value}{d:TypeDesc}{val:ae}
  (ho:o.op=.mapUpdate t x y v∨o.op=.insert t x y v) (iZ:o.dst=none) (ht:aR t=some ti) (aS:ti.desc=.map k e) (hk:P.underlying k=some d) (uM:kt.desc d)
  (hx:σ.ev x=some (.mm id)) (mJ:σ.objs[id]?=some (.map kt es)) (hy:σ.ev y=some (.v key)) (gi:kt.ok key) (hv:σ.ev v=some val) :
  Cert P o σ (.v (.bool false)) (.write (σ.objs.set id (.map kt (gf es key val)))) :=
 Cert.iy (by simp[iZ]) fun base fw a g bE h iD=>by
  have Py:g.objs=σ.objs:=iD.resolve_left (by simp);have hg:=bE.good;obtain⟨l,o1,qL,h1,_,ex⟩:=(h x (by rcases ho with ho|ho<;>simp[ho,Op.operands]) _ hx).Dm;have Vk:=(h y (by rcases ho with ho|ho<;>simp[ho,Op.operands]) _ hy).bZ;have ey:=Vk.1;have Rj:=h v (by rcases ho with ho|ho<;>simp[ho,Op.operands]) _ hv;have kL:g.objs[id]?=some (.map kt es):=by rw[Py];exact mJ
  obtain⟨l',ob,e1,ix,hh,yG⟩:=hg.map id kt es kL;obtain⟨arr,clk,e2,hl,k8,hr,Et⟩:=yG.map (KT.mv uM);subst e2;rw[qL]at e1;simp only[Option.some.injEq]at e1;subst e1;obtain⟨fr,f1,f2⟩:=findNow_spec uM gi arr.toList es 0 (by simpa using hl) (fun j e kx a b=>(hr j e kx (by simpa using a) b).1) k8;have CX:∀b,(Instr.checkKey b 10000 k key).run P g.w=.ok () g.w:=fun b=>run_checkKey hk uM g.w b 9999;have eJ:(getObj l.block).run P g.w=.ok (.map arr clk) g.w:=by
   simp[Go.getObj,Sem.run,hh]
  have AH:(Instr.findKey k key arr.toList).run P g.w=.ok fr g.w:=by
   simp[Instr.findKey,run_underlying hk,f1]
  have gL:∀o',(setObj l.block o').run P g.w=.ok () { g.w with heap:=g.w.heap.setIfInBounds l.block o' }:=fun o'=>by
   simp[Go.setObj,Sem.run,hh]
  have bf:=aU hh;have V':∃b9 Ac,(Instr.mapUpdate t (.map (some l.block)) key (a.eval v)).run P g.w=.ok () { g.w with heap:=g.w.heap.setIfInBounds l.block (.map b9 Ac) }∧b9.size=(gf es key val).length ∧
    (∀(i:Nat) (e:MapEntry) (kx:Value×ae),b9[i]?=some e->(gf es key val)[i]?=some kx->e.key=kx.1∧gK kx.1∧RV g kx.2 e.val)∧jf b9 Ac:=by
   rcases f2 with⟨q1,q2,q3⟩|⟨j,e',x',k0,q1,q2,q3,q4,q5,q6⟩
   ·subst q1;refine⟨arr.push { key,val:=a.eval v,born:=clk },clk+1,?_,by rw[q3];simp[hl],fun i e kx a1 a2=>?_,Et.push rfl⟩
    ·simp only[Instr.mapUpdate,Sem.run_bind,run_underlying (l6 hT ht aS),Result.andThen_ok,eJ,CX,AH,gL]
    rw[q3]at a2;rcases aP a2 with b|⟨b1,b2⟩
    ·have hi:=I b;rw[Array.getElem?_push,if_neg (by omega)]at a1;exact hr i e kx a1 b
    subst b2;rw[Array.getElem?_push,if_pos (by omega)]at a1;simp only[Option.some.injEq]at a1;subst a1;exact⟨rfl,Vk.2,Rj⟩
   subst q1;have KR:k0=key:=Ib (k8 (k0,x') (List.mem_of_getElem? q3)) gi q4;have ME:arr[j]?=some e':=by simpa using q2
   have YN:e'.key=key:=(hr j e' (k0,x') ME q3).1.trans KR;refine⟨arr.modify j fun e=>{ e with key,val:=a.eval v },clk,?_,by rw[q6];simp[hl],fun i e kx a1 a2=>?_,Et.modify j fun _=>rfl⟩
   ·have Tq:∀w,(Instr.keyThatStays key key).run P w=.ok key w:=fun w=>by simp[Instr.keyThatStays,sameBits_self gi]
    simp only[Instr.mapUpdate,Sem.run_bind,run_underlying (l6 hT ht aS),Result.andThen_ok,eJ,CX,AH,Nat.zero_add,ME,Option.map_some,Option.getD_some,YN,Tq,gL]
   rw[q6]at a2;rw[Array.getElem?_modify]at a1;by_cases e:j=i
   ·subst e;rw[if_pos rfl,ME]at a1;rw[List.getElem?_set_self (by rw[<-hl];exact aU ME)]at a2;simp only[Option.map_some,Option.some.injEq]at a1 a2;subst a1;subst a2;exact⟨rfl,Vk.2,Rj⟩
   rw[if_neg e]at a1;rw[List.getElem?_set_ne e]at a2;exact hr i _ kx a1 a2
  obtain⟨b9,Ac,bF,nU,PQ,PF⟩:=V';have uS:∀k,k≠l.block->(g.w.heap.setIfInBounds l.block (.map b9 Ac))[k]?=g.w.heap[k]?:=fun k hk=>Array.getElem?_setIfInBounds_ne (fun e=>hk e.symm);have dZ:kC g id (.map kt es) (some l) (.map kt (gf es key val)) { g.w with heap:=g.w.heap.setIfInBounds l.block (.map b9 Ac) }:={
   obj:=kL
   os:=rfl
   tape:=rfl
   output:=rfl
   size:=by simp
   block:=fun k _ hk=>uS k (fun e=>hk l qL trivial e.symm)
   cell:=fun b off x hx _=>by
    by_cases e:b=l.block
    ·subst e;simp only[G.cell,World.cell?,hh]at hx;cases hx
    simp only[World.cell?,uS b e];exact hx
   place:=fun l1 h1 _=>by
    simp only[Option.some.injEq]at h1;subst h1;exact .inr ⟨l,qL,trivial,rfl,Nat.le_refl _⟩
   spare:=fun m h=>by cases h
   plain:=fun _=>⟨by simp[ak.aD],qL⟩
   gone:=by simp }
  have hle:=Le.bu hg dZ;refine⟨.bool false,g.bu id (some l) (.map kt (gf es key val)) { g.w with heap:=g.w.heap.setIfInBounds l.block (.map b9 Ac) },.inr ⟨iZ,?_⟩,hle,Good.bu hg dZ ?_ ?_,by simp only[G.bu,Mode.post,Py],.v trivial⟩
  ·rcases ho with ho|ho<;>simp only[execOp,ho,ex,ey,Sem.run_bind,bF,Result.andThen_ok,Sem.run_pure,G.bu]
  ·refine⟨l,.map b9 Ac,rfl,ix,?_,sg.XP ⟨b9,Ac,rfl,nU,MD k8 gi,fun i e kx a b=>⟨(PQ i e kx a b).1,(PQ i e kx a b).2.1,(PQ i e kx a b).2.2.mono hle⟩,PF⟩ (KT.mv uM)⟩;simp only[G.bu];rw[Array.getElem?_setIfInBounds_self_of_lt bf]
  intro l1 h1 _;simp only[Option.some.injEq]at h1;subst h1;simpa using bf
def St.Aq(σ:St):List Operand->Option (List ae)
 | []=>some []
 | x::r =>
  match σ.ev x,σ.Aq r with
  | some y,some ys=>some (y::ys)
  | _,_=>none
theorem qF{σ:St}{a:Act}{g:G}:∀{xs:List Operand} {ys:List ae},(∀x∈xs,∀y,σ.ev x=some y->RV g y (a.eval x))->σ.Aq xs=some ys->jg g ys (xs.map a.eval).toArray
 | [],ys,_,h=>by
  simp only[St.Aq,Option.some.injEq]at h;subst h;exact⟨rfl,by simp⟩
 | x::r,ys,mf,h=>by
  simp only[St.Aq]at h;cases hx:σ.ev x with
  | none=>simp[hx]at h
  | some y =>
   cases hr:σ.Aq r with
   | none=>simp[hx,hr]at h
   | some zs =>
    simp only[hx,hr,Option.some.injEq]at h;subst h;obtain⟨h1,h2⟩:=qF (g:=g) (a:=a) (fun z hz=>mf z (List.mem_cons_of_mem _ hz)) hr;refine⟨by simpa using h1,fun j c u a1 a2=>?_⟩;cases j with
    | zero =>
     simp at a1 a2;subst a1;subst a2;exact mf x (List.mem_cons_self) y hx
    | succ j=>exact h2 j c u (by simpa using a1) (by simpa using a2)
theorem wi{P:Program}{o:Oper}{σ:St}{f:Fn}{first captured:Array Operand}{fs cs:List ae}(ho:o.op=.makeFunc f first captured)(hd:∀d,o.dst=some d->d<σ.n)
  (hf:σ.Aq first.toList=some fs) (hc:σ.Aq captured.toList=some cs):Cert P o σ (.fn f fs cs) .pure :=
 Cert.bL .pure (.inl rfl) hd fun a g _ h _=>by
  have m1:∀x∈first.toList,x∈o.op.operands:=fun x hx=>by
   rw[ho];simp only[Op.operands,Array.mem_append];exact .inl (Array.mem_toList_iff.1 hx)
  have m2:∀x∈captured.toList,x∈o.op.operands:=fun x hx=>by
   rw[ho];simp only[Op.operands,Array.mem_append];exact .inr (Array.mem_toList_iff.1 hx)
  have h1:=qF (g:=g) (a:=a) (fun x hx y hy=>h x (m1 x hx) y hy) hf;have h2:=qF (g:=g) (a:=a) (fun x hx y hy=>h x (m2 x hx) y hy) hc;refine⟨.func f (first.map a.eval) (captured.map a.eval),by simp[execOp,ho,Instr.makeFunc],?_⟩;have e1:first.map a.eval=(first.toList.map a.eval).toArray:=Array.ext' (by rw[Array.toList_map])
  have e2:captured.map a.eval=(captured.toList.map a.eval).toArray:=Array.ext' (by rw[Array.toList_map]);rw[e1,e2];exact .fn h1.1 h2.1 h1.2 h2.2
mutual
def ae.upto(n:Nat):ae->Prop
 | .v _=>True
 | .agg cs=>av n cs
 | .aA _ xs o=>av n xs∧(match o with | .tok id=>id<n | _=>True)
 | .ip _ cs=>av n cs
 | .mp id _=>id<n
 | .ms id _ _ _=>id<n
 | .os id _ _=>id<n
 | .raw _ _ id=>id<n
 | .mm id=>id<n
 | .im _ es=>kW n es
 | .fn _ fs cs=>av n fs∧av n cs
 | .cw cs=>av n cs
def av(n:Nat):List ae->Prop
 | []=>True
 | x::r=>x.upto n∧av n r
def kW(n:Nat):List (Value×ae)->Prop
 | []=>True
 | x::r=>OT n x∧kW n r
def OT(n:Nat):Value×ae->Prop
 | (_,x)=>x.upto n
end
theorem aT{n:Nat}{l:List ae}:av n l↔∀x∈l,x.upto n:=by
 induction l with
 | nil=>simp[av]
 | cons x r ih=>simp[av,ih]
theorem kA{n:Nat}{l:List (Value×ae)}:kW n l↔∀x∈l,x.2.upto n:=by
 induction l with
 | nil=>simp[kW]
 | cons x r ih =>
  obtain⟨k,x⟩:=x;simp[kW,OT,ih]
def G.cg(g:G)(n:Nat):G:=⟨g.w,g.fr,g.env.take n,g.objs.take n⟩
theorem cQ{α:Type}{l:List α}{n i:Nat}{x:α}(h:(l.take n)[i]?=some x):l[i]?=some x∧i<n:=by
 rw[List.getElem?_take]at h;split at h
 ·rename_i hh;exact⟨h,hh⟩
 cases h
theorem jH.cg{g:G}{n b off:Nat}(h:jH (g.cg n) b off):jH g b off:=by
 obtain⟨id,l,o,h1,h2,h3,h4,h5⟩:=h;exact⟨id,l,o,(cQ h1).1,(cQ h2).1,h3,h4,h5⟩
theorem iX.cg{g:G}{n b off:Nat}(h:iX (g.cg n) b off):iX g b off:=h.imp id jH.cg
theorem fJ.cg{g:G}{n b:Nat}(h:fJ (g.cg n) b):fJ g b:=by
 obtain⟨id,l,o,h1,h2,h3,h4⟩:=h;exact⟨id,l,o,(cQ h1).1,(cQ h2).1,h3,h4⟩
theorem RV.cg{g:G}{n:Nat}{x:ae}{u:Value}(h:RV g x u)(hn:n<=g.objs.length)(hb:x.upto n):RV (g.cg n) x u:=by
 have eJ:∀(id:Nat),id<n->(g.cg n).objs[id]?=g.objs[id]?:=fun id fK=>by
  simp only[G.cg];rw[List.getElem?_take,if_pos fK]
 have xp:∀(id:Nat),id<n->(g.cg n).env[id]?=g.env[id]?:=fun id fK=>by
  simp only[G.cg];rw[List.getElem?_take,if_pos fK]
 induction h with
 | v hx=>exact .v hx
 | agg hl df _ ih =>
  simp only[ae.upto,aT]at hb;exact .agg hl df fun i c u a b=>ih i c u a b (hb c (List.mem_of_getElem? a))
 | nil ho yH =>
  simp only[ae.upto]at hb;refine .nil (fun id e=>?_) yH;subst e;have:=hb.2;simp only[G.cg,List.length_take];omega
 | aA cH df cP cy hs f hm hr ho ih =>
  rename_i sz xs o a cap;simp only[ae.upto,aT]at hb;refine .aA cH df cP cy hs f (fun j c hj=>⟨(hm j c hj).1,fun q=>(hm j c hj).2 q.cg⟩) (fun j c hj=>ih j c hj ?_) ?_
  ·have hc:=List.mem_of_getElem? hj;simp only[an,List.mem_flatMap]at hc;obtain⟨x,hx,hc⟩:=hc;have:=hb.1 x hx;cases x with
   | agg cs =>
    simp only[ae.upto,aT]at this;exact this c hc
   | _=>simp only[ae.cells,List.mem_singleton]at hc;subst hc;exact this
  cases o with
  | sh=>trivial
  | nn=>trivial
  | ex=>exact ho
  | loc a=>exact ho
  | tok id =>
   have fK:=hb.2;simp only at fK;obtain⟨q1,q2⟩:=ho;refine⟨by simp only[G.cg,List.length_take];omega,fun m dS=>?_⟩;rw[eJ id fK]at dS;obtain⟨r1,r2⟩:=q2 m dS;refine⟨r1,fun e=>(r2 e).imp (fun h=>h) ?_⟩;rintro⟨l,arr,t,p1,p2,p3,p4,p5⟩;exact⟨l,arr,t,(xp id fK).trans p1,p2,p3,p4,p5⟩
 | ip ha df f hm hr ih =>
  simp only[ae.upto,aT]at hb;exact .ip ha df f (fun j c hj=>⟨(hm j c hj).1,fun q=>(hm j c hj).2 q.cg⟩) fun j c hj=>ih j c hj (hb c (List.mem_of_getElem? hj))
 | mp he ho jm=>exact .mp ((xp _ hb).trans he) ((eJ _ hb).trans ho) jm
 | ms he ho jm hc qh cy=>exact .ms ((xp _ hb).trans he) ((eJ _ hb).trans ho) jm hc qh cy
 | os he ho jm hc qh cy=>exact .os ((xp _ hb).trans he) ((eJ _ hb).trans ho) jm hc qh cy
 | raw yH ho =>
  rename_i sz n0 id a cap;have fK:id<n:=hb;obtain⟨q1,q2⟩:=ho;refine .raw yH ⟨by simp only[G.cg,List.length_take];omega,fun m dS=>?_⟩;rw[eJ id fK]at dS;obtain⟨r1,r2⟩:=q2 m dS;refine⟨r1,fun e=>(r2 e).imp (fun h=>h) ?_⟩;rintro⟨l,arr,t,p1,p2,p3,p4,p5⟩;exact⟨l,arr,t,(xp id fK).trans p1,p2,p3,p4,p5⟩
 | mm he ho jm=>exact .mm ((xp _ hb).trans he) ((eJ _ hb).trans ho) jm
 | im hh jm hl hk uN Iy _ ih =>
  simp only[ae.upto,kA]at hb;exact .im hh (fun off q=>jm off q.cg) hl hk uN Iy fun i e kx a b=>ih i e kx a b (hb kx (List.mem_of_getElem? b))
 | fn hl zF _ _ ih EO =>
  simp only[ae.upto,aT]at hb;exact .fn hl zF (fun i c u a b=>ih i c u a b (hb.1 c (List.mem_of_getElem? a))) fun i c u a b=>EO i c u a b (hb.2 c (List.mem_of_getElem? a))
 | cw hl _ ih =>
  simp only[ae.upto,aT]at hb;exact .cw hl fun i c u a b=>ih i c u a b (hb c (List.mem_of_getElem? a))
def ak.upto(n:Nat):ak->Prop
 | .cells cs=>av n cs
 | .map _ es=>kW n es
 | _=>True
theorem Good.cg{g:G}(hg:Good g){n:Nat}(hn:n<=g.objs.length)(hb:∀o∈g.objs.take n,o.upto n):Good (g.cg n) where
 frlt:=hg.frlt
 fm:=fun id l o h1 h2 h3=>hg.fm id l o (cQ h1).1 (cQ h2).1 h3
 len:=by simp only[G.cg,List.length_take,hg.len]
 loc:=fun id l o h1 h2 h3=>hg.loc id l o (cQ h1).1 (cQ h2).1 h3
 apart:=fun id lE l l' o o' h1 h2 h3 h4 h5 h6 h7=>hg.apart id lE l l' o o' (cQ h1).1 (cQ h2).1 h3 (cQ h4).1 (cQ h5).1 h6 h7
 cells:=fun id cs h=>by
  obtain⟨l,arr,t,e1,e0,e2,e3,e4,e5⟩:=hg.cells id cs (cQ h).1;have R8:=hb _ (List.mem_of_getElem? h);simp only[ak.upto,aT]at R8;exact⟨l,arr,t,by simp only[G.cg];rw[List.getElem?_take,if_pos (cQ h).2,e1],e0,e2,e3,fun j c u a b=>(e4 j c u a b).cg hn (R8 c (List.mem_of_getElem? a)),e5⟩
 spare:=fun id m l h1 h2=>hg.spare id m l (cQ h1).1 (cQ h2).1
 map:=fun id kt es h=>by
  obtain⟨l,ob,e1,e0,e2,e3⟩:=hg.map id kt es (cQ h).1;have R8:=hb _ (List.mem_of_getElem? h);simp only[ak.upto,kA]at R8;exact⟨l,ob,by simp only[G.cg];rw[List.getElem?_take,if_pos (cQ h).2,e1],e0,e2,e3.imp (fun p hp u q=>q.cg hn (R8 p hp)) fun m clk arr q1 q2=>⟨q1,fun off q=>q2 off q.cg⟩⟩
theorem Le.cg{g0 g:G}(h:Le g0 g){n:Nat}(hn:g0.objs.length<=n):Le g0 (g.cg n) where
 os:=h.os
 tape:=h.tape
 output:=h.output
 fr:=h.fr
 size:=h.size
 block:=fun k hk hh=>⟨(h.block k hk hh).1,fun q=>(h.block k hk hh).2 q.cg⟩
 cell:=fun b off x hx hh=>⟨(h.cell b off x hx hh).1,fun q=>(h.cell b off x hx hh).2 q.cg⟩
 len:=by
  have:=h.len;simp only[G.cg,List.length_take];omega
 spare:=fun id m hm=>by
  have bf:=I hm;have e:(g.cg n).objs[id]?=g.objs[id]?:=by
   simp only[G.cg];rw[List.getElem?_take,if_pos (by omega)]
  rw[e];exact h.spare id m hm
 plain:=fun id o ho hs=>by
  have bf:=I ho;have e:(g.cg n).objs[id]?=g.objs[id]?:=by
   simp only[G.cg];rw[List.getElem?_take,if_pos (by omega)]
  have e':(g.cg n).env[id]?=g.env[id]?:=by
   simp only[G.cg];rw[List.getElem?_take,if_pos (by omega)]
  rw[e,e'];exact h.plain id o ho hs
 gone:=fun id ho=>by
  have bf:=I ho;have e:(g.cg n).objs[id]?=g.objs[id]?:=by
   simp only[G.cg];rw[List.getElem?_take,if_pos (by omega)]
  rw[e];exact h.gone id ho
 tok:=fun id m hm dS=>by
  have bf:=I hm;have e:(g.cg n).objs[id]?=g.objs[id]?:=by
   simp only[G.cg];rw[List.getElem?_take,if_pos (by omega)]
  have e':(g.cg n).env[id]?=g.env[id]?:=by
   simp only[G.cg];rw[List.getElem?_take,if_pos (by omega)]
  rw[e]at dS;rw[e'];exact h.tok id m hm dS
def Enters (P : Program) (f : FuncId) : Prop := ∃ fn, P.funcs[f]? = some fn ∧ (fn.name == "runtime.NumGoroutine") = false ∧ fn.body.isNone = false
def bd(P:Program)(f:FuncId)(O:List ak)(args:List ae)(R:ae->List ak->Prop):Prop :=
 Enters P f∧∀(g:G) (vs:Array Value),Good g->g.objs=O->jg g args vs->Calls P f vs g.w fun e w'=>∃g' v r,e=.returned v∧g'.w=w'∧Le g g'∧Good g'∧RV g' r v∧R r g'.objs
def bA(P:Program)(f:FuncId)(args:List ae)(r:ae):Prop:=bd P f [] args fun r' O'=>r'=r∧O'=[]
theorem bd.mono{P:Program}{f:FuncId}{O:List ak}{args:List ae}{R R':ae->List ak->Prop}(h:bd P f O args R)(hr:∀r O',R r O'->R' r O'):bd P f O args R' :=
 ⟨h.1,fun g vs hg ho ha=>(h.2 g vs hg ho ha).mono fun _ _ ⟨g',v,r,h1,h2,h3,h4,h5,h6⟩=>⟨g',v,r,h1,h2,h3,h4,h5,hr _ _ h6⟩⟩
def G.bare(g:G):G:=⟨g.w,iX g,[],[]⟩
theorem tV{g:G}{b off:Nat}:iX g.bare b off↔iX g b off:=by
 constructor
 ·rintro(h|⟨id,l,o,h1,_⟩)
  ·exact h
  simp[G.bare]at h1
 exact .inl
theorem RV.bare{g:G}{x:ae}{u:Value}(h:RV g x u)(hb:x.upto 0):RV g.bare x u:=by
 induction h with
 | v hx=>exact .v hx
 | agg hl df _ ih =>
  simp only[ae.upto,aT]at hb;exact .agg hl df fun i c u a b=>ih i c u a b (hb c (List.mem_of_getElem? a))
 | nil ho yH =>
  simp only[ae.upto]at hb;refine .nil (fun id e=>?_) yH;subst e;have:=hb.2;simp only at this;omega
 | aA cH df cP cy hs f hm hr ho ih =>
  rename_i sz xs o a cap;simp only[ae.upto,aT]at hb;refine .aA cH df cP cy hs f (fun j c hj=>⟨(hm j c hj).1,fun q=>(hm j c hj).2 (tV.1 q)⟩) (fun j c hj=>ih j c hj ?_) ?_
  ·have hc:=List.mem_of_getElem? hj;simp only[an,List.mem_flatMap]at hc;obtain⟨x,hx,hc⟩:=hc;have:=hb.1 x hx;cases x with
   | agg cs =>
    simp only[ae.upto,aT]at this;exact this c hc
   | _=>simp only[ae.cells,List.mem_singleton]at hc;subst hc;exact this
  cases o with
  | sh=>trivial
  | nn=>trivial
  | ex=>exact ho
  | loc a=>exact ho
  | tok id =>
   have fK:=hb.2;simp only at fK;omega
 | ip ha df f hm hr ih =>
  simp only[ae.upto,aT]at hb;exact .ip ha df f (fun j c hj=>⟨(hm j c hj).1,fun q=>(hm j c hj).2 (tV.1 q)⟩) fun j c hj=>ih j c hj (hb c (List.mem_of_getElem? hj))
 | mp he ho jm=>simp only[ae.upto]at hb;omega
 | ms he ho jm hc qh cy=>simp only[ae.upto]at hb;omega
 | os he ho jm hc qh cy=>simp only[ae.upto]at hb;omega
 | raw yH ho=>simp only[ae.upto]at hb;omega
 | mm he ho jm=>simp only[ae.upto]at hb;omega
 | im hh jm hl hk uN Iy _ ih =>
  simp only[ae.upto,kA]at hb;exact .im hh (fun off q=>jm off (tV.1 q)) hl hk uN Iy fun i e kx a b=>ih i e kx a b (hb kx (List.mem_of_getElem? b))
 | fn hl zF _ _ ih EO =>
  simp only[ae.upto,aT]at hb;exact .fn hl zF (fun i c u a b=>ih i c u a b (hb.1 c (List.mem_of_getElem? a))) fun i c u a b=>EO i c u a b (hb.2 c (List.mem_of_getElem? a))
 | cw hl _ ih =>
  simp only[ae.upto,aT]at hb;exact .cw hl fun i c u a b=>ih i c u a b (hb c (List.mem_of_getElem? a))
theorem Good.bare{g:G}(hg:Good g):Good g.bare where
 frlt:=fun b off h=>by
  rcases h with h|⟨id,l,o,h1,h2,h3,h4,_⟩
  ·exact hg.frlt b off h
  exact h4 ▸ hg.loc id l o h1 h2 h3
 fm:=fun id l o h1=>by simp[G.bare]at h1
 len:=rfl
 loc:=fun id l o h1=>by simp[G.bare]at h1
 apart:=fun id lE l l' o o' h1=>by simp[G.bare]at h1
 cells:=fun id cs h1=>by simp[G.bare]at h1
 spare:=fun id m l h1=>by simp[G.bare]at h1
 map:=fun id kt es h1=>by simp[G.bare]at h1
def G.back(g g':G):G:=⟨g'.w,g.fr,g.env,g.objs⟩
theorem yQ{g:G}(he:g.env=[]){b:Nat}:¬fJ g b:=by
 rintro⟨id,l,o,h1,_⟩;simp[he]at h1
theorem Le.back{g g':G}(hg:Good g)(h:Le g.bare g'):Le g (g.back g') where
 os:=h.os
 tape:=h.tape
 output:=h.output
 fr:=rfl
 size:=h.size
 block:=fun k hk hh=>⟨(h.block k hk (yQ rfl)).1,hh⟩
 cell:=fun b off x hx hh=>⟨(h.cell b off x hx (fun q=>yQ rfl q.block)).1,hh⟩
 len:=Nat.le_refl _
 spare:=fun id m hm=>.inl ⟨m,hm,Nat.le_refl _⟩
 plain:=fun id o ho hs=>⟨⟨o,ho,hs⟩,rfl⟩
 gone:=fun id ho=>ho
 tok:=fun id m hm dS=>⟨rfl,fun l hl=>(h.block _ (hg.loc id l _ hl hm trivial) (yQ rfl)).1⟩
theorem Good.back{g g':G}(hg:Good g)(h:Le g.bare g'):Good (g.back g'):=by
 have hle:=Le.back hg h;have uJ:∀k,k<g.w.heap.size->g'.w.heap[k]?=g.w.heap[k]?:=fun k hk=>(h.block k hk (yQ rfl)).1;exact {
  frlt:=fun b off hf=>Nat.lt_of_lt_of_le (hg.frlt b off hf) h.size
  fm:=hg.fm
  len:=hg.len
  loc:=fun id l o h1 h2 h3=>Nat.lt_of_lt_of_le (hg.loc id l o h1 h2 h3) h.size
  apart:=hg.apart
  cells:=fun id cs h1=>by
   obtain⟨l,arr,t,e1,e0,e2,e3,e4,e5⟩:=hg.cells id cs h1;exact⟨l,arr,t,e1,e0,(uJ _ (aU e2)).trans e2,e3,fun j c u a b=>(e4 j c u a b).mono hle,e5⟩
  spare:=fun id m l h1 h2=>by
   obtain⟨arr,t,e⟩:=hg.spare id m l h1 h2;exact⟨arr,t,(uJ _ (aU e)).trans e⟩
  map:=fun id kt es h1=>by
   obtain⟨l,ob,e1,e0,e2,e3⟩:=hg.map id kt es h1;exact⟨l,ob,e1,e0,(uJ _ (aU e2)).trans e2,e3.mono hle⟩ }
theorem RV.back{g g':G}{x:ae}{u:Value}(dG:g'.fr=iX g)(FW:g'.env=[])(mJ:g'.objs=[])(h:RV g' x u):RV (g.back g') x u:=by
 have nT:∀b off,iX (g.back g') b off->iX g' b off:=fun b off q=>by
  refine .inl ?_;rw[dG];exact q
 induction h with
 | v hx=>exact .v hx
 | agg hl df _ ih=>exact .agg hl df ih
 | nil ho yH =>
  refine .nil (fun id e=>?_) yH;have:=ho id e;simp[mJ]at this
 | aA cH df cP cy hs f hm hr ho ih =>
  rename_i sz xs o a cap;refine .aA cH df cP cy hs f (fun j c hj=>⟨(hm j c hj).1,fun q=>(hm j c hj).2 (nT _ _ q)⟩) ih ?_;cases o with
  | sh=>trivial
  | nn=>trivial
  | ex=>exact ho
  | loc a=>exact ho
  | tok id =>
   have:=ho.1;simp[mJ]at this
 | ip ha df f hm hr ih=>exact .ip ha df f (fun j c hj=>⟨(hm j c hj).1,fun q=>(hm j c hj).2 (nT _ _ q)⟩) ih
 | mp he ho jm=>simp[FW]at he
 | ms he ho jm hc qh cy=>simp[FW]at he
 | os he ho jm hc qh cy=>simp[FW]at he
 | raw yH ho =>
  have:=ho.1;simp[mJ]at this
 | mm he ho jm=>simp[FW]at he
 | im hh jm hl hk uN Iy _ ih=>exact .im hh (fun off q=>jm off (nT _ _ q)) hl hk uN Iy ih
 | fn hl zF _ _ ih EO=>exact .fn hl zF ih EO
 | cw hl _ ih=>exact .cw hl ih
theorem bA.use{P:Program}{f:FuncId}{args:List ae}{r:ae}(h:bA P f args r)(hb:av 0 args)(O:List ak):bd P f O args fun r' O'=>r'=r∧O'=O:=by
 refine⟨h.1,?_⟩;intro g vs hg ho ha;have G':jg g.bare args vs:=⟨ha.1,fun j c u a b=>(ha.2 j c u a b).bare (aT.1 hb c (List.mem_of_getElem? a))⟩
 refine(h.2 g.bare vs hg.bare rfl G').mono ?_;rintro e w' ⟨g',v,r',h1,h2,h3,h4,h5,h6,h7⟩;subst h6;have FW:g'.env=[]:=by
  have:=h4.len;rw[h7]at this;exact List.length_eq_zero_iff.1 this
 exact⟨g.back g',v,r',h1,h2,Le.back hg h3,Good.back hg h3,h5.back h3.fr FW h7,rfl,ho⟩
inductive Kind where
 | pure
 | read
 | rd (id:Nat)
 | write
 | wr (n:Nat) (l:List Nat)
 | new (id:Nat)
 deriving DecidableEq
def Rs(k:Kind)(F:List ak->List ak):Prop :=
 match k with
 | .write=>∀O O',F O=F O'
 | .wr _ _=>∀O O',F O=F O'
 | .new id=>∃o,∀O,F O=O.set id o
 | _=>∀O,F O=O
def Mode.kind:Mode->Kind
 | .pure=>.pure
 | .read=>.read
 | .rd id=>.rd id
 | .write _=>.write
 | .wr n l _=>.wr n l
 | .new id _=>.new id
def qE(n:Nat)(d:Option Nat)(l:List (Nat×ae)):List (Nat×ae) :=
 match d with
 | some d=>if d<n then bw d (.cw []) l else a8 d l
 | none=>l
structure gQ(σ τ:St):Prop where
 n:σ.n=τ.n
 objs:σ.objs=τ.objs
 get:∀s,σ.get s=τ.get s
theorem gQ.refl(σ:St):gQ σ σ:=⟨rfl,rfl,fun _=>rfl⟩
theorem gQ.symm{σ τ:St}(h:gQ σ τ):gQ τ σ:=⟨h.n.symm,h.objs.symm,fun s=>(h.get s).symm⟩
theorem gQ.trans{σ τ ρ:St}(h:gQ σ τ)(k:gQ τ ρ):gQ σ ρ:=⟨h.n.trans k.n,h.objs.trans k.objs,fun s=>(h.get s).trans (k.get s)⟩
theorem gQ.ev{σ τ:St}(h:gQ σ τ)(x:Operand):σ.ev x=τ.ev x:=by
 cases x with
 | tmp t=>exact h.get t
 | _=>rfl
theorem gQ.rel{σ τ:St}(h:gQ σ τ){base:G}{a:Act}{g:G}(k:Rel base σ a g):Rel base τ a g where
 le:=k.le
 good:=k.good
 objs:=k.objs.trans h.objs
 size:=k.size.trans h.n
 defers:=k.defers
 slot:=fun s x hx=>k.slot s x ((h.get s).trans hx)
def St.put(σ:St)(d:Option Nat)(r:ae)(O:List ak):St:=⟨σ.n,pc d r σ.bn,O⟩
def St.skip(σ:St)(d:Option Nat):St:=⟨σ.n,qE σ.n d σ.bn,σ.objs⟩
theorem oL(σ:St)(d:Option Nat)(r:ae)(O:List ak)(s:Nat):(σ.put d r O).get s=if d=some s then some r else σ.get s:=by
 cases d with
 | none=>simp[St.put,St.get,pc]
 | some d =>
  simp only[St.put,St.get,pc,fP];by_cases e:d=s
  ·simp[e]
  simp[e]
theorem lV(σ:St)(d:Option Nat)(s:Nat):(σ.skip d).get s=if d=some s then(if s<σ.n then some (.cw [])else none)else σ.get s:=by
 cases d with
 | none=>simp[St.skip,St.get,qE]
 | some d =>
  simp only[St.skip,St.get,qE];by_cases e:d=s
  ·subst e;by_cases h:d<σ.n
   ·simp[h,fP]
   simp[h,lG]
  by_cases h:d<σ.n
  ·simp[e,h,fP]
  simp[e,h,jE e]
theorem Rel.skip{base:G}{σ:St}{a:Act}{g:G}(h:Rel base σ a g)(d:Nat):Rel base (σ.skip (some d)) (a.put (some d) undef) g:=by
 by_cases hd:d<σ.n
 ·have:=h.put (Le.refl g) h.good hd (r:=.cw []) (u:=undef) (.cw rfl (by simp));rw[show σ.skip (some d)=⟨σ.n,bw d (.cw []) σ.bn,g.objs⟩ by simp[St.skip,qE,hd,h.objs]];exact this
 have:=h.forget d undef;rw[show σ.skip (some d)=⟨σ.n,a8 d σ.bn,σ.objs⟩ by simp[St.skip,qE,hd]];exact this
theorem gQ.put{σ τ:St}(h:gQ σ τ)(d:Option Nat)(r:ae)(O:List ak):gQ (σ.put d r O) (τ.put d r O) :=
 ⟨h.n,rfl,fun s=>by rw[oL,oL,h.get]⟩
theorem gQ.skip{σ τ:St}(h:gQ σ τ)(d:Option Nat):gQ (σ.skip d) (τ.skip d) :=
 ⟨h.n,h.objs,fun s=>by rw[lV,lV,h.get,h.n]⟩
def cU(ops:Array Oper)(o:Oper)(σ:St):Option Bool :=
 match o.guard with
 | none=>some true
 | some (j,want) =>
  match (ops[j]?).bind (·.dst)with
  | some t =>
   match σ.get t with
   | some (.v (.bool b))=>some (b == want)
   | some (.cw [])=>some false
   | _=>none
  | none=>none
theorem fI{ops:Array Oper}{o:Oper}{σ:St}{base:G}{a:Act}{g:G}{b:Bool}(h:Rel base σ a g)(hw:cU ops o σ=some b):Region.wanted o (yielded ops a.tmps)=b:=by
 unfold cU at hw;unfold Region.wanted;cases hg:o.guard with
 | none =>
  simp only[hg,Option.some.injEq]at hw;exact hw
 | some p =>
  obtain⟨j,want⟩:=p;simp only[hg]at hw;cases ht:(ops[j]?).bind (·.dst)with
  | none=>simp[ht]at hw
  | some t =>
   simp only[ht]at hw;split at hw
   ·rename_i c hc;simp only[Option.some.injEq]at hw;obtain⟨u,h1,h2⟩:=h.slot t _ hc;have:=h2.bZ.1;subst this;have hy:yielded ops a.tmps j=some c:=by
     unfold yielded;simp[ht,h1]
    simp only[hy];rw[<-hw];cases c<;>cases want<;>rfl
   ·rename_i hc;simp only[Option.some.injEq]at hw;obtain⟨u,h1,h2⟩:=h.slot t _ hc;cases h2 with
    | cw hl _ =>
     rename_i vs;have hy:yielded ops a.tmps j=none:=by
      unfold yielded;simp[ht,h1]
     simp only[hy];rw[<-hw];rfl
   cases hw
theorem lJ{ops:Array Oper}{o:Oper}{σ τ:St}(h:∀j want t,o.guard=some (j,want)->(ops[j]?).bind (·.dst)=some t->σ.get t=τ.get t):cU ops o σ=cU ops o τ:=by
 unfold cU;cases hg:o.guard with
 | none=>rfl
 | some p =>
  obtain⟨j,want⟩:=p;simp only;cases ht:(ops[j]?).bind (·.dst)with
  | none=>rfl
  | some t =>
   simp only;rw[h j want t hg ht]
theorem Cert.congr{P:Program}{o:Oper}{σ τ:St}{r:ae}{m:Mode}(h:Cert P o σ r m)(hn:σ.n=τ.n)(xn:∀x∈o.op.operands,σ.ev x=τ.ev x)(ho:m.agree τ.objs σ.objs):Cert P o τ r m:=by
 refine⟨?_,?_⟩
 ·have:=h.1;cases m with
  | wr n l O' =>
   intro i hi hl;rw[this i hi hl,show τ.objs=σ.objs from ho]
  | _=>trivial
 intro base ρ a g bE h1 h2 h3;refine h.2 base ρ a g bE (h1.trans hn.symm) (fun x hx y hy=>h2 x hx y ((xn x hx).symm.trans hy)) ?_;cases m with
 | pure=>trivial
 | rd id=>exact Eq.trans h3 ho
 | new id _=>exact Eq.trans h3 ho
 | _=>exact Eq.trans h3 ho
def lx(P:Program)(ops:Array Oper)(i:Nat)(k:Kind)(σ fw:St):Prop :=
 ∃o,ops[i]?=some o ∧
  ((cU ops o σ=some true∧∃r m,Cert P o σ r m∧m.kind=k∧fw=σ.put o.dst r (m.post σ.objs)) ∨
   (cU ops o σ=some false∧k=.pure∧fw=σ.skip o.dst))
def eO(P:Program)(ops:Array Oper):List (Nat×Kind)->St->St->Prop
 | [],σ,τ=>gQ σ τ
 | (i,k)::r,σ,τ=>∃fw,lx P ops i k σ fw∧eO P ops r fw τ
theorem lx.same{P:Program}{ops:Array Oper}{i:Nat}{k:Kind}{σ fw τ:St}(h:lx P ops i k σ fw)(hs:gQ σ τ):∃KG,lx P ops i k τ KG∧gQ fw KG:=by
 obtain⟨o,ho,h⟩:=h;rcases h with⟨h1,r,m,h2,h3,h4⟩|⟨h1,h2,h3⟩
 ·refine⟨τ.put o.dst r (m.post τ.objs),⟨o,ho,.inl ⟨?_,r,m,h2.congr hs.n (fun x _=>hs.ev x) (Mode.qj (.inr hs.objs.symm)),h3,rfl⟩⟩,?_⟩
  ·rw[<-h1];exact lJ fun _ _ t _ _=>(hs.get t).symm
  subst h4;rw[hs.objs];exact hs.put _ _ _
 refine⟨τ.skip o.dst,⟨o,ho,.inr ⟨?_,h2,rfl⟩⟩,?_⟩
 ·rw[<-h1];exact lJ fun _ _ t _ _=>(hs.get t).symm
 subst h3;exact hs.skip _
theorem eO.same{P:Program}{ops:Array Oper}:∀{l:List (Nat×Kind)} {σ τ ρ:St},eO P ops l σ ρ->gQ σ τ->eO P ops l τ ρ
 | [],_,_,_,h,hs=>hs.symm.trans h
 | (i,k)::r,σ,τ,ρ,h,hs=>by
  obtain⟨fw,h1,h2⟩:=h;obtain⟨KG,h3,h4⟩:=h1.same hs;exact⟨KG,h3,h2.same h4⟩
def bN(k k':Kind):Bool :=
 match k,k' with
 | .pure,_=>true
 | _,.pure=>true
 | .read,.read=>true
 | .rd _,.read=>true
 | .read,.rd _=>true
 | .rd _,.rd _=>true
 | .rd id,.wr n l=>decide (id<n)&&!l.contains id
 | .wr n l,.rd id=>decide (id<n)&&!l.contains id
 | .new i,.new j=>!decide (i=j)
 | .new i,.rd j=>!decide (i=j)
 | .rd i,.new j=>!decide (i=j)
 | _,_=>false
def Kind.agree(k:Kind)(O O0:List ak):Prop :=
 match k with
 | .pure=>True
 | .rd id=>O[id]?=O0[id]?
 | .new id=>O[id]?=O0[id]?
 | _=>O=O0
theorem Mode.B9{m:Mode}{O O0:List ak}(h:m.kind.agree O O0):m.agree O O0:=by
 cases m<;>exact h
theorem wG{ops:Array Oper}{o:Oper}{t:Nat}(h:(.tmp t:Operand)∈o.op.operands):t∈o.looksAt ops :=
 List.mem_append_left _ (List.mem_filterMap.2 ⟨.tmp t,Array.mem_toList_iff.2 h,rfl⟩)
theorem A5{ops:Array Oper}{o:Oper}{j:Nat}{want:Bool}{t:Nat}(h:o.guard=some (j,want))(ht:(ops[j]?).bind (·.dst)=some t):t∈o.looksAt ops:=by
 refine List.mem_append_right _ ?_;simp[h,ht]
structure Rw(P:Program)(ops:Array Oper)(o:Oper)(k:Kind)(F:List ak->List ak)(σ fw:St):Prop where
 n:fw.n=σ.n
 get:∀s,o.dst≠some s->fw.get s=σ.get s
 RM:Rs k F
 objs:fw.objs=F σ.objs
 lF:∀n l,k=.wr n l->∀i,i<n->i ∉ l->(F σ.objs)[i]?=σ.objs[i]?
 move:∀τ:St,τ.n=σ.n->(∀t∈o.looksAt ops,τ.get t=σ.get t)->k.agree τ.objs σ.objs ->
  ∃KG,(cU ops o τ=some true∧(∃r m,Cert P o τ r m∧m.kind=k∧KG=τ.put o.dst r (m.post τ.objs))∨cU ops o τ=some false∧k=.pure∧KG=τ.skip o.dst) ∧
   (∀s,o.dst=some s->KG.get s=fw.get s)∧(∀s,o.dst≠some s->KG.get s=τ.get s)∧KG.n=τ.n∧KG.objs=F τ.objs
theorem OS{P:Program}{ops:Array Oper}{o:Oper}{k:Kind}{σ fw:St}
  (h:(cU ops o σ=some true∧∃r m,Cert P o σ r m∧m.kind=k∧fw=σ.put o.dst r (m.post σ.objs))∨(cU ops o σ=some false∧k=.pure∧fw=σ.skip o.dst)):∃F,Rw P ops o k F σ fw:=by
 have xn:∀τ:St,(∀t∈o.looksAt ops,τ.get t=σ.get t)->∀x∈o.op.operands,σ.ev x=τ.ev x:=fun τ ht x hx=>by
  cases x with
  | tmp t=>exact(ht t (wG hx)).symm
  | _=>rfl
 have OI:∀τ:St,(∀t∈o.looksAt ops,τ.get t=σ.get t)->cU ops o τ=cU ops o σ:=fun τ ht=>lJ fun j w t hg hd=>ht t (A5 hg hd);rcases h with⟨h1,r,m,h2,h3,h4⟩|⟨h1,h2,h3⟩
 ·subst h4;subst h3;have LZ:Rs m.kind m.post:=by
   cases m with
   | new id o=>exact⟨o,fun _=>rfl⟩
   | write O=>exact fun _ _=>rfl
   | wr n l O=>exact fun _ _=>rfl
   | _=>exact fun _=>rfl
  refine⟨m.post,rfl,fun s hs=>by rw[oL,if_neg hs],LZ,rfl,fun n l hk i hi hl=>?_,fun τ hn ht ho=>⟨τ.put o.dst r (m.post τ.objs),.inl ⟨(OI τ ht).trans h1,r,m,?_,rfl,rfl⟩,?_,?_,rfl,rfl⟩⟩
  ·cases m with
   | wr n' l' O' =>
    simp only[Mode.kind,Kind.wr.injEq]at hk;obtain⟨rfl,rfl⟩:=hk;exact h2.1 i hi hl
   | _=>simp[Mode.kind]at hk
  ·exact h2.congr hn.symm (xn τ ht) (Mode.B9 ho)
  ·intro s hs;rw[oL,oL,if_pos hs,if_pos hs]
  intro s hs;rw[oL,if_neg hs]
 subst h3;subst h2;refine⟨id,rfl,fun s hs=>by rw[lV,if_neg hs],fun _=>rfl,rfl,fun n l hk=>(by cases hk),fun τ hn ht ho=>⟨τ.skip o.dst,.inr ⟨(OI τ ht).trans h1,rfl,rfl⟩,?_,?_,rfl,rfl⟩⟩
 ·intro s hs;rw[lV,lV,if_pos hs,if_pos hs,hn]
 intro s hs;rw[lV,if_neg hs]
theorem Ca{k:Kind}{O O':List ak}(h:k.agree O O'):k.agree O' O:=by
 cases k<;>first|trivial|exact Eq.symm h
theorem wU{kj ki:Kind}{F:List ak->List ak}{O:List ak}(hk:bN kj ki=true)(hF:Rs kj F)(pr:∀n l,kj=.wr n l->∀i,i<n->i ∉ l->(F O)[i]?=O[i]?):ki.agree O (F O):=by
 cases ki with
 | pure=>trivial
 | rd id =>
  show O[id]?=(F O)[id]?;cases kj with
  | write=>simp[bN]at hk
  | wr n l =>
   simp only[bN,Bool.and_eq_true,decide_eq_true_eq,Bool.not_eq_true',List.contains_eq_mem,decide_eq_false_iff_not]at hk;exact(pr n l rfl id hk.1 hk.2).symm
  | new j =>
   obtain⟨o,hF⟩:=hF;simp only[bN,Bool.not_eq_true',decide_eq_false_iff_not]at hk;rw[hF,List.getElem?_set_ne hk]
  | _=>rw[hF O]
 | new id =>
  show O[id]?=(F O)[id]?;cases kj with
  | new j =>
   obtain⟨o,hF⟩:=hF;simp only[bN,Bool.not_eq_true',decide_eq_false_iff_not]at hk;rw[hF,List.getElem?_set_ne hk]
  | pure=>rw[hF O]
  | rd j=>rw[hF O]
  | _=>simp[bN]at hk
 | read=>cases kj<;>first | exact(hF O).symm | simp[bN]at hk
 | write=>cases kj<;>first | exact(hF O).symm | simp[bN]at hk
 | wr n l=>cases kj<;>first | exact(hF O).symm | simp[bN]at hk
theorem Cb{k k':Kind}(h:bN k k'=true):bN k' k=true:=by
 cases k<;>cases k'<;>first|exact h|(simp only[bN,Bool.not_eq_true',decide_eq_false_iff_not]at h ⊢;exact fun e=>h e.symm)
theorem H4{kj ki:Kind}{Fj Fi:List ak->List ak}(hk:bN kj ki=true)(hj:Rs kj Fj)(hi:Rs ki Fi)(O:List ak):Fi (Fj O)=Fj (Fi O):=by
 cases kj with
 | new j =>
  obtain⟨oj,hj⟩:=hj;cases ki with
  | new i =>
   obtain⟨oi,hi⟩:=hi;simp only[bN,Bool.not_eq_true',decide_eq_false_iff_not]at hk;rw[hj,hi,hj,hi,List.set_comm _ _ hk]
  | pure=>rw[hi,hi]
  | rd _=>rw[hi,hi]
  | _=>simp[bN]at hk
 | pure=>rw[hj,hj]
 | read=>rw[hj,hj]
 | rd _=>rw[hj,hj]
 | write=>cases ki<;>first | (rw[hi,hi];done) | simp[bN]at hk
 | wr _ _=>cases ki<;>first | (rw[hi,hi];done) | simp[bN]at hk
theorem swap{P:Program}{ops:Array Oper}{i j:Nat}{oi oj:Oper}{ki kj:Kind}{σ Wq Wr:St}(hi:ops[i]?=some oi)(hj:ops[j]?=some oj)(Yw:oj.apart ops oi=true)(hk:bN kj ki=true)
  (h1:lx P ops j kj σ Wq) (h2:lx P ops i ki Wq Wr):∃QX Rr,lx P ops i ki σ QX∧lx P ops j kj QX Rr∧gQ Wr Rr:=by
 obtain⟨a1,a2,a3⟩:=Oper.apart_spec Yw;obtain⟨oj',iB,h1⟩:=h1;rw[hj]at iB;simp only[Option.some.injEq]at iB;subst iB;obtain⟨oi',gP,h2⟩:=h2;rw[hi]at gP;simp only[Option.some.injEq]at gP;subst gP;obtain⟨Fj,s1⟩:=OS h1;obtain⟨Fi,s2⟩:=OS h2;have Sl:∀s,oj.dst=some s->oi.dst≠some s:=fun s hs e=>a2 s hs e;have mf:=wU hk s1.RM s1.lF;rw[<-s1.objs]at mf;obtain⟨QX,t1,t2,t3,t4,t5⟩:=s2.move σ s1.n.symm (fun t ht=>(s1.get t (fun e=>a1 t e ht)).symm) mf;obtain⟨Rr,u1,u2,u3,u4,u5⟩:=s1.move QX t4 (fun t ht=>t3 t (fun e=>a3 t e ht)) (by
  rw[t5];refine Ca (wU (Cb hk) s2.RM fun n l e i hi hl=>?_);subst e;have h4:=s2.lF n l rfl i hi hl;rw[s1.objs]at h4;have Ye:∀O,Fj O=O:=by
   have he:=s1.RM;clear s1 h1 mf;cases kj with
   | pure=>exact he
   | rd _=>exact he
   | _=>simp[bN]at hk
  rw[Ye]at h4;exact h4)
 refine⟨QX,Rr,⟨oi,hi,t1⟩,⟨oj,hj,u1⟩,⟨?_,?_,fun s=>?_⟩⟩
 ·rw[s2.n,s1.n,u4,t4]
 ·rw[s2.objs,s1.objs,u5,t5];exact H4 hk s1.RM s2.RM _
 by_cases ei:oi.dst=some s
 ·have ej:oj.dst≠some s:=fun e=>Sl s e ei;rw[u3 s ej,t2 s ei]
 rw[s2.get s ei];by_cases ej:oj.dst=some s
 ·rw[u2 s ej]
 rw[u3 s ej,t3 s ei,s1.get s ej]
def indep(ops:Array Oper)(j i:Nat)(kj ki:Kind):Bool :=
 match ops[j]?,ops[i]? with
 | some oj,some oi=>oj.apart ops oi&&bN kj ki
 | _,_=>false
theorem eO.front{P:Program}{ops:Array Oper}{i:Nat}{ki:Kind}{l2:List (Nat×Kind)}:∀{l1:List (Nat×Kind)} {σ ρ:St},eO P ops (l1++(i,ki)::l2) σ ρ->(∀p∈l1,indep ops p.1 i p.2 ki=true)->eO P ops ((i,ki)::(l1++l2)) σ ρ
 | [],_,_,h,_=>h
 | (j,kj)::l1,σ,ρ,h,L'=>by
  obtain⟨Wq,h1,h2⟩:=h;obtain⟨Wr,h3,h4⟩:=eO.front h2 (fun p hp=>L' p (by simp[hp]));have rK:=L' (j,kj) (by simp);simp only[indep]at rK;have Q9:∃oi,ops[i]?=some oi:=by
   obtain⟨oi,Q9,_⟩:=h3;exact⟨oi,Q9⟩
  have IS:∃oj,ops[j]?=some oj:=by
   obtain⟨oj,IS,_⟩:=h1;exact⟨oj,IS⟩
  obtain⟨oi,Q9⟩:=Q9;obtain⟨oj,IS⟩:=IS;simp only[Q9,IS,Bool.and_eq_true]at rK;obtain⟨QX,Rr,q1,q2,q3⟩:=swap Q9 IS rK.1 rK.2 h1 h3;exact⟨QX,q1,Rr,q2,h4.same q3⟩
def qa(ops:Array Oper):Nat->Nat->Nat->Bool
 | 0,_,_=>false
 | n+1,j,i =>
  match ops[i]? with
  | some o=>o.after.toList.any fun e=>Region.binds .any e&&(e.on == j || qa ops n j e.on)
  | none=>false
def N8(ops:Array Oper):Bool :=
 (List.range ops.size).all fun i =>
  match ops[i]? with
  | some o=>o.after.toList.all fun e=>!Region.binds .any e || decide (e.on<i)
  | none=>true
def oc(ops:Array Oper)(ks:List Kind):Bool :=
 N8 ops&&(ks.length == ops.size) &&
 (List.range ops.size).all fun i=>(List.range i).all fun j=>qa ops ops.size j i ||indep ops j i (ks.getD j .write) (ks.getD i .write)
def ym(ops:Array Oper)(bD:Array Bool):Prop :=
 ∀i o,ops[i]?=some o->bD.getD i false=true->∀e∈o.after.toList,Region.binds .any e=true->bD.getD e.on false=true
theorem qV{ops:Array Oper}{bD:Array Bool}(hc:ym ops bD):∀(n j i:Nat) (o:Oper),ops[i]?=some o->(∀e∈o.after.toList,Region.binds .any e=true->bD.getD e.on false=true)->qa ops n j i=true->bD.getD j false=true
 | 0,j,i,o,_,_,h=>by simp[qa]at h
 | n+1,j,i,o,ho,cr,h=>by
  simp only[qa,ho,List.any_eq_true,Bool.and_eq_true,Bool.or_eq_true,beq_iff_eq]at h;obtain⟨e,he,hb,h⟩:=h;have Xw:=cr e he hb;rcases h with h|h
  ·rw[<-h];exact Xw
  cases S5:ops[e.on]? with
  | none =>
   cases n with
   | zero=>simp[qa]at h
   | succ n=>simp[qa,S5]at h
  | some o'=>exact qV hc n j e.on o' S5 (fun e' KN CV=>hc e.on o' S5 Xw e' KN CV) h
theorem pY{ops:Array Oper}{bD:Array Bool}{i:Nat}:i∈Region.ready .any ops bD↔i<ops.size∧bD.getD i true=false∧∃o,ops[i]?=some o∧∀e∈o.after.toList,Region.binds .any e=true->bD.getD e.on false=true:=by
 unfold Region.ready;rw[List.mem_filter,List.mem_range];constructor
 ·rintro⟨h1,h2⟩;rw[Bool.and_eq_true]at h2;obtain⟨h2,h3⟩:=h2;refine⟨h1,by simpa using h2,?_⟩;cases ho:ops[i]? with
  | none=>simp[ho]at h3
  | some o =>
   refine⟨o,rfl,fun e he hb=>?_⟩;simp only[ho,Option.map_some,Option.getD_some]at h3;have:=Array.all_eq_true_iff_forall_mem.1 h3 e (Array.mem_toList_iff.1 he);simpa[hb]using this
 rintro⟨h1,h2,o,ho,h3⟩;refine⟨h1,?_⟩;rw[Bool.and_eq_true];refine⟨by simpa using h2,?_⟩;simp only[ho,Option.map_some,Option.getD_some];refine Array.all_eq_true_iff_forall_mem.2 fun e he=>?_;by_cases hb:Region.binds .any e=true
 ·simp only[hb,Bool.not_true,Bool.false_or];exact h3 e (Array.mem_toList_iff.2 he) hb
 simp[hb]
theorem range_split{n i:Nat}(h:i<n):List.range n=List.range i++i::(List.range n).drop (i+1):=by
 apply List.ext_getElem?;intro j;rw[List.getElem?_append];simp only[List.length_range];by_cases h1:j<i
 ·rw[if_pos h1,List.getElem?_range h1,List.getElem?_range (by omega)]
 rw[if_neg h1];by_cases h2:j=i
 ·subst h2;simp[h]
 obtain⟨m,hm⟩:∃m,j-i=m+1:=⟨j-i-1,by omega⟩
 rw[hm,List.getElem?_cons_succ,List.getElem?_drop];congr 1;omega
theorem uD{n i j:Nat}(h:j∈(List.range n).drop (i+1)):i<j∧j<n:=by
 obtain⟨k,hk⟩:=List.getElem?_of_mem h;rw[List.getElem?_drop]at hk;have:=I hk;simp only[List.length_range]at this;rw[List.getElem?_range this]at hk;simp only[Option.some.injEq]at hk;omega
def gO(ks:List Kind)(n:Nat)(bD:Array Bool):List (Nat×Kind) :=
 ((List.range n).filter fun i=>!bD.getD i true).map fun i=>(i,ks.getD i .write)
theorem DZ(ks:List Kind){n:Nat}{bD:Array Bool}(cH:bD.size=n){i:Nat}(hi:i<n)(hl:bD.getD i true=false) :
  ∃l1 l2,gO ks n bD=l1++(i,ks.getD i .write)::l2∧gO ks n (bD.setIfInBounds i true)=l1++l2∧∀p∈l1,p.1<i∧bD.getD p.1 true=false∧p.2=ks.getD p.1 .write:=by
 refine⟨((List.range i).filter fun j=>!bD.getD j true).map fun j=>(j,ks.getD j .write),(((List.range n).drop (i+1)).filter fun j=>!bD.getD j true).map fun j=>(j,ks.getD j .write),?_,?_,?_⟩
 ·unfold gO;rw[range_split hi];rw[List.filter_append,List.map_append,List.filter_cons];simp only[hl,Bool.not_false,if_true,List.map_cons];rw[<-range_split hi]
 ·unfold gO;rw[range_split hi];rw[List.filter_append,List.map_append,List.filter_cons];have Ul:(bD.setIfInBounds i true).getD i true=true:=by
   simp[Array.getD_eq_getD_getElem?,Array.getElem?_setIfInBounds_self_of_lt (by omega:i<bD.size)]
  simp only[Ul,Bool.not_true,Bool.false_eq_true,if_false];rw[<-range_split hi];have cq:∀j,j≠i->(bD.setIfInBounds i true).getD j true=bD.getD j true:=fun j hj=>by
   simp[Array.getD_eq_getD_getElem?,Array.getElem?_setIfInBounds_ne (fun e=>hj e.symm)]
  congr 2
  ·apply List.filter_congr;intro j hj;rw[List.mem_range]at hj;rw[cq j (by omega)]
  apply List.filter_congr;intro j hj;have:=uD hj;rw[cq j (by omega)]
 intro p hp;rw[List.mem_map]at hp;obtain⟨j,hj,e⟩:=hp;subst e;rw[List.mem_filter,List.mem_range]at hj;exact⟨hj.1,by simpa using hj.2,rfl⟩
theorem xi{bD:Array Bool}{i:Nat}(h:i<bD.size):bD.getD i true=bD.getD i false:=by
 simp[Array.getD_eq_getD_getElem?,h]
theorem BU{P:Program}{ops:Array Oper}{ks:List Kind}(hB:oc ops ks=true){base:G}{ρ:St}{Q:Exit->Act->World->Prop}(hQ:∀a g,Rel base ρ a g->Q .normal a g.w) :
  ∀(fuel:Nat) (bD:Array Bool) (σ:St) (a:Act) (g:G),bD.size=ops.size->ym ops bD->(gO ks ops.size bD).length<=fuel->eO P ops (gO ks ops.size bD) σ ρ->Rel base σ a g ->
   wpAny P .any ops Q fuel bD a g.w:=by
 simp only[oc,Bool.and_eq_true,List.all_eq_true,Bool.or_eq_true]at hB;obtain⟨⟨xk,_⟩,L'⟩:=hB;have PD:∀i o,ops[i]?=some o->∀e∈o.after.toList,Region.binds .any e=true->e.on<i:=by
  intro i o ho e he hb;simp only[N8,List.all_eq_true]at xk;have bf:i<ops.size:=aU ho;have:=xk i (List.mem_range.2 bf);simp only[ho,List.all_eq_true,Bool.or_eq_true,decide_eq_true_eq]at this;have:=this e he;simpa[hb]using this
 have PM:∀bD:Array Bool,bD.size=ops.size->Region.ready .any ops bD=[]->gO ks ops.size bD=[]:=by
  intro bD cH hr;refine Classical.byContradiction fun cq=>?_;have hex:∃i,i<ops.size∧bD.getD i true=false:=by
   cases ht:gO ks ops.size bD with
   | nil=>exact absurd ht cq
   | cons p r =>
    have hm:p∈gO ks ops.size bD:=by rw[ht];simp
    simp only[gO,List.mem_map,List.mem_filter,List.mem_range]at hm;obtain⟨i,⟨h1,h2⟩,_⟩:=hm;exact⟨i,h1,by simpa using h2⟩
  have VE:∃i,i<ops.size∧bD.getD i true=false∧∀j,j<i->bD.getD j true=true:=by
   obtain⟨i,h1,h2⟩:=hex;induction i using Nat.strongRecOn with
   | _ i ih =>
    by_cases h:∃j,j<i∧bD.getD j true=false
    ·obtain⟨j,h3,h4⟩:=h;exact ih j h3 (by omega) h4
    refine⟨i,h1,h2,fun j hj=>?_⟩;cases hc:bD.getD j true with
    | true=>rfl
    | false=>exact absurd ⟨j,hj,hc⟩ h
  obtain⟨i,h1,h2,h3⟩:=VE;have hi:i∈Region.ready .any ops bD:=by
   refine pY.2 ⟨h1,h2,ops[i],Array.getElem?_eq_getElem h1,fun e he hb=>?_⟩;have bf:=PD i _ (Array.getElem?_eq_getElem h1) e he hb;rw[<-xi (by omega)];exact h3 _ bf
  rw[hr]at hi;cases hi
 intro fuel;induction fuel with
 | zero =>
  intro bD σ a g cH hc hlen pn bE;have ht:gO ks ops.size bD=[]:=List.length_eq_zero_iff.1 (by omega);rw[ht]at pn;refine⟨?_,hQ a g (gQ.rel pn bE)⟩;cases hr:Region.ready .any ops bD with
  | nil=>rfl
  | cons i r =>
   have hi:i∈Region.ready .any ops bD:=by rw[hr];simp
   obtain⟨h1,h2,_⟩:=pY.1 hi;have:(i,ks.getD i .write)∈gO ks ops.size bD:=by
    simp only[gO,List.mem_map,List.mem_filter,List.mem_range];exact⟨i,⟨h1,by rw[h2];rfl⟩,rfl⟩
   rw[ht]at this;cases this
 | succ fuel ih =>
  intro bD σ a g cH hc hlen pn bE;refine⟨fun hr=>?_,fun i hi=>?_⟩
  ·have ht:=PM bD cH hr;rw[ht]at pn;exact hQ a g (gQ.rel pn bE)
  obtain⟨h1,h2,o,ho,h3⟩:=pY.1 hi;obtain⟨l1,l2,e1,e2,e3⟩:=DZ ks cH h1 h2;rw[e1]at pn;have Ve:=eO.front pn (fun p hp=>by
   obtain⟨q1,q2,q3⟩:=e3 p hp;have:=L' i (List.mem_range.2 h1) p.1 (List.mem_range.2 q1);rcases this with this|this
   ·have:=qV hc _ _ _ o ho h3 this;rw[<-xi (by omega),q2]at this;cases this
   rw[q3];exact this)
  obtain⟨fw,⟨o',iD,cc⟩,cG⟩:=Ve;rw[ho]at iD;simp only[Option.some.injEq]at iD;subst iD;rw[<-e2]at cG;have nU:(bD.setIfInBounds i true).size=ops.size:=by simpa using cH
  have qh:ym ops (bD.setIfInBounds i true):=by
   intro j oj IS xr e he hb;have EC:∀k,bD.getD k false=true->(bD.setIfInBounds i true).getD k false=true:=fun k hk=>getD_set_true hk;by_cases Um:j=i
   ·subst Um;rw[ho]at IS;simp only[Option.some.injEq]at IS;subst IS;exact EC _ (h3 e he hb)
   rw[getD_set_ne false (fun e=>Um e.symm)]at xr;exact EC _ (hc j oj IS xr e he hb)
  have gV:(gO ks ops.size (bD.setIfInBounds i true)).length<=fuel:=by
   rw[e1]at hlen;rw[e2];simp only[List.length_append,List.length_cons]at hlen ⊢;omega
  unfold wpOp;simp only[ho];rcases cc with⟨hw,r,m,AD,hk,I2⟩|⟨hw,_,I2⟩
  ·rw[if_pos (fI bE hw)];refine .inl (AD.2 base σ a g bE rfl (fun x _ y hy=>hy) (Mode.qj (.inr rfl)) _ _ fun u g' pt=>?_);subst I2;exact ih _ _ _ _ nU qh gV cG pt
  rw[if_neg (by rw[fI bE hw];simp)];subst I2;refine ih _ _ _ g nU qh gV cG ?_;cases iZ:o.dst with
  | none=>exact bE
  | some d=>exact bE.skip d
theorem nq{P:Program}(hm:P.follows .mixedOrders=true){ops:Array Oper}{ks:List Kind}(hB:oc ops ks=true){id:Nat}{base:G}{σ ρ:St}{a:Act}{g:G}{Q:Exit->Act->World->Prop}
  (pn:eO P ops ((List.range ops.size).map fun i=>(i,ks.getD i .write)) σ ρ) (bE:Rel base σ a g) (hQ:∀a g,Rel base ρ a g->Q .normal a g.w):(Code.region id ops true).wp P Q a g.w:=by
 refine wp_region_any hm ?_;have OF:gO ks ops.size (Array.replicate ops.size false)=(List.range ops.size).map fun i=>(i,ks.getD i .write):=by
  unfold gO;congr 1;rw[List.filter_eq_self];intro i hi;rw[List.mem_range]at hi;simp[Array.getD_eq_getD_getElem?,hi]
 have Xf:=bE.good.heap (w':={ g.w with drawn:=g.w.drawn+1 }) rfl rfl rfl rfl;have VB:=Le.heap (g:=g) (w':={ g.w with drawn:=g.w.drawn+1 }) rfl rfl rfl rfl;have pt:=bE.step VB Xf;have iC:(⟨σ.n,σ.bn,g.objs⟩:St)=σ:=by rw[bE.objs]
 rw[iC]at pt;refine BU hB hQ ops.size (Array.replicate ops.size false) σ a _ (by simp) ?_ ?_ (by rw[OF];exact pn) pt
 ·intro i o ho hl;have bf:i<ops.size:=aU ho;simp[Array.getD_eq_getD_getElem?,bf]at hl
 rw[OF];simp
theorem oA{P:Program}{ops:Array Oper}{base:G}{ρ:St}{Q:Exit->Act->World->Prop}(hQ:∀a g,Rel base ρ a g->Q .normal a g.w) :
  ∀(l:List (Nat×Kind)) (σ:St) (a:Act) (g:G),eO P ops l σ ρ->Rel base σ a g->wpOps P ops Q (l.map (·.1)) a g.w
 | [],σ,a,g,pn,bE=>hQ a g (gQ.rel pn bE)
 | (i,k)::r,σ,a,g,pn,bE=>by
  obtain⟨fw,⟨o,ho,cc⟩,cG⟩:=pn;simp only[List.map_cons,wpOps,ho];rcases cc with⟨hw,r',m,AD,hk,I2⟩|⟨hw,_,I2⟩
  ·rw[if_pos (fI bE hw)];refine .inl (AD.2 base σ a g bE rfl (fun x _ y hy=>hy) (Mode.qj (.inr rfl)) _ _ fun u g' pt=>?_);subst I2;exact oA hQ r _ _ _ cG pt
  rw[if_neg (by rw[fI bE hw];simp)];subst I2;refine oA hQ r _ _ g cG ?_;cases iZ:o.dst with
  | none=>exact bE
  | some d=>exact bE.skip d
theorem lK{P:Program}{ops:Array Oper}{ks:List Kind}{id:Nat}{base:G}{σ ρ:St}{a:Act}{g:G}{Q:Exit->Act->World->Prop}
  (pn:eO P ops ((List.range ops.size).map fun i=>(i,ks.getD i .write)) σ ρ) (bE:Rel base σ a g) (hQ:∀a g,Rel base ρ a g->Q .normal a g.w):(Code.region id ops false).wp P Q a g.w:=by
 refine wp_region ?_;have:=oA (Q:=Q) hQ _ σ a g pn bE;rw[List.map_map]at this;rw[show((List.range ops.size).map ((fun x:Nat×Kind=>x.1) ∘ fun i=>(i,ks.getD i .write)))=List.range ops.size by
  conv=>rhs;rw[<-List.map_id (List.range ops.size)]
  rfl]at this
 exact this
inductive dt where
 | norm
 | ret
 | exit (id:Nat)
def OZ(base:G)(Q:dt->St->Prop):Exit->Act->World->Prop
 | .normal,a,w=>∃g σ,g.w=w∧Rel base σ a g∧Q .norm σ
 | .ret,a,w=>∃g σ,g.w=w∧Rel base σ a g∧Q .ret σ
 | .exit id,a,w=>∃g σ,g.w=w∧Rel base σ a g∧Q (.exit id) σ
 | _,_,_=>False
def bX(P:Program)(kb:Nat)(c:Code)(Q:dt->St->Prop)(σ:St):Prop :=
 ∀(base:G) (a:Act) (g:G),base.objs.length<=kb->Rel base σ a g->c.wp P (OZ base Q) a g.w
theorem bX.mono{P:Program}{kb:Nat}{c:Code}{Q Q':dt->St->Prop}{σ:St}(h:bX P kb c Q σ)(hq:∀e σ,Q e σ->Q' e σ):bX P kb c Q' σ:=fun base a g hb hr =>
 wp_mono (h base a g hb hr) fun e a w hp=>by
  cases e with
  | normal=>obtain⟨g,σ,h1,h2,h3⟩:=hp;exact⟨g,σ,h1,h2,hq _ _ h3⟩
  | ret=>obtain⟨g,σ,h1,h2,h3⟩:=hp;exact⟨g,σ,h1,h2,hq _ _ h3⟩
  | exit id=>obtain⟨g,σ,h1,h2,h3⟩:=hp;exact⟨g,σ,h1,h2,hq _ _ h3⟩
  | goto l=>exact hp
  | panic c=>exact hp
  | outgrown=>exact hp
theorem bX.weaken{P:Program}{kb:Nat}{c:Code}{Q:dt->St->Prop}{σ τ:St}(h:bX P kb c Q τ)(hw:∀base a g,base.objs.length<=kb->Rel base σ a g->∃g',g'.w=g.w∧Rel base τ a g'):bX P kb c Q σ:=fun base a g hb hr=>by
 obtain⟨g',h1,h2⟩:=hw base a g hb hr;rw[<-h1];exact h base a g' hb h2
def bC(P:Program)(kb:Nat)(b:Code)(Q:dt->St->Prop):dt->St->Prop
 | .norm,σ=>bX P kb b Q σ
 | e,σ=>Q e σ
theorem aH{P:Program}{kb:Nat}{x y:Code}{Q:dt->St->Prop}{σ:St}(h:bX P kb x (bC P kb y Q) σ):bX P kb (.seq x y) Q σ:=fun base a g hb hr =>
 wp_seq (wp_mono (h base a g hb hr) fun e a w hp=>by
  cases e with
  | normal =>
   obtain⟨g,σ,h1,h2,h3⟩:=hp;subst h1;exact h3 base a g hb h2
  | ret=>exact hp
  | exit id=>exact hp
  | goto l=>exact hp
  | panic c=>exact hp
  | outgrown=>exact hp)
theorem aX{P:Program}{kb:Nat}{Q:dt->St->Prop}{σ:St}(h:Q .norm σ):bX P kb .skip Q σ:=fun base _ g _ hr=>wp_skip ⟨g,σ,rfl,hr,h⟩
theorem aq{P:Program}{kb:Nat}{Q:dt->St->Prop}{σ:St}(h:Q .ret σ):bX P kb .ret Q σ:=fun base _ g _ hr=>wp_ret ⟨g,σ,rfl,hr,h⟩
theorem aK{P:Program}{kb:Nat}{Q:dt->St->Prop}{σ:St}{id:Nat}(h:Q (.exit id) σ):bX P kb (.exit id) Q σ:=fun base _ g _ hr=>wp_exit ⟨g,σ,rfl,hr,h⟩
def bG(id:Nat)(Q:dt->St->Prop):dt->St->Prop
 | .exit lE,σ=>if lE=id then Q .norm σ else Q (.exit lE) σ
 | e,σ=>Q e σ
theorem ah{P:Program}{kb:Nat}{id:Nat}{c:Code}{Q:dt->St->Prop}{σ:St}(h:bX P kb c (bG id Q) σ):bX P kb (.block id c) Q σ:=fun base a g hb hr =>
 wp_block (wp_mono (h base a g hb hr) fun e a w hp=>by
  cases e with
  | normal=>exact hp
  | ret=>exact hp
  | exit lE =>
   obtain⟨g,σ,h1,h2,h3⟩:=hp;simp only[bG]at h3;simp only[Exit.inBlock];split
   ·rename_i e;rw[if_pos e]at h3;exact⟨g,σ,h1,h2,h3⟩
   rename_i e;rw[if_neg e]at h3;exact⟨g,σ,h1,h2,h3⟩
  | goto l=>exact hp
  | panic c=>exact hp
  | outgrown=>exact hp)
theorem nG{P:Program}{kb:Nat}{c:Operand}{x y:Code}{Q:dt->St->Prop}{σ:St}{b:Bool}(hc:σ.ev c=some (.v (.bool b)))(ht:b=true->bX P kb x Q σ)(hf:b=false->bX P kb y Q σ):bX P kb (.cond c x y) Q σ:=fun base a g hb hr=>by
 have qh:=(hr.eval hc).bZ.1;cases b
 ·exact wp_cond_false qh (hf rfl base a g hb hr)
 exact wp_cond_true qh (ht rfl base a g hb hr)
def Sub(O:List ak)(x y:ae):Prop:=∀(g:G) (u:Value),g.objs=O->RV g x u->RV g y u
theorem Sub.refl{O:List ak}(x:ae):Sub O x x:=fun _ _ _ h=>h
theorem Sub.of_eq{O:List ak}{x y:ae}(h:x=y):Sub O x y:=h ▸ Sub.refl x
theorem Sub.sh{O:List ak}{sz:Nat}{xs ys:List ae}{o:m9}(h:xs=ys):Sub O (.aA sz xs o) (.aA sz ys .sh):=fun _ _ _ k=>h ▸ k.rR
theorem Sub.nil{O:List ak}{sz:Nat}{xs:List ae}{o:m9}(h:xs=[])(ho:∀id,o≠.tok id)(hn:o≠.nn):Sub O (.v (.slice none 0 0)) (.aA sz xs o):=fun g u _ k=>by
 have:=k.bZ.1;subst this;subst h;exact .nil (fun id e=>absurd e (ho id)) hn
def eQ(σ:St):List (Nat×ae)->Prop
 | []=>True
 | (s,y)::r=>(∃x,σ.get s=some x∧Sub σ.objs x y)∧eQ σ r
theorem r8{σ:St}{base:G}{a:Act}{g:G}(hr:Rel base σ a g):∀{l:List (Nat×ae)},eQ σ l->∀s y,look l s=some y->∃u,a.tmps[s]?=some u∧RV g y u
 | [],_,s,y,h=>by cases h
 | (k,z)::l,h,s,y,hl=>by
  obtain⟨⟨x,h1,h2⟩,h3⟩:=h;simp only[look]at hl;split at hl
  ·rename_i e;subst e;simp only[Option.some.injEq]at hl;subst hl;obtain⟨u,h4,h5⟩:=hr.slot k x h1;exact⟨u,h4,h2 g u hr.objs h5⟩
  exact r8 hr h3 s y hl
structure ba(σ τ:St):Prop where
 n:σ.n=τ.n
 objs:σ.objs=τ.objs
 Wh:eQ σ τ.bn
theorem ba.rel{σ τ:St}(h:ba σ τ){base:G}{a:Act}{g:G}(hr:Rel base σ a g):Rel base τ a g where
 le:=hr.le
 good:=hr.good
 objs:=hr.objs.trans h.objs
 size:=hr.size.trans h.n
 defers:=hr.defers
 slot:=fun s y hy=>r8 hr h.Wh s y hy
theorem bX.cover{P:Program}{kb:Nat}{c:Code}{Q:dt->St->Prop}{σ τ:St}(h:bX P kb c Q τ)(hc:ba σ τ):bX P kb c Q σ:=fun base a g hb hr=>h base a g hb (hc.rel hr)
def fM{ι:Type}(L:ι->St)(μ:ι->Nat)(i:ι)(Q:dt->St->Prop):dt->St->Prop
 | .norm,σ=>∃j,μ j<μ i∧ba σ (L j)
 | e,σ=>Q e σ
theorem aL{P:Program}{kb:Nat}{c:Code}{Q:dt->St->Prop}{σ:St}{ι:Type}(L:ι->St)(μ:ι->Nat)(i0:ι)(h0:ba σ (L i0))(round:∀i,bX P kb c (fM L μ i Q) (L i)):bX P kb (.loop c) Q σ:=by
 intro base a g hb hr b k cs;have key:∀n i a g,μ i=n->Rel base (L i) a g->∃e a' w',OZ base Q e a' w'∧Arrives P (lone (b.at a (.code c::.inLoop c::k)) cs g.w) b k cs e a' w':=by
  intro n;induction n using Nat.strongRecOn with
  | _ n ih =>
   intro i a g hn hr;obtain⟨e,Pa,TX,hq,gm⟩:=round i base a g hb hr b (.inLoop c::k) cs;cases e with
   | normal =>
    obtain⟨Iq,Fa,h1,h2,j,h3,h4⟩:=hq;subst h1;obtain⟨UK,UG,Wm,Tg,LR⟩:=ih (μ j) (hn ▸ h3) j Pa Iq rfl (h4.rel h2);exact⟨UK,UG,Wm,Tg,.of_steps (Steps.trans gm (.one step_inLoop)) LR⟩
   | exit id =>
    obtain⟨Iq,Fa,h1,h2,h3⟩:=hq;exact⟨.exit id,Pa,TX,⟨Iq,Fa,h1,h2,h3⟩,.pass (x:=.inLoop c) rfl (fun _ _=>.inl (by simp)) gm⟩
   | goto l=>exact hq.elim
   | ret =>
    obtain⟨Iq,Fa,h1,h2,h3⟩:=hq;exact⟨.ret,Pa,TX,⟨Iq,Fa,h1,h2,h3⟩,.pass (x:=.inLoop c) rfl (fun _ _=>.inl (by simp)) gm⟩
   | panic ch=>exact hq.elim
   | outgrown=>exact hq.elim
 obtain⟨e,a',w',hq,gm⟩:=key _ i0 a g rfl (h0.rel hr);exact⟨e,a',w',hq,.of_steps (.one step_loop) gm⟩
theorem Ld{P:Program}{kb:Nat}{c:Code}{Q:dt->St->Prop}{n:Nat}{bn:List (Nat×ae)}{O:List ak}(s:Nat){sz:Nat}{xs:List ae}(hs:look bn s=some (.aA sz xs .ex))
  (h:bX P kb c Q ⟨n,bw s (.aA sz xs (.tok O.length)) bn,O++[.spare xs.length]⟩):bX P kb c Q ⟨n,bn,O⟩ :=
 h.weaken fun base a g hb hr=>by
  have hO:g.objs=O:=hr.objs;refine⟨g.mark (.spare xs.length),rfl,?_⟩;have hle:=Le.mark hr.good (.spare xs.length);refine { le:=hr.le.trans hle,good:=Good.mark hr.good _,objs:=by simp[G.mark,hO],size:=hr.size,defers:=hr.defers,slot:=fun k x hx=>?_ };simp only[St.get,fP]at hx;split at hx
  ·rename_i e;subst e;simp only[Option.some.injEq]at hx;subst hx;obtain⟨u,h1,h2⟩:=hr.slot s _ hs;refine⟨u,h1,?_⟩;have h3:=h2.mono hle;cases h3 with
   | nil=>exact .nil (fun id e=>by simp only[m9.tok.injEq]at e;subst e;simp[G.mark,hO]) (by simp)
   | aA cH df cP cy hs f hm hr ho =>
    refine .aA cH df cP cy hs f hm hr ⟨by simp[G.mark,hO],fun m dS=>?_⟩;have:(g.mark (.spare xs.length)).objs[O.length]?=some (.spare xs.length):=by
     rw[<-hO];exact eH
    rw[this]at dS;simp only[Option.some.injEq,ak.spare.injEq]at dS;exact⟨by omega,fun _=>.inl ho⟩
  obtain⟨u,h1,h2⟩:=hr.slot k x hx;exact⟨u,h1,h2.mono hle⟩
theorem ru{P:Program}{kb:Nat}{c:Code}{Q:dt->St->Prop}{n:Nat}{bn:List (Nat×ae)}{O:List ak}(k:Nat)(hk:k<=O.length)(FZ:kb<=k)(cz:List (Nat×ae))(hb:∀o∈O.take k,o.upto k)(hs:eQ ⟨n,bn,O⟩ cz)
  (ng:∀s x,look cz s=some x->x.upto k) (h:bX P kb c Q ⟨n,cz,O.take k⟩):bX P kb c Q ⟨n,bn,O⟩:=by
 intro base a g R7 hr;have hO:g.objs=O:=hr.objs;have Da:Rel base ⟨n,cz,O.take k⟩ a (g.cg k):={
  le:=hr.le.cg (by omega)
  good:=hr.good.cg (by rw[hO];exact hk) (by rw[hO];exact hb)
  objs:=by simp only[G.cg,hO]
  size:=hr.size
  defers:=hr.defers
  slot:=fun s x hx=>by
   obtain⟨u,h1,h2⟩:=r8 hr hs s x hx;exact⟨u,h1,h2.cg (by rw[hO];exact hk) (ng s x hx)⟩ }
 exact h base a (g.cg k) R7 Da
theorem xV{P:Program}{o:Oper}{x:Operand}{args:Array Operand}{rm:Array TypeId}(ho:o.op=.call ⟨.value x,args,rm⟩){a:Act}{w:World}{f:FuncId}{us vs:Array Value}(hx:a.eval x=.func (.func f) us vs)(hf:Enters P f) :
  (execOp a.eval o).run P w=.ok (.enter f (us++args.map a.eval++vs)) w:=by
 obtain⟨fn,h1,h2,h3⟩:=hf;simp only[execOp,ho,resolve,hx,Deferred.ofValue,Sem.run_bind,Sem.run_pure,Result.andThen_ok,invoke,callFunc,run_program,h1,h2,h3];rfl
theorem jg.mj{g:G}{cs ds:List ae}{us vs:Array Value}(h:jg g cs us)(k:jg g ds vs):jg g (cs++ds) (us++vs):=by
 have:=jg.append (us:=us.toList) (vs:=vs.toList) (by simpa using h) (by simpa using k);have e:(us.toList++vs.toList).toArray=us++vs:=Array.ext' (by simp);rw[<-e];exact this
theorem rB{P:Program}{o:Oper}{σ:St}{x:Operand}{args:Array Operand}{rm:Array TypeId}{f:FuncId}{fs cs dC:List ae}{r:ae}(m:Mode)
  (ho:o.op=.call ⟨.value x,args,rm⟩) (hd:∀d,o.dst=some d->d<σ.n) (hx:σ.ev x=some (.fn (.func f) fs cs)) (ha:σ.Aq args.toList=some dC) {args':List ae} (eX:∀g u,jg g (fs++dC++cs) u->jg g args' u)
  (dr:∀O,(m=.pure∨O=σ.objs)->bd P f O args' fun r' O'=>r'=r∧O'=m.post O) (FW:Enters P f) (hp:m.plain:=by trivial):Cert P o σ r m:=by
 refine⟨by cases m<;>first|trivial|exact hp.elim,?_⟩;intro base τ a g bE hn mf hm K Q hK;have TE:σ.ev x=some (.fn (.func f) fs cs):=hx;have h1:=bE.eval (mf x (by simp[ho,Op.operands,Call.operands]) _ hx);obtain⟨us,vs,e1,l1,l2,r1,r2⟩:=h1.Im;have h2:=qF (σ:=σ) (a:=a) (g:=g) (xs:=args.toList) (fun z hz y hy=>bE.eval (mf z (by
  rw[ho];simp only[Op.operands,Call.operands,Array.mem_append];exact .inr (Array.mem_toList_iff.1 hz)) y hy)) ha
 have Ir:jg g dC (args.map a.eval):=by
  have e:args.map a.eval=(args.toList.map a.eval).toArray:=Array.ext' (by rw[Array.toList_map]);rw[e];exact h2
 have cr:=eX g _ ((jg.mj (jg.mj ⟨l1,r1⟩ Ir) ⟨l2,r2⟩));have bF:=xV (P:=P) (w:=g.w) ho e1 FW;unfold Oper.wp;rw[bF,Oper.upon_enter];refine((dr g.objs (by
  rcases m.Bk hp hm with hm|hm
  ·exact .inl hm
  exact .inr (bE.objs.trans hm))).2 g _ bE.good rfl cr).mono ?_
 rintro e w' ⟨g',v,r',q1,q2,q3,q4,q5,q6,q7⟩;subst q1;subst q2;subst q6;refine hK v g' ?_;have e:g'.objs=m.post τ.objs:=by rw[q7,bE.objs]
 cases iZ:o.dst with
 | none =>
  have:=bE.step q3 q4;rw[e]at this;exact this
 | some d =>
  have:=bE.put q3 q4 (d:=d) (by rw[hn];exact hd d iZ) q5;rw[e]at this;exact this
theorem jg.share{g:G}{cs:List ae}{u:Array Value}(h:jg g cs u):jg g (cs.map ae.share) u :=
 ⟨by simpa using h.1,fun j c v a b=>by
  rw[List.getElem?_map,Option.map_eq_some_iff]at a;obtain⟨c',h1,h2⟩:=a;subst h2;exact(h.2 j c' v h1 b).share⟩
theorem Cv{P:Program}{o:Oper}{σ:St}{x:Operand}{args:Array Operand}{rm:Array TypeId}{f:FuncId}{fs cs dC:List ae}{r:ae}
  (ho:o.op=.call ⟨.value x,args,rm⟩) (hd:∀d,o.dst=some d->d<σ.n) (hx:σ.ev x=some (.fn (.func f) fs cs)) (ha:σ.Aq args.toList=some dC)
  (dr:bA P f ((fs++dC++cs).map ae.share) r) (bB:av 0 ((fs++dC++cs).map ae.share)):Cert P o σ r .pure :=
 rB .pure ho hd hx ha (args':=(fs++dC++cs).map ae.share) (fun _ _ h=>h.share) (fun O _=>dr.use bB O) dr.1
theorem uj{P:Program}{o:Oper}{σ:St}{x:Operand}{args:Array Operand}{rm:Array TypeId}{f:FuncId}{fs cs dC:List ae}{r:ae}{O':List ak}
  (ho:o.op=.call ⟨.value x,args,rm⟩) (hd:∀d,o.dst=some d->d<σ.n) (hx:σ.ev x=some (.fn (.func f) fs cs)) (ha:σ.Aq args.toList=some dC)
  (dr:bd P f σ.objs (fs++dC++cs) fun r' O1=>r'=r∧O1=O'):Cert P o σ r (.write O') :=
 rB (.write O') ho hd hx ha (args':=fs++dC++cs) (fun _ _ h=>h) (fun O hO=>by
  have:O=σ.objs:=hO.resolve_left (by simp);subst this;exact dr) dr.1
theorem Cw{P:Program}{o:Oper}{σ:St}{x:Operand}{args:Array Operand}{rm:Array TypeId}{f:FuncId}{fs cs dC:List ae}{r:ae}
  (ho:o.op=.call ⟨.value x,args,rm⟩) (hd:∀d,o.dst=some d->d<σ.n) (hx:σ.ev x=some (.fn (.func f) fs cs)) (ha:σ.Aq args.toList=some dC)
  (dr:bd P f σ.objs (fs++dC++cs) fun r' O1=>r'=r∧O1=σ.objs):Cert P o σ r .read :=
 rB .read ho hd hx ha (args':=fs++dC++cs) (fun _ _ h=>h) (fun O hO=>by
  have:O=σ.objs:=hO.resolve_left (by simp);subst this;exact dr) dr.1
theorem qc{g:G}{id:Nat}{o:ak}{l':Option Loc}(ho:g.objs[id]?=some o)(he:g.env[id]?=some l')(hp:¬o.aD)(hl:o.live):kC g id o l' .gone g.w where
 obj:=ho
 os:=rfl
 tape:=rfl
 output:=rfl
 size:=Nat.le_refl _
 block:=fun _ _ _=>rfl
 cell:=fun b off x hx _=>hx
 place:=fun _ _ h=>h.elim
 spare:=fun m h=>by subst h;exact absurd trivial hp
 plain:=fun _=>⟨by simp[ak.aD],he⟩
 gone:=fun h=>by subst h;exact hl
def G.freeze(g:G)(id:Nat)(l':Option Loc):G:=g.bu id l' .gone g.w
def bM(O:List ak)(id:Nat)(x y:ae):Prop :=
 ∀(g:G) (u:Value) (l':Option Loc),Good g->g.objs=O->g.env[id]?=some l'->Le g (g.freeze id l')->RV g x u->RV (g.freeze id l') y u
theorem bM.refl{O:List ak}{id:Nat}(x:ae):bM O id x x:=fun _ _ _ _ _ _ hle h=>h.mono hle
theorem mE{g:G}(hg:Good g){id:Nat}{l:Loc}{o:ak}(he:g.env[id]?=some (some l))(ho:g.objs[id]?=some o)(hl:o.live)(off:Nat):¬iX (g.freeze id (some l)) l.block off:=by
 have bf:=I ho;rintro(hf|⟨lE,l',o',h1,h2,h3,h4,_⟩)
 ·exact hg.fm id l o he ho hl off hf
 simp only[G.freeze,G.bu]at h1 h2;by_cases e:lE=id
 ·subst e;rw[List.getElem?_set_self (by omega)]at h2;simp only[Option.some.injEq]at h2;subst h2;exact h3
 rw[List.getElem?_set_ne (Ne.symm e)]at h1 h2;exact e (hg.apart lE id l' l o' o h1 h2 h3 he ho hl h4)
theorem bM.mp{O:List ak}{id off:Nat}{cs ds:List ae}(fK:O[id]?=some (.cells cs))(hd:(cs.drop off).map ae.bg=ds):bM O id (.mp id off) (.ip none ds):=fun g u l' hg hO he hle h=>by
 obtain⟨l,o1,h1,h2,_,eu⟩:=h.kO;subst eu;rw[he]at h1;simp only[Option.some.injEq]at h1;subst h1;have gb:g.objs[id]?=some (.cells cs):=by rw[hO];exact fK
 obtain⟨arr,t',ix,da,hlen,fA,nQ,_⟩:=hg.row gb he;subst hd;refine .ip (.inl rfl) (fun c hc=>by
  obtain⟨c',h1,h2⟩:=List.mem_map.1 hc;subst h2;exact ae.ew (nQ c' (List.mem_of_mem_drop h1))) (fun j=>arr.getD (off+j) undef) (fun j c hj=>?_) (fun j c hj=>?_)
 ·rw[List.getElem?_map,Option.map_eq_some_iff]at hj;obtain⟨c',hj,_⟩:=hj;rw[List.getElem?_drop]at hj;have bf:=I hj;refine⟨?_,mE hg he gb trivial _⟩;show g.w.cell? _=_;rw[cell_of_row da];simp[Array.getD_eq_getD_getElem?,show off+j<arr.size by omega]
 rw[List.getElem?_map,Option.map_eq_some_iff]at hj;obtain⟨c',hj,e⟩:=hj;subst e;rw[List.getElem?_drop]at hj;have bf:=I hj;exact((fA _ c' _ hj (by simp[Array.getD_eq_getD_getElem?,show off+j<arr.size by omega])).mono hle).bg
theorem bM.ms{O:List ak}{id off len cap sz:Nat}{cs xs:List ae}(fK:O[id]?=some (.cells cs))(cH:∀x∈xs,x.cells.length=sz)(hlen:xs.length=len)(hd:((cs.drop off).take (len*sz)).map ae.bg=an xs):bM O id (.ms id off len cap) (.aA sz xs .sh):=fun g u l' hg hO he hle h=>by
 obtain⟨l,o1,h1,h2,_,Hc,cy,gA,cP,eu⟩:=h.n5;subst eu;rw[he]at h1;simp only[Option.some.injEq]at h1;subst h1;have gb:g.objs[id]?=some (.cells cs):=by rw[hO];exact fK
 obtain⟨arr,t',ix,da,mG,fA,nQ,_⟩:=hg.row gb he;subst hlen;have key:∀(j:Nat) (c:ae),(an xs)[j]?=some c->∃c',cs[off+j]?=some c'∧c'.bg=c:=fun j c hj=>by
  rw[<-hd,List.getElem?_map,Option.map_eq_some_iff]at hj;obtain⟨c',hj,e⟩:=hj;have:=l9 hj;rw[List.getElem?_drop]at this;exact⟨c',this,e⟩
 refine .aA cH (fun x hx c hc=>?_) (Nat.le_trans Hc cP) cy (fun _=>rfl) (fun j=>arr.getD (off+j) undef) (fun j c hj=>?_) (fun j c hj=>?_) trivial
 ·have fL:c∈an xs:=by
   simp only[an,List.mem_flatMap];exact⟨x,hx,hc⟩
  obtain⟨j,hj⟩:=List.getElem?_of_mem fL;obtain⟨c',iB,e⟩:=key j c hj;subst e;exact ae.ew (nQ c' (List.mem_of_getElem? iB))
 ·obtain⟨c',iB,e⟩:=key j c hj;have bf:=I iB;refine⟨?_,mE hg he gb trivial _⟩;show g.w.cell? _=_;simp only;rw[cell_of_row da];simp[Array.getD_eq_getD_getElem?,show off+j<arr.size by omega]
 obtain⟨c',iB,e⟩:=key j c hj;have bf:=I iB;subst e;exact((fA _ c' _ iB (by simp[Array.getD_eq_getD_getElem?,show off+j<arr.size by omega])).mono hle).bg
theorem bM.mm{O:List ak}{id:Nat}{kt:KT}{es:List (Value×ae)}(fK:O[id]?=some (.map kt es))(hp:kt.plain:=by trivial):bM O id (.mm id) (.im kt es):=fun g u l' hg hO he hle h=>by
 obtain⟨l,o1,h1,h2,_,eu⟩:=h.Dm;subst eu;rw[he]at h1;simp only[Option.some.injEq]at h1;subst h1;have gb:g.objs[id]?=some (.map kt es):=by rw[hO];exact fK
 obtain⟨l2,ob,e1,e2,e3,yG⟩:=hg.map id kt es gb;obtain⟨arr,clk,e9,e4,e5,e6,Iy⟩:=yG.map hp;subst e9;rw[he]at e1;simp only[Option.some.injEq]at e1;subst e1;exact .im (r:=l.block) (clk:=clk) (arr:=arr) e3 (fun off=>mE hg he gb trivial off) e4 (fun i e kx a b=>(e6 i e kx a b).1) e5 Iy (fun i e kx a b=>(e6 i e kx a b).2.2.mono hle)
theorem Cf{P:Program}{kb:Nat}{c:Code}{Q:dt->St->Prop}{n:Nat}{bn:List (Nat×ae)}{O:List ak}(id:Nat){o:ak}(fK:O[id]?=some o)(hp:¬o.aD)(lk:o.live)(cz:List (Nat×ae))
  (hs:∀s y,look cz s=some y->∃x,look bn s=some x∧bM O id x y) (h:bX P kb c Q ⟨n,cz,O.set id .gone⟩):bX P kb c Q ⟨n,bn,O⟩ :=
 h.weaken fun base a g hb hr=>by
  have hO:g.objs=O:=hr.objs;have gb:g.objs[id]?=some o:=by rw[hO];exact fK
  have bf:=iM hr.good gb;have he:g.env[id]?=some g.env[id]:=List.getElem?_eq_getElem bf;have ht:=qc gb he hp lk;have hle:=Le.bu hr.good ht;refine⟨g.freeze id g.env[id],rfl,{ le:=hr.le.trans hle,good:=Good.bu hr.good ht trivial (fun _ _ h=>h.elim),objs:=by simp[G.freeze,G.bu,hO],size:=hr.size,defers:=hr.defers,slot:=fun s y hy=>?_ }⟩;obtain⟨x,h1,h2⟩:=hs s y hy;obtain⟨u,h3,h4⟩:=hr.slot s x h1;exact⟨u,h3,h2 g u _ hr.good hO he hle h4⟩
theorem aC{P:Program}{kb:Nat}{c:Code}{Q:dt->St->Prop}{n:Nat}{bn:List (Nat×ae)}{O:List ak}(s id:Nat){o:ak}{x:ae}(y:ae)(fK:O[id]?=some o)(hp:¬o.aD)(lk:o.live)(hx:look bn s=some x)(hf:bM O id x y)
  (h:bX P kb c Q ⟨n,bw s y bn,O.set id .gone⟩):bX P kb c Q ⟨n,bn,O⟩ :=
 Cf id fK hp lk (bw s y bn) (fun k z hz=>by
  rw[fP]at hz;split at hz
  ·rename_i e;subst e;simp only[Option.some.injEq]at hz;subst hz;exact⟨x,hx,hf⟩
  exact⟨z,hz,.refl z⟩) h
theorem gS{P:Program}{kb:Nat}{c:Code}{Q:dt->St->Prop}{n:Nat}{bn:List (Nat×ae)}{O:List ak}(id:Nat){o:ak}(fK:O[id]?=some o)(hp:¬o.aD)(lk:o.live)(cz:List (Nat×ae))
  (hs:∀s y,look cz s=some y->∃x,look bn s=some x∧bM O id x y) (k:Nat) (hk:k≠id) (cs ds:List ae) (k8:O[k]?=some (.cells cs)) (hl:cs.length=ds.length) (df:∀d∈ds,d.scalar)
  (fA:∀(j:Nat) (c d:ae),cs[j]?=some c->ds[j]?=some d->bM O id c d) (h:bX P kb c Q ⟨n,cz,(O.set id .gone).set k (.cells ds)⟩):bX P kb c Q ⟨n,bn,O⟩ :=
 h.weaken fun base a g hb hr=>by
  have hO:g.objs=O:=hr.objs;have gb:g.objs[id]?=some o:=by rw[hO];exact fK
  have bf:=iM hr.good gb;have he:g.env[id]?=some g.env[id]:=List.getElem?_eq_getElem bf;have ht:=qc gb he hp lk;have hle:=Le.bu hr.good ht;have c8:=Good.bu hr.good ht trivial (fun _ _ h=>h.elim);obtain⟨l,arr,t,e1,e2,e3,e4,e5,e6⟩:=hr.good.cells k cs (by rw[hO];exact k8);have Mi:(g.freeze id g.env[id]).objs[k]?=some (.cells cs):=by
   simp only[G.freeze,G.bu];rw[List.getElem?_set_ne (Ne.symm hk),hO];exact k8
  have Su:(g.freeze id g.env[id]).env[k]?=some (some l):=by
   simp only[G.freeze,G.bu];rw[List.getElem?_set_ne (Ne.symm hk)];exact e1
  have Tw:kC (g.freeze id g.env[id]) k (.cells cs) (some l) (.cells ds) g.w:={
   obj:=Mi
   os:=rfl
   tape:=rfl
   output:=rfl
   size:=Nat.le_refl _
   block:=fun _ _ _=>rfl
   cell:=fun b off x hx _=>hx
   place:=fun l1 h1 _=>by
    simp only[Option.some.injEq]at h1;subst h1;exact .inr ⟨l,Su,trivial,rfl,Nat.le_refl _⟩
   spare:=fun m h=>by cases h
   plain:=fun _=>⟨by simp[ak.aD],Su⟩
   gone:=by simp }
  have AK:=Le.bu c8 Tw;have C3:=Good.bu c8 Tw ⟨l,arr,t,rfl,e2,e3,by omega,fun j d u hd hu=>by
   have bf:=I hd;have hc:cs[j]?=some cs[j]:=List.getElem?_eq_getElem (by omega);exact(fA j _ d hc hd g u _ hr.good hO he hle (e5 j _ u hc hu)).mono AK,df,e6.2⟩ (fun l1 h1 _=>by
    simp only[Option.some.injEq]at h1;subst h1;exact aU e3)
  refine⟨(g.freeze id g.env[id]).bu k (some l) (.cells ds) g.w,rfl,{ le:=(hr.le.trans hle).trans AK,good:=C3,objs:=by simp[G.freeze,G.bu,hO],size:=hr.size,defers:=hr.defers,slot:=fun s y hy=>?_ }⟩;obtain⟨x,h1,h2⟩:=hs s y hy;obtain⟨u,h3,h4⟩:=hr.slot s x h1;exact⟨u,h3,(h2 g u _ hr.good hO he hle h4).mono AK⟩
theorem mW{P:Program}(w:World){t e:TypeId}(a:Addr)(n c:Nat)(ht:P.underlying t=some (.slice e)) :
  (binOp .neq t (.slice (some a) n c) (.slice none 0 0)).run P w=.ok (.bool true) w:=by
 have h:∀d:Nat,(Op.equalIn (d+1) t (.slice (some a) n c) (.slice none 0 0)).run P w=.ok false w:=fun d=>by
  simp[Op.equalIn,run_underlying ht]
 simp only[binOp];simp[Op.equal,Op.maxDepth,h 9999]
theorem nz{P:Program}(w:World){t e:TypeId}(n c:Nat)(ht:P.underlying t=some (.slice e)) :
  (binOp .neq t (.slice none n c) (.slice none 0 0)).run P w=.ok (.bool false) w:=by
 have h:∀d:Nat,(Op.equalIn (d+1) t (.slice none n c) (.slice none 0 0)).run P w=.ok true w:=fun d=>by
  simp[Op.equalIn,run_underlying ht]
 simp only[binOp];simp[Op.equal,Op.maxDepth,h 9999]
theorem y4{P:Program}(w:World){op:BinOp}{t e:TypeId}{u:Value}{b r:Bool}(ht:P.underlying t=some (.slice e))(hu:(∃n c,u=.slice none n c∧b=true)∨(∃a n c,u=.slice (some a) n c∧b=false))
  (hr:(op=.eql∧r=b)∨(op=.neq∧r=!b)):(binOp op t u (.slice none 0 0)).run P w=.ok (.bool r) w:=by
 rcases hu with⟨n,c,e1,e2⟩|⟨a,n,c,e1,e2⟩<;>rcases hr with⟨e3,e4⟩|⟨e3,e4⟩<;>subst e1<;>subst e2<;>subst e3<;>subst e4
 ·exact Go.Lib.run_eql_slice_nil_nil w n c ht
 ·exact nz w n c ht
 ·exact Go.Lib.run_eql_slice_some_nil w a n c ht
 exact mW w a n c ht
theorem z7{P:Program}{aR:ez}(hT:bT P aR){o:Oper}{σ:St}{t t' e:TypeId}{x:Operand}{ti:b6}{y:ae}{b r:Bool}{op:BinOp}
  (ho:o.op=.binOp op t x (.const (.slice none 0 0)) t') (hd:∀d,o.dst=some d->d<σ.n) (ht:aR t=some ti) (aS:ti.desc=.slice e) (hx:σ.ev x=some y)
  (hy:(y=.v (.slice none 0 0)∧b=true)∨(∃sz xs,y=.aA sz xs .nn∧b=false)∨(∃id off len cap,y=.ms id off len cap∧b=false)) (hr:(op=.eql∧r=b)∨(op=.neq∧r=!b)):Cert P o σ (.v (.bool r)) .pure :=
 Cert.bL .pure (.inl rfl) hd fun a g _ h _=>by
  have hu:=bQ hT ht aS;have hZ:=h x (by simp[ho,Op.operands]) _ hx;refine⟨.bool r,?_,.v trivial⟩;have ng:(∃n c,a.eval x=.slice none n c∧b=true)∨(∃ad n c,a.eval x=.slice (some ad) n c∧b=false):=by
   rcases hy with⟨e1,e2⟩|⟨sz,xs,e1,e2⟩|⟨id,off,len,cap,e1,e2⟩
   ·subst e1;exact .inl ⟨_,_,hZ.bZ.1,e2⟩
   ·subst e1;cases hv:a.eval x with
    | slice ad len cap =>
     rw[hv]at hZ;cases hZ with
     | nil ho hn=>exact absurd rfl hn
     | aA cH df cP cy hs f hm hr ho=>exact .inr ⟨_,_,_,rfl,e2⟩
    | _=>rw[hv]at hZ;cases hZ
   subst e1;obtain⟨l,o1,_,_,_,_,_,gA,_,eu⟩:=hZ.n5;exact .inr ⟨_,_,_,eu,e2⟩
  have bF:=y4 (P:=P) g.w hu ng hr;have Mm:∃ad n c,a.eval x=.slice ad n c:=by
   rcases ng with⟨_,_,e,_⟩|⟨_,_,_,e,_⟩
   ·exact⟨_,_,_,e⟩
   exact⟨_,_,_,e⟩
  obtain⟨ad,n,c,Mm⟩:=Mm;have hg:=cK (P:=P) op t x (.const (.slice none 0 0)) (.slice ad n c) (.slice none 0 0) g.w (by simp) (by simp);rw[Mm]at bF;have hc:a.eval (.const (.slice none 0 0))=.slice none 0 0:=rfl;simp[execOp,ho,Mm,hc,hg,bF]
theorem Ct{P:Program}{aR:ez}(hT:bT P aR){o:Oper}{σ:St}{t e:TypeId}{x:Operand}{ti:b6}{sz:Nat}{xs:List ae}
  (ho:o.op=.call ⟨.builtin .cap,#[x],#[t]⟩) (hd:∀d,o.dst=some d->d<σ.n) (ht:aR t=some ti) (aS:ti.desc=.slice e) (hx:σ.ev x=some (.aA sz xs .ex)):Cert P o σ (.v (.int .i64 xs.length)) .pure :=
 Cert.bL .pure (.inl rfl) hd fun a g _ h _=>by
  have hu:=bQ hT ht aS;have hZ:=h x (by simp[ho,Op.operands,Call.operands]) _ hx;have cy:=hZ.EU;have key:∃ad,a.eval x=.slice ad xs.length xs.length:=by
   rcases hZ.fg with⟨q1,q2⟩|⟨ad,cap,_,q1,_,_,_,_,_,_,_,q2⟩
   ·subst q2;exact⟨_,q1⟩
   have q3:cap=xs.length:=q2;subst q3;exact⟨_,q1⟩
  obtain⟨ad,q1⟩:=key;refine⟨.int .i64 xs.length,?_,.v ?_⟩
  ·rw[cJ ho];simp[builtin,Builtin.cap_,q1,run_underlying hu,goInt]
  simp[gK,IntKind.min,IntKind.max,IntKind.bits,IntKind.signed];omega
theorem pj{P:Program}{o:Oper}{σ:St}{x:Operand}{y:ae}(ho:o.op=.nilCheck x)(hd:∀d,o.dst=some d->d<σ.n)(hx:σ.ev x=some y)
  (hy:(∃id off,y=.mp id off)∨∃oa cs,y=.ip oa cs):Cert P o σ y .pure :=
 Cert.bL .pure (.inl rfl) hd fun a g _ h _=>by
  have hZ:=h x (by simp[ho,Op.operands]) _ hx;have key:∃ad,a.eval x=.pointer (some ad):=by
   rcases hy with⟨id,off,e⟩|⟨oa,cs,e⟩
   ·subst e;obtain⟨l,o1,_,_,_,eu⟩:=hZ.kO;exact⟨_,eu⟩
   subst e;obtain⟨b,off,f,eu,_⟩:=hZ.nX;exact⟨_,eu⟩
  obtain⟨ad,e⟩:=key;exact⟨a.eval x,by simp[execOp,ho,e],hZ⟩
theorem s6{P:Program}{aR:ez}(hT:bT P aR){o:Oper}{σ:St}{t e:TypeId}{x:Operand}{ti te:b6}{sz:Nat}{xs:List ae}{ow:m9}{lo hi:Option Operand}
  (ho:o.op=.slice t x lo hi none) (hd:∀d,o.dst=some d->d<σ.n) (ht:aR t=some ti) (aS:ti.desc=.slice e) (he:aR e=some te) (hx:σ.ev x=some (.aA sz xs ow))
  (ix:nH σ lo 0 0) (o8:nH σ hi xs.length xs.length):Cert P o σ (.aA sz xs ow) .pure :=
 Cert.bL .pure (.inl rfl) hd fun a g _ hh _=>by
  have hu:=bQ hT ht aS;have hZ:=hh x (by cases lo<;>cases hi<;>simp[ho,Op.operands]) _ hx;have hl:(lo=none)∨∃q k,lo=some q∧a.eval q=.int k (0:Int):=by
   rcases ix with q|⟨q,k,e1,e2⟩
   ·exact .inl q.1
   exact .inr ⟨q,k,e1,(hh q (by subst e1;cases hi<;>simp[ho,Op.operands]) _ e2).bZ.1⟩
  have gP:(hi=none)∨∃q k,hi=some q∧a.eval q=.int k (xs.length:Int):=by
   rcases o8 with q|⟨q,k,e1,e2⟩
   ·exact .inl q.1
   exact .inr ⟨q,k,e1,(hh q (by subst e1;cases lo<;>simp[ho,Op.operands]) _ e2).bZ.1⟩
  have cV:execOp a.eval o=(do pure (.value (<-Instr.sliceAt t (a.eval x) (lo.map a.eval) (hi.map a.eval) none))):=by
   simp[execOp,ho]
  clear ix o8 ho;have bounds:∀cap:Nat,xs.length<=cap->(Instr.sliceBounds true xs.length cap (lo.map a.eval) (hi.map a.eval) none).run P g.w=.ok (0,xs.length,cap) g.w:=by
   intro cap cP;rcases hl with e1|⟨p,k,e1,hk⟩
   ·rcases gP with e3|⟨q,k',e3,oN⟩
    ·subst e1 e3;simp[Instr.sliceBounds]
    subst e1 e3;have:=run_sliceBound (P:=P) k' xs.length cap .sliceAcap g.w (by omega) (by omega);simp[Instr.sliceBounds,oN,this]
   rcases gP with e3|⟨q,k',e3,oN⟩
   ·subst e1 e3;have:=run_sliceBound (P:=P) k 0 xs.length .sliceB g.w (by omega) (by omega);simp[Instr.sliceBounds,hk,this]
   subst e1 e3;have e1:=run_sliceBound (P:=P) k' xs.length cap .sliceAcap g.w (by omega) (by omega);have e2:=run_sliceBound (P:=P) k 0 xs.length .sliceB g.w (by omega) (by omega);simp[Instr.sliceBounds,hk,oN,e1,e2]
  have kM:=(hT e te he).sizeOf g.w;refine⟨a.eval x,?_,hZ⟩;rw[cV];rcases hZ.fg with⟨q1,q2⟩|⟨ad,cap,f,q1,nU,df,cP,cy,hs,hm,hr,_⟩
  ·subst q2;have b:=bounds 0 (by simp);simp only[List.length_nil]at b;simp[Instr.sliceAt,run_underlying hu,Instr.slice,q1,kM,b]
  have b:=bounds cap cP;by_cases Eu:cap=0
  ·subst Eu;simp[Instr.sliceAt,run_underlying hu,Instr.slice,q1,kM,b,Addr.add]
  simp[Instr.sliceAt,run_underlying hu,Instr.slice,q1,kM,b,Eu,Addr.add]
theorem wm{P:Program}{aR:ez}(hT:bT P aR){o:Oper}{σ:St}{t e:TypeId}{x:Operand}{ti te:b6}{id off len cap:Nat}{lo hi:Option Operand}{l h:Nat}
  (ho:o.op=.slice t x lo hi none) (hd:∀d,o.dst=some d->d<σ.n) (ht:aR t=some ti) (aS:ti.desc=.slice e) (he:aR e=some te) (hx:σ.ev x=some (.ms id off len cap))
  (ix:nH σ lo 0 l) (o8:nH σ hi len h) (h1:l<=h) (h2:h<=cap) (h3:l<cap) (Oi:h<=2 ^ 62):Cert P o σ (.ms id (off+l*te.size) (h-l) (cap-l)) .pure :=
 Cert.bL .pure (.inl rfl) hd fun a g _ hh _=>by
  have hu:=bQ hT ht aS;have hZ:=hh x (by cases lo<;>cases hi<;>simp[ho,Op.operands]) _ hx;have hl:(lo=none∧l=0)∨∃q k,lo=some q∧a.eval q=.int k (l:Int):=by
   rcases ix with q|⟨q,k,e1,e2⟩
   ·exact .inl q
   exact .inr ⟨q,k,e1,(hh q (by subst e1;cases hi<;>simp[ho,Op.operands]) _ e2).bZ.1⟩
  have gP:(hi=none∧h=len)∨∃q k,hi=some q∧a.eval q=.int k (h:Int):=by
   rcases o8 with q|⟨q,k,e1,e2⟩
   ·exact .inl q
   exact .inr ⟨q,k,e1,(hh q (by subst e1;cases lo<;>simp[ho,Op.operands]) _ e2).bZ.1⟩
  have cV:execOp a.eval o=(do pure (.value (<-Instr.sliceAt t (a.eval x) (lo.map a.eval) (hi.map a.eval) none))):=by
   simp[execOp,ho]
  clear ix o8 ho;obtain⟨lc,o1,q1,q2,q3,Hc,cy,gA,cP,eu⟩:=hZ.n5;have bounds:(Instr.sliceBounds true len gA (lo.map a.eval) (hi.map a.eval) none).run P g.w=.ok (l,h,gA) g.w:=by
   rcases hl with⟨e1,e2⟩|⟨p,k,e1,hk⟩
   ·rcases gP with⟨e3,e4⟩|⟨q,k',e3,oN⟩
    ·subst e1 e2 e3 e4;simp[Instr.sliceBounds]
    subst e1 e2 e3;have:=run_sliceBound (P:=P) k' h gA .sliceAcap g.w (by omega) (by omega);simp[Instr.sliceBounds,oN,this]
   rcases gP with⟨e3,e4⟩|⟨q,k',e3,oN⟩
   ·subst e1 e3 e4;have:=run_sliceBound (P:=P) k l h .sliceB g.w (by omega) (by omega);simp[Instr.sliceBounds,hk,this]
   subst e1 e3;have e1:=run_sliceBound (P:=P) k' h gA .sliceAcap g.w (by omega) (by omega);have e2:=run_sliceBound (P:=P) k l h .sliceB g.w (by omega) (by omega);simp[Instr.sliceBounds,hk,oN,e1,e2]
  have kM:=(hT e te he).sizeOf g.w;refine⟨.slice (some ((⟨lc.block,off,none⟩:Addr).add (l*te.size))) (h-l) (gA-l),?_,?_⟩
  ·rw[cV];simp[Instr.sliceAt,run_underlying hu,Instr.slice,eu,bounds,kM,show gA≠l by omega]
  rw[addr_add];exact .ms q1 q2 q3 (by omega) (by omega) (by omega)
theorem uu{P:Program}{aR:ez}(hT:bT P aR){o:Oper}{σ:St}{t e:TypeId}{x:Operand}{ti te:b6}{id sz len:Nat}{lo hi:Option Operand} 
  (ho:o.op=.slice t x lo hi none) (hd:∀d,o.dst=some d->d<σ.n) (ht:aR t=some ti) (aS:ti.desc=.slice e) (he:aR e=some te) (hx:σ.ev x=some (.raw sz len id))
  (ix:nH σ lo 0 0) (o8:nH σ hi len 0) (h3:0<len):Cert P o σ (.aA sz [] (.tok id)) .pure :=
 Cert.bL .pure (.inl rfl) hd fun a g _ hh _=>by
  have hu:=bQ hT ht aS;have hZ:=hh x (by cases lo<;>cases hi<;>simp[ho,Op.operands]) _ hx;have hl:(lo=none∧(0:Nat)=0)∨∃q k,lo=some q∧a.eval q=.int k ((0:Nat):Int):=by
   rcases ix with q|⟨q,k,e1,e2⟩
   ·exact .inl q
   exact .inr ⟨q,k,e1,(hh q (by subst e1;cases hi<;>simp[ho,Op.operands]) _ e2).bZ.1⟩
  have gP:(hi=none∧(0:Nat)=len)∨∃q k,hi=some q∧a.eval q=.int k ((0:Nat):Int):=by
   rcases o8 with q|⟨q,k,e1,e2⟩
   ·exact .inl q
   exact .inr ⟨q,k,e1,(hh q (by subst e1;cases lo<;>simp[ho,Op.operands]) _ e2).bZ.1⟩
  have cV:execOp a.eval o=(do pure (.value (<-Instr.sliceAt t (a.eval x) (lo.map a.eval) (hi.map a.eval) none))):=by
   simp[execOp,ho]
  clear ix o8 ho;obtain⟨ad,gA,eu,cP,Rb⟩:=hZ.MF;have bounds:(Instr.sliceBounds true len gA (lo.map a.eval) (hi.map a.eval) none).run P g.w=.ok (0,0,gA) g.w:=by
   rcases hl with⟨e1,e2⟩|⟨p,k,e1,hk⟩
   ·rcases gP with⟨e3,e4⟩|⟨q,k',e3,oN⟩
    ·omega
    subst e1 e3;have:=run_sliceBound (P:=P) k' 0 gA .sliceAcap g.w (by omega) (by omega);simp[Instr.sliceBounds,oN,this]
   rcases gP with⟨e3,e4⟩|⟨q,k',e3,oN⟩
   ·omega
   subst e1 e3;have e1:=run_sliceBound (P:=P) k' 0 gA .sliceAcap g.w (by omega) (by omega);have e2:=run_sliceBound (P:=P) k 0 0 .sliceB g.w (by omega) (by omega);simp[Instr.sliceBounds,hk,oN,e1,e2]
  have kM:=(hT e te he).sizeOf g.w;refine⟨.slice (some (ad.add (0*te.size))) (0-0) (gA-0),?_,?_⟩
  ·rw[cV];simp[Instr.sliceAt,run_underlying hu,Instr.slice,eu,bounds,kM,show gA≠0 by omega]
  rw[Nat.zero_mul,show ad.add 0=ad by cases ad;rfl];exact .aA (xs:=[]) (by simp) (by simp) (Nat.zero_le _) (Nat.zero_le _) (by simp) (fun _=>undef) (by simp[an]) (by simp[an]) Rb
theorem sU{P:Program}{aR:ez}(hT:bT P aR){o:Oper}{σ:St}{t e:TypeId}{x y:Operand}{ti te:b6}{sz:Nat}{xs ys:List ae}{ow:m9}
  (ho:o.op=.call ⟨.builtin .append,#[x,y],#[t,t]⟩) (hd:∀d,o.dst=some d->d<σ.n) (ht:aR t=some ti) (aS:ti.desc=.slice e) (he:aR e=some te) (cH:te.size=sz) (hx:σ.ev x=some (.aA sz xs .ex)) (hy:σ.ev y=some (.aA sz ys ow))
  (hn:ys.length≠0) (hlen:xs.length+ys.length<=2 ^ 62) (hb:(xs.length+ys.length)*te.bytes<=2 ^ 47) :
  Cert P o σ (.ms σ.objs.length 0 (xs.length+ys.length) (xs.length+ys.length)) (.write (σ.objs++[.cells (an (xs++ys.map ae.share))])) :=
 Cert.iy hd fun base fw a g bE h iD=>by
  have hO:g.objs=σ.objs:=iD.resolve_left (by simp);have hg:=bE.good;have hu:=bQ hT ht aS;subst cH;have hZ:=h x (by simp[ho,Op.operands,Call.operands]) _ hx;have B1:=h y (by simp[ho,Op.operands,Call.operands]) _ hy;obtain⟨BX,ly,gN,ex,Ms,yI,Mt,I0,KW,EJ⟩:=hZ.fN (P:=P);obtain⟨RB,HC,news,ey,AY,AZ,A1,Hf,EL,tA⟩:=B1.fN (P:=P);obtain⟨⟨i,z,h1,h2,h3,h4,h5,h6,h7,h8,h9⟩,_⟩:=hT e te he;have qK:ly=xs.length:=by
   rcases hZ.fg with⟨q1,q2⟩|⟨ad,cap,f,q1,_,_,_,_,_,_,_,q2⟩
   ·rw[ex]at q1;cases q2;simp at q1;simp[q1]
   rw[ex]at q1;simp only[Value.slice.injEq]at q1;rw[q1.2.2];exact q2
  subst qK;have cV:=cJ (P:=P) ho a g.w;simp only[builtin,List.map_toArray,List.map_cons,List.map_nil]at cV;have bF:=gu (P:=P) g.w t o.type e i z hu h1 h4 BX xs.length xs.length ys.length (a.eval y) gN news AY (by rw[h2];exact AZ g.w.drew rfl) (by rw[h2,<-ex];exact yI g.w.drew rfl) (by omega) hlen (by rw[h3];exact hb);rw[<-ex]at bF;obtain⟨cap,cP⟩:∃cap,cap=grownCap g.w (xs.length+ys.length) xs.length e:=⟨_,rfl⟩
  obtain⟨rest,cG⟩:∃rest,rest=Builtin.zeroCells z.cells (cap-(xs.length+ys.length)):=⟨_,rfl⟩
  have pq:=grownCap_ge g.w (xs.length+ys.length) xs.length e;rw[<-cP]at bF pq;rw[<-cG]at bF;obtain⟨arr,gm⟩:∃arr,arr=gN.toArray++news.toArray++rest:=⟨_,rfl⟩
  rw[<-gm]at bF;have nt:=hg.heap (w':=g.w.drew) rfl rfl rfl rfl;have nR:=Le.heap (g:=g) (w':=g.w.drew) rfl rfl rfl rfl;obtain⟨g1,kY⟩:∃g1:G,g1=⟨g.w.drew,g.fr,g.env,g.objs⟩:=⟨_,rfl⟩
  rw[<-kY]at nt nR;have rP:g1.w=g.w.drew:=by rw[kY]
  have mI:g1.objs=σ.objs:=by rw[kY];exact hO
  have ij:=Mt.append A1.jv;rw[<-cE]at ij;have gg:(an (xs++ys.map ae.share)).length=(xs.length+ys.length)*te.size:=by
   rw[bz (sz:=te.size) (fun x hx=>by
    rcases List.mem_append.1 hx with q|q
    ·exact I0 x q
    exact dD Hf x q)]
   simp
  have wq:(an (xs++ys.map ae.share)).length<=arr.size:=by
   rw[gg,gm];simp only[Array.size_append,List.size_toArray,EJ,tA,<-Nat.add_mul];omega
  have hle:=nR.trans (Le.alloc nt (.cells arr e) 0 (.cells (an (xs++ys.map ae.share))));have iC:Fits (g1.alloc (.cells arr e) 0 (.cells (an (xs++ys.map ae.share)))) (.cells arr e) (.cells (an (xs++ys.map ae.share))):=by
   refine⟨arr,e,rfl,wq,fun j c u hj hu=>?_,fun c hc=>?_⟩
   ·have bf:=I hj;rw[gg]at bf;rw[gm]at hu;have wD:=eg hu (by simp only[List.size_toArray,EJ,tA,<-Nat.add_mul];exact bf);exact(ij.2 j c u hj (by simpa using wD)).mono hle
   rw[cE]at hc;rcases List.mem_append.1 hc with q|q
   ·exact KW c q
   exact dp EL c q
  have c8:=Good.alloc nt (.cells arr e) 0 (.cells (an (xs++ys.map ae.share))) (.inr rfl) iC;refine⟨.slice (some ⟨g.w.heap.size,0,none⟩) (xs.length+ys.length) cap,_,.inl ?_,hle,c8,?_,?_⟩
  ·rw[cV];simp[bF,G.alloc,rP]
  ·simp[G.alloc,mI,Mode.post]
  rw[<-mI];have e1:(g.w.heap.size)=g1.w.heap.size:=by rw[rP];rfl
  rw[e1];exact .ms (l:=⟨g1.w.heap.size,0,_⟩) (hU nt) eH (by simp[ak.aD]) (Nat.le_refl _) pq hlen
theorem nm{P:Program}(w:World)(t t' ty e:TypeId)(i:TypeInfo)(z:Value)(ht:P.underlying t=some (.slice e))(Tu:P.underlying t'=some (.int .i64))(hi:P.info? e=some i)(hz:i.zero=some z)(s:Option Addr)(n:Nat)
  (hs:(Builtin.firstCells i.size 0 (.slice s 0 0)).run P w.drew=.ok #[] w.drew) (hn:0<n) (X4:n<=2 ^ 62) (bo:n*i.bytes<=2 ^ 47) (cH:0<i.size) :
  (Builtin.append_ #[t,t'] ty #[.slice s 0 0,.int .i64 n]).run P w =
   .ok (.slice (some ⟨w.heap.size,0,none⟩) n (grownCap w n 0 e)) (w.drew.alloc (.cells (Builtin.zeroCells z.cells n++Builtin.zeroCells z.cells (grownCap w n 0 e-n)) e)):=by
 have hw:IntKind.i64.wrap (n:Int)=n:=m8 .i64 n (by simp[IntKind.min,IntKind.bits,IntKind.signed]<;>omega) (by simp[IntKind.max,IntKind.bits,IntKind.signed]<;>omega);have h0:¬((n:Int)<0):=by omega
 have WB:¬((2:Int) ^ 48<(n:Int)*(i.bytes:Int)):=by
  rw[<-Int.natCast_mul];omega
 have Zj:¬(n<=0):=by omega
 have cq:¬(n*i.size=0):=by
  have:=Nat.mul_pos hn cH;omega
 have h1:¬(9223372036854775807<(n:Int)):=by omega
 have cP:Builtin.nextslicecap n 0=n:=by
  unfold Builtin.nextslicecap;rw[if_pos (by omega)]
 have ha:∀w:World,(asInt (.int .i64 (n:Int))).run P w=.ok (n:Int) w:=fun _=>rfl;have UP:¬(281474976710656<(n:Int)*(i.bytes:Int)):=by
  rw[<-Int.natCast_mul];omega
 have RR:¬(281474976710656<n*i.bytes):=by omega
 have uO:¬(n=0):=by omega
 simp[Builtin.append_,run_underlying ht,run_underlying Tu,Go.sizeOf,typeInfo,hi,ha,hw,uO,UP,RR,cP,Question.forced,hs,Go.zeroValue,hz,Go.newRow,grownCap,h1];rw[if_neg h0,if_neg cq]
theorem rA{P:Program}{aR:ez}(hT:bT P aR){o:Oper}{σ:St}{t t' e:TypeId}{x y:Operand}{ti te:b6}{sz:Nat}{n:Int}
  (ho:o.op=.call ⟨.builtin .append,#[x,y],#[t,t']⟩) (hd:∀d,o.dst=some d->d<σ.n) (ht:aR t=some ti) (aS:ti.desc=.slice e) (he:aR e=some te) (Tu:P.underlying t'=some (.int .i64)) (hx:σ.ev x=some (.aA sz [] .ex)) (hy:σ.ev y=some (.v (.int .i64 n)))
  (hn:0<n) (hlen:n.toNat<=2 ^ 62) (hb:n.toNat*te.bytes<=2 ^ 47) (cH:0<te.size) :
  Cert P o σ (.ms σ.objs.length 0 n.toNat n.toNat) (.write (σ.objs++[.cells (List.replicate n.toNat te.zero).flatten])) :=
 Cert.iy hd fun base fw a g bE h iD=>by
  have hO:g.objs=σ.objs:=iD.resolve_left (by simp);have hg:=bE.good;have hu:=bQ hT ht aS;have hZ:=h x (by simp[ho,Op.operands,Call.operands]) _ hx;have ey:=(h y (by simp[ho,Op.operands,Call.operands]) _ hy).bZ.1;obtain⟨BX,ly,gN,ex,Ms,yI,Mt,I0,KW,EJ⟩:=hZ.fN (P:=P);obtain⟨⟨i,z,h1,h2,h3,h4,h5,h6,h7,h8,h9⟩,_⟩:=hT e te he;obtain⟨m,rfl⟩:=Int.eq_ofNat_of_zero_le (show 0<=n by omega);simp only[Int.toNat_natCast]at *;have qK:ly=0:=by
   rcases hZ.fg with⟨q1,q2⟩|⟨ad,cap,f,q1,_,_,_,_,_,_,_,q2⟩
   ·rw[ex]at q1;simp at q1;exact q1.2
   rw[ex]at q1;simp only[Value.slice.injEq]at q1;rw[q1.2.2];exact q2
  subst qK;simp only[List.length_nil]at ex;have cV:=cJ (P:=P) ho a g.w;simp only[builtin,List.map_toArray,List.map_cons,List.map_nil]at cV;have bF:=nm (P:=P) g.w t t' o.type e i z hu Tu h1 h4 BX m (by cases BX<;>simp[Builtin.firstCells,loadCells,loadCellsFrom]) (by omega) hlen (by rw[h3];exact hb) (by omega);rw[<-ex]at bF;obtain⟨cap,cP⟩:∃cap,cap=grownCap g.w m 0 e:=⟨_,rfl⟩
  have pq:=grownCap_ge g.w m 0 e;rw[<-cP]at bF pq;obtain⟨rest,cG⟩:∃rest,rest=Builtin.zeroCells z.cells (cap-m):=⟨_,rfl⟩
  rw[<-cG]at bF;obtain⟨arr,gm⟩:∃arr,arr=Builtin.zeroCells z.cells m++rest:=⟨_,rfl⟩
  rw[<-gm]at bF;have nt:=hg.heap (w':=g.w.drew) rfl rfl rfl rfl;have nR:=Le.heap (g:=g) (w':=g.w.drew) rfl rfl rfl rfl;obtain⟨g1,kY⟩:∃g1:G,g1=⟨g.w.drew,g.fr,g.env,g.objs⟩:=⟨_,rfl⟩
  rw[<-kY]at nt nR;have rP:g1.w=g.w.drew:=by rw[kY]
  have mI:g1.objs=σ.objs:=by rw[kY];exact hO
  have uL:(List.replicate m te.zero).flatten.length=m*te.size:=by simp[h6]
  have eJ:∀(j:Nat) (c:ae),(List.replicate m te.zero).flatten[j]?=some c->te.zero[j % te.size]?=some c:=fun j c=>h6 ▸ oW te.zero (by omega) m j c;have hle:=nR.trans (Le.alloc nt (.cells arr e) 0 (.cells (List.replicate m te.zero).flatten));have yJ:(Builtin.zeroCells z.cells m).size=m*te.size:=by rw[size_zeroCells,h5,h6]
  have iC:Fits (g1.alloc (.cells arr e) 0 (.cells (List.replicate m te.zero).flatten)) (.cells arr e) (.cells (List.replicate m te.zero).flatten):=by
   refine⟨arr,e,rfl,by rw[uL,gm,Array.size_append,yJ];omega,fun j c u hj hu=>?_,fun c hc=>?_⟩
   ·have iB:=eJ j c hj;have bf:=I hj;rw[uL]at bf;rw[gm,Array.getElem?_append,if_pos (by rw[yJ];exact bf)]at hu;have j6:j % te.size<z.cells.size:=by rw[h5];exact I iB
    refine h8 _ _ _ _ iB ?_;simp only[Builtin.zeroCells,Array.getElem?_map,h5,h6,Array.getElem?_range,if_pos bf,Option.map_some,Option.some.injEq]at hu;subst hu;simp[j6]
   rw[List.mem_flatten]at hc;obtain⟨l,hl,hc⟩:=hc;rw[List.mem_replicate]at hl;exact h9 c (hl.2 ▸ hc)
  have c8:=Good.alloc nt (.cells arr e) 0 (.cells (List.replicate m te.zero).flatten) (.inr rfl) iC;refine⟨.slice (some ⟨g.w.heap.size,0,none⟩) m cap,_,.inl ?_,hle,c8,?_,?_⟩
  ·rw[cV,ey];simp[bF,G.alloc,rP]
  ·simp[G.alloc,mI,Mode.post]
  rw[<-mI];have e1:(g.w.heap.size)=g1.w.heap.size:=by rw[rP];rfl
  rw[e1];exact .ms (l:=⟨g1.w.heap.size,0,_⟩) (hU nt) eH (by simp[ak.aD]) (Nat.le_refl _) (by omega) hlen
theorem sV{P:Program}{aR:ez}(hT:bT P aR){o:Oper}{σ:St}{t t' e:TypeId}{x y:Operand}{ti te:b6}{sz:Nat}{n:Int}
  (ho:o.op=.call ⟨.builtin .append,#[x,y],#[t,t']⟩) (hd:∀d,o.dst=some d->d<σ.n) (ht:aR t=some ti) (aS:ti.desc=.slice e) (he:aR e=some te) (Tu:P.underlying t'=some (.int .i64)) (hx:σ.ev x=some (.aA sz [] .ex)) (hy:σ.ev y=some (.v (.int .i64 n)))
  (hn:0<n) (hlen:n.toNat<=2 ^ 62) (hb:n.toNat*te.bytes<=2 ^ 47) (cH:0<te.size) :
  Cert P o σ (.raw te.size n.toNat σ.objs.length) (.write (σ.objs++[.spare 0])) :=
 Cert.iy hd fun base fw a g bE h iD=>by
  have hO:g.objs=σ.objs:=iD.resolve_left (by simp);have hg:=bE.good;have hu:=bQ hT ht aS;have hZ:=h x (by simp[ho,Op.operands,Call.operands]) _ hx;have ey:=(h y (by simp[ho,Op.operands,Call.operands]) _ hy).bZ.1;obtain⟨BX,ly,gN,ex,Ms,yI,Mt,I0,KW,EJ⟩:=hZ.fN (P:=P);obtain⟨⟨i,z,h1,h2,h3,h4,h5,h6,h7,h8,h9⟩,_⟩:=hT e te he;obtain⟨m,rfl⟩:=Int.eq_ofNat_of_zero_le (show 0<=n by omega);simp only[Int.toNat_natCast]at *;have qK:ly=0:=by
   rcases hZ.fg with⟨q1,q2⟩|⟨ad,cap,f,q1,_,_,_,_,_,_,_,q2⟩
   ·rw[ex]at q1;simp at q1;exact q1.2
   rw[ex]at q1;simp only[Value.slice.injEq]at q1;rw[q1.2.2];exact q2
  subst qK;simp only[List.length_nil]at ex;have cV:=cJ (P:=P) ho a g.w;simp only[builtin,List.map_toArray,List.map_cons,List.map_nil]at cV;have bF:=nm (P:=P) g.w t t' o.type e i z hu Tu h1 h4 BX m (by cases BX<;>simp[Builtin.firstCells,loadCells,loadCellsFrom]) (by omega) hlen (by rw[h3];exact hb) (by omega);rw[<-ex]at bF;obtain⟨cap,cP⟩:∃cap,cap=grownCap g.w m 0 e:=⟨_,rfl⟩
  have pq:=grownCap_ge g.w m 0 e;rw[<-cP]at bF pq;obtain⟨rest,cG⟩:∃rest,rest=Builtin.zeroCells z.cells (cap-m):=⟨_,rfl⟩
  rw[<-cG]at bF;obtain⟨arr,gm⟩:∃arr,arr=Builtin.zeroCells z.cells m++rest:=⟨_,rfl⟩
  rw[<-gm]at bF;have nt:=hg.heap (w':=g.w.drew) rfl rfl rfl rfl;have nR:=Le.heap (g:=g) (w':=g.w.drew) rfl rfl rfl rfl;obtain⟨g1,kY⟩:∃g1:G,g1=⟨g.w.drew,g.fr,g.env,g.objs⟩:=⟨_,rfl⟩
  rw[<-kY]at nt nR;have rP:g1.w=g.w.drew:=by rw[kY]
  have mI:g1.objs=σ.objs:=by rw[kY];exact hO
  have hle:=nR.trans (Le.alloc nt (.cells arr e) 0 (.spare 0));have yJ:(Builtin.zeroCells z.cells m).size=m*te.size:=by rw[size_zeroCells,h5,h6]
  have c8:=Good.alloc nt (.cells arr e) 0 (.spare 0) (.inr rfl) ⟨arr,e,rfl⟩;have xv:rest.size=(cap-m)*te.size:=by rw[cG,size_zeroCells,h5,h6]
  refine⟨.slice (some ⟨g.w.heap.size,0,none⟩) m cap,_,.inl ?_,hle,c8,?_,?_⟩
  ·rw[cV,ey];simp[bF,G.alloc,rP]
  ·simp[G.alloc,mI,Mode.post]
  rw[<-mI];have e1:(g.w.heap.size)=g1.w.heap.size:=by rw[rP];rfl
  rw[e1];refine .raw (by omega) ⟨by simp[G.alloc],fun m' dS=>?_⟩;have uQ:(g1.alloc (.cells arr e) 0 (.spare 0)).objs[g1.objs.length]?=some (.spare 0):=eH;rw[uQ]at dS;simp only[Option.some.injEq,ak.spare.injEq]at dS;subst dS;refine⟨Nat.le_refl _,fun _=>.inr ⟨⟨g1.w.heap.size,0,_⟩,arr,e,hU nt,rfl,by simp,cF _ _,?_⟩⟩;rw[gm,Array.size_append,yJ,xv,<-Nat.add_mul];exact Nat.mul_le_mul_right _ (by omega)
theorem ug{P:Program}{aR:ez}(hT:bT P aR){o:Oper}{σ:St}{t e:TypeId}{x y:Operand}{ti te:b6}{id off len cap sz:Nat}{cs ys:List ae}{ow:m9}
  (ho:o.op=.call ⟨.builtin .append,#[x,y],#[t,t]⟩) (hd:∀d,o.dst=some d->d<σ.n) (ht:aR t=some ti) (aS:ti.desc=.slice e) (he:aR e=some te) (cH:te.size=sz) (hx:σ.ev x=some (.ms id off len cap)) (mJ:σ.objs[id]?=some (.cells cs)) (hy:σ.ev y=some (.aA sz ys ow))
  (nf:len+ys.length<=cap) (Oi:len+ys.length<=2 ^ 62) (xq:off+(len+ys.length)*sz<=cs.length) :
  Cert P o σ (.ms id off (len+ys.length) cap) (.write (σ.objs.set id (.cells (bh cs (off+len*sz) (an (ys.map ae.share)))))) :=
 Cert.iy hd fun base fw a g bE h iD=>by
  have hO:g.objs=σ.objs:=iD.resolve_left (by simp);have hg:=bE.good;have hu:=bQ hT ht aS;subst cH;have hZ:=h x (by simp[ho,Op.operands,Call.operands]) _ hx;have B1:=h y (by simp[ho,Op.operands,Call.operands]) _ hy;obtain⟨l,o1,q1,q2,q3,Hc,cy,gA,cP,eu⟩:=hZ.n5;obtain⟨RB,HC,news,ey,AY,AZ,A1,Hf,EL,tA⟩:=B1.fN (P:=P);obtain⟨⟨i,z,h1,h2,h3,h4,h5,h6,h7,h8,h9⟩,_⟩:=hT e te he;have kL:g.objs[id]?=some (.cells cs):=by rw[hO];exact mJ
  obtain⟨arr,t',ix,da,hlen,fA,nQ,F1⟩:=hg.row kL q1;have cV:=cJ (P:=P) ho a g.w;simp only[builtin,List.map_toArray,List.map_cons,List.map_nil]at cV;obtain⟨b9,iw⟩:∃b9,b9=(arr.toList.take (off+len*te.size)++news++arr.toList.drop (off+len*te.size+news.length)).toArray:=⟨_,rfl⟩
  have hmul:off+(len+ys.length)*te.size=off+len*te.size+ys.length*te.size:=by rw[Nat.add_mul];omega
  have fo:=run_storeCells_at P l.block (off+len*te.size) t' news 0 arr g.w da (by rw[tA];omega) (fun u hu=>by
   obtain⟨j,hj⟩:=List.getElem?_of_mem hu;have bf:=I hj;have cH:=A1.1;simp only[List.size_toArray]at cH;rw[cH]at bf;have hc:=List.getElem?_eq_getElem bf;exact((A1.2 j _ u hc (by simpa using hj)).iA (EL _ (List.mem_of_getElem? hc))).1)
  simp only[Nat.add_zero]at fo;rw[<-iw]at fo;have bF:=gX (P:=P) g.w (g.w.setRow l.block b9) t o.type e i hu h1 ⟨l.block,off,none⟩ len gA ys.length (a.eval y) news AY (by rw[h2];exact AZ g.w rfl) (by omega) (by rw[addr_add,h2];exact fo);rw[<-eu]at bF;have dZ:=lq (cs':=bh cs (off+len*te.size) (an (ys.map ae.share))) kL q1 ix b9;have hle:=Le.bu hg dZ;have lD:=A1.jv;have gg:(an (ys.map ae.share)).length=ys.length*te.size:=by
   rw[bz (dD Hf)];simp
  have nh:=jg.bh ⟨hlen,fA⟩ lD (off:=off+len*te.size) (by rw[gg];omega);simp only at nh;rw[<-iw]at nh;refine⟨.slice (some ⟨l.block,off,none⟩) (len+ys.length) gA,g.bu id (some l) (.cells (bh cs (off+len*te.size) (an (ys.map ae.share)))) (g.w.setRow l.block b9),.inl ?_,hle,Good.bu hg dZ ?_ ?_,?_,?_⟩
  ·rw[cV];simp[bF,G.bu]
  ·refine⟨l,b9,t',rfl,ix,?_,nh.1,fun j c u a b=>(nh.2 j c u a b).mono hle,fun c hc=>?_,?_⟩
   ·exact setRow_heap g.w l.block arr b9 t' (0,0) da
   ·simp only[bh,List.mem_append]at hc;rcases hc with hc|hc|hc
    ·exact nQ c (List.mem_of_mem_take hc)
    ·exact dp EL c hc
    exact nQ c (List.mem_of_mem_drop hc)
   have q:=tA;have q2:=hmul;rw[iw];simp only[List.size_toArray,List.length_append,List.length_take,List.length_drop,Array.length_toList];omega
  ·intro l1 h1 _;simp only[Option.some.injEq]at h1;subst h1;rw[setRow_size];exact aU da
  ·simp only[G.bu,Mode.post,hO]
  have bf:id<g.objs.length:=I kL;have IK:=iM hg kL;refine .ms (l:=l) (o:=.cells (bh cs (off+len*te.size) (an (ys.map ae.share)))) ?_ ?_ (by simp[ak.aD]) nf cP Oi
  ·simp only[G.bu];rw[List.getElem?_set_self IK]
  simp only[G.bu];rw[List.getElem?_set_self bf]
theorem v7{P:Program}{aR:ez}(hT:bT P aR){o:Oper}{σ:St}{t e:TypeId}{x:Operand}{ti te:b6}{id off len cap:Nat}{cs:List ae}
  (ho:o.op=.call ⟨.builtin .clear,#[x],#[t]⟩) (hd:o.dst=none) (ht:aR t=some ti) (aS:ti.desc=.slice e) (he:aR e=some te) (hx:σ.ev x=some (.ms id off len cap)) (mJ:σ.objs[id]?=some (.cells cs))
  (pP:0<len) (hz:0<te.size) (xq:off+len*te.size<=cs.length) :
  Cert P o σ (.cw []) (.write (σ.objs.set id (.cells (bh cs off (List.replicate len te.zero).flatten)))) :=
 Cert.iy (by simp[hd]) fun base fw a g bE h iD=>by
  have hO:g.objs=σ.objs:=iD.resolve_left (by simp);have hg:=bE.good;have hu:=bQ hT ht aS;have hZ:=h x (by simp[ho,Op.operands,Call.operands]) _ hx;obtain⟨l,o1,q1,q2,q3,Hc,cy,gA,cP,eu⟩:=hZ.n5;obtain⟨⟨i,z,h1,h2,h3,h4,h5,h6,h7,h8,h9⟩,_⟩:=hT e te he;have kL:g.objs[id]?=some (.cells cs):=by rw[hO];exact mJ
  obtain⟨arr,t',ix,da,hlen,fA,nQ,F1⟩:=hg.row kL q1;have cV:=cJ (P:=P) ho a g.w;simp only[builtin,List.map_toArray,List.map_cons,List.map_nil]at cV;have yJ:(Builtin.zeroCells z.cells len).size=len*te.size:=by rw[size_zeroCells,h5,h6]
  have uL:(List.replicate len te.zero).flatten.length=len*te.size:=by simp[h6]
  have eJ:∀(j:Nat) (c:ae),(List.replicate len te.zero).flatten[j]?=some c->te.zero[j % te.size]?=some c:=fun j c=>h6 ▸ oW te.zero (by omega) len j c;have Hg:jg g (List.replicate len te.zero).flatten (Builtin.zeroCells z.cells len):=⟨by rw[yJ,uL],fun j c u hj hu=>by
   have iB:=eJ j c hj;have bf:=I hj;rw[uL]at bf;have j6:j % te.size<z.cells.size:=by rw[h5];exact I iB
   refine h8 _ _ _ _ iB ?_;simp only[Builtin.zeroCells,Array.getElem?_map,h5,h6,Array.getElem?_range,if_pos bf,Option.map_some,Option.some.injEq]at hu;subst hu;simp[j6]⟩
  have I1:∀c∈(List.replicate len te.zero).flatten,c.scalar:=fun c hc=>by
   rw[List.mem_flatten]at hc;obtain⟨l,hl,hc⟩:=hc;rw[List.mem_replicate]at hl;exact h9 c (hl.2 ▸ hc)
  obtain⟨news,sw⟩:∃news,news=(Builtin.zeroCells z.cells len).toList:=⟨_,rfl⟩
  have C7:news.length=len*te.size:=by rw[sw,Array.length_toList,yJ]
  obtain⟨b9,iw⟩:∃b9,b9=(arr.toList.take off++news++arr.toList.drop (off+news.length)).toArray:=⟨_,rfl⟩
  have fo:=run_storeCells_at P l.block off t' news 0 arr g.w da (by rw[C7];omega) (fun u hu=>by
   obtain⟨j,hj⟩:=List.getElem?_of_mem hu;have bf:=I hj;rw[C7,<-uL]at bf;have hc:=List.getElem?_eq_getElem bf;exact((Hg.2 j _ u hc (by rw[sw]at hj;simpa using hj)).iA (I1 _ (List.mem_of_getElem? hc))).1)
  simp only[Nat.add_zero]at fo;rw[<-iw]at fo;have bF:(Builtin.clear_ #[t] o.type #[a.eval x]).run P g.w=.ok (.tuple #[]) (g.w.setRow l.block b9):=by
   obtain⟨k,rfl⟩:∃k,len=k+1:=⟨len-1,by omega⟩
   rw[eu];simp[Builtin.clear_,run_underlying hu,Go.zeroValue,typeInfo,h1,h4,<-sw,fo]
  have dZ:=lq (cs':=bh cs off (List.replicate len te.zero).flatten) kL q1 ix b9;have hle:=Le.bu hg dZ;have nh:=jg.bh ⟨hlen,fA⟩ Hg (off:=off) (by rw[uL];omega);rw[<-sw,<-iw]at nh;refine⟨.tuple #[],g.bu id (some l) (.cells (bh cs off (List.replicate len te.zero).flatten)) (g.w.setRow l.block b9),?_,hle,Good.bu hg dZ ?_ ?_,?_,.cw rfl (by simp)⟩
  ·refine .inl ?_;rw[cV];simp[bF,G.bu]
  ·refine⟨l,b9,t',rfl,ix,?_,nh.1,fun j c u a b=>(nh.2 j c u a b).mono hle,fun c hc=>?_,?_⟩
   ·exact setRow_heap g.w l.block arr b9 t' (0,0) da
   ·simp only[bh,List.mem_append]at hc;rcases hc with hc|hc|hc
    ·exact nQ c (List.mem_of_mem_take hc)
    ·exact I1 c hc
    exact nQ c (List.mem_of_mem_drop hc)
   have q:=C7;rw[iw];simp only[List.size_toArray,List.length_append,List.length_take,List.length_drop,Array.length_toList];omega
  ·intro l1 h1 _;simp only[Option.some.injEq]at h1;subst h1;rw[setRow_size];exact aU da
  simp only[G.bu,Mode.post,hO]
def G.mU(g:G)(id:Nat)(l:Loc)(o:ak):G:=⟨g.w,g.fr,g.env++[some l],g.objs.set id .gone++[o]⟩
theorem oV{g:G}{id:Nat}{l:Loc}{o:ak}(hg:Good g)(fK:id<g.objs.length){i:Nat}{l':Loc}{o':ak}(h1:(g.mU id l o).env[i]?=some (some l'))(h2:(g.mU id l o).objs[i]?=some o')(h3:o'.live) :
  (i≠id∧g.env[i]?=some (some l')∧g.objs[i]?=some o')∨(i=g.objs.length∧l'=l∧o'=o):=by
 have hlen:=hg.len;rcases aP h1 with q1|⟨q1,ON⟩
 ·rcases aP h2 with q2|⟨q2,_⟩
  ·by_cases e:id=i
   ·subst e;rw[List.getElem?_set_self fK]at q2;simp only[Option.some.injEq]at q2;subst q2;exact h3.elim
   rw[List.getElem?_set_ne e]at q2;exact .inl ⟨Ne.symm e,q1,q2⟩
  have:=I q1;simp only[List.length_set]at q2;omega
 rcases aP h2 with q2|⟨q2,ME⟩
 ·have:=I q2;simp only[List.length_set]at this;omega
 simp only[Option.some.injEq]at ON;exact .inr ⟨by omega,ON,ME⟩
theorem jH.mU{g:G}{id:Nat}{l:Loc}{o o1:ak}(hg:Good g)(he:g.env[id]?=some (some l))(ho:g.objs[id]?=some o1)(hl:o1.live){b off:Nat}(h:jH (g.mU id l o) b off):jH g b off:=by
 obtain⟨i,l',o',h1,h2,h3,h4,h5⟩:=h;rcases oV hg (I ho) h1 h2 h3 with⟨_,q1,q2⟩|⟨_,q1,_⟩
 ·exact⟨i,l',o',q1,q2,h3,h4,h5⟩
 subst q1;exact⟨id,l',o1,he,ho,hl,h4,h5⟩
theorem fJ.mU{g:G}{id:Nat}{l:Loc}{o o1:ak}(hg:Good g)(he:g.env[id]?=some (some l))(ho:g.objs[id]?=some o1)(hl:o1.live){b:Nat}(h:fJ (g.mU id l o) b):fJ g b:=by
 obtain⟨i,l',o',h1,h2,h3,h4⟩:=h;exact(jH.mU hg he ho hl ⟨i,l',o',h1,h2,h3,h4,Nat.le_refl _⟩).block
theorem y0{g:G}{id i:Nat}{l:Loc}{o o':ak}(cq:id≠i)(h:g.objs[i]?=some o'):(g.mU id l o).objs[i]?=some o':=by
 have:=I h;simp only[G.mU];rw[List.getElem?_append,if_pos (by simpa using this),List.getElem?_set_ne cq];exact h
theorem Bu{g:G}{id:Nat}{l:Loc}{o:ak}(h:id<g.objs.length):(g.mU id l o).objs[id]?=some .gone:=by
 simp only[G.mU];rw[List.getElem?_append,if_pos (by simpa using h),List.getElem?_set_self h]
theorem qX{g:G}{id i:Nat}{l:Loc}{o:ak}(h:i<g.env.length):(g.mU id l o).env[i]?=g.env[i]?:=by
 simp only[G.mU];rw[List.getElem?_append,if_pos h]
theorem Le.mU{g:G}{id:Nat}{l:Loc}{o o1:ak}(hg:Good g)(he:g.env[id]?=some (some l))(ho:g.objs[id]?=some o1)(hl:o1.live)(hs:¬o1.aD):Le g (g.mU id l o) where
 os:=rfl
 tape:=rfl
 output:=rfl
 fr:=rfl
 size:=Nat.le_refl _
 block:=fun k _ h=>⟨rfl,fun q=>h (fJ.mU hg he ho hl q)⟩
 cell:=fun b off x hx hn=>⟨hx,fun q=>hn (jH.mU hg he ho hl q)⟩
 len:=by simp[G.mU]
 spare:=fun i m hm=>by
  have cq:id≠i:=by
   intro e;subst e;rw[ho]at hm;simp only[Option.some.injEq]at hm;subst hm;exact hs trivial
  exact .inl ⟨m,y0 cq hm,Nat.le_refl _⟩
 plain:=fun i o' iD hn=>by
  refine⟨?_,qX (by have:=I iD;have:=hg.len;omega)⟩;by_cases e:id=i
  ·subst e;exact⟨.gone,Bu (I ho),by simp[ak.aD]⟩
  exact⟨o',y0 e iD,hn⟩
 gone:=fun i hi=>by
  by_cases e:id=i
  ·subst e;exact Bu (I ho)
  exact y0 e hi
 tok:=fun i m hm _=>⟨qX (by have:=I hm;have:=hg.len;omega),fun _ _=>rfl⟩
theorem Good.mU{g:G}{id:Nat}{l:Loc}{cs:List ae}(hg:Good g)(he:g.env[id]?=some (some l))(ho:g.objs[id]?=some (.cells cs)):Good (g.mU id l (.cells cs)):=by
 have bf:=I ho;have hle:=Le.mU (o:=.cells cs) hg he ho trivial (by simp[ak.aD]);have uQ:(g.mU id l (.cells cs)).env[g.objs.length]?=some (some l):=by
  simp only[G.mU];rw[<-hg.len];simp
 refine⟨hg.frlt,?_,by simp[G.mU,hg.len],?_,?_,?_,?_,?_⟩
 ·intro i l' o' h1 h2 h3;rcases oV hg bf h1 h2 h3 with⟨_,q1,q2⟩|⟨_,q1,_⟩
  ·exact hg.fm i l' o' q1 q2 h3
  subst q1;exact hg.fm id l' _ he ho trivial
 ·intro i l' o' h1 h2 h3;rcases oV hg bf h1 h2 h3 with⟨_,q1,q2⟩|⟨_,q1,_⟩
  ·exact hg.loc i l' o' q1 q2 h3
  subst q1;exact hg.loc id l' _ he ho trivial
 ·intro i j l1 l2 o1 o2 h1 h2 h3 k1 k2 k3 hb;rcases oV hg bf h1 h2 h3 with⟨n1,q1,q2⟩|⟨n1,q1,_⟩
  ·rcases oV hg bf k1 k2 k3 with⟨_,r1,r2⟩|⟨m1,r1,_⟩
   ·exact hg.apart i j l1 l2 o1 o2 q1 q2 h3 r1 r2 k3 hb
   subst r1;exact absurd (hg.apart i id l1 l2 o1 _ q1 q2 h3 he ho trivial hb) n1
  rcases oV hg bf k1 k2 k3 with⟨m1,r1,r2⟩|⟨m1,r1,_⟩
  ·subst q1;exact absurd (hg.apart j id l2 l1 o2 _ r1 r2 k3 he ho trivial hb.symm) m1
  omega
 ·intro i ds h;have lk:(ak.cells ds).live:=trivial;rcases aP h with q|⟨q,q'⟩
  ·have cq:id≠i:=by
    intro e;subst e;rw[List.getElem?_set_self bf]at q;cases q
   rw[List.getElem?_set_ne cq]at q;obtain⟨l',arr,t,e1,e0,e2,e3,e4,e5⟩:=hg.cells i ds q;exact⟨l',arr,t,(qX (by have:=I q;have:=hg.len;omega)).trans e1,e0,e2,e3,fun j c u a b=>(e4 j c u a b).mono hle,e5⟩
  simp only[ak.cells.injEq]at q';subst q';obtain⟨l',arr,t,e1,e0,e2,e3,e4,e5⟩:=hg.cells id _ ho;rw[he]at e1;simp only[Option.some.injEq]at e1;subst e1;refine⟨l,arr,t,?_,e0,e2,e3,fun j c u a b=>(e4 j c u a b).mono hle,e5⟩;rw[q,List.length_set];exact uQ
 ·intro i m l' h h1;rcases aP h with q|⟨q,q'⟩
  ·have cq:id≠i:=by
    intro e;subst e;rw[List.getElem?_set_self bf]at q;cases q
   rw[List.getElem?_set_ne cq]at q;rw[qX (by have:=I q;have:=hg.len;omega)]at h1;exact hg.spare i m l' q h1
  cases q'
 intro i kt es h;rcases aP h with q|⟨q,q'⟩
 ·have cq:id≠i:=by
   intro e;subst e;rw[List.getElem?_set_self bf]at q;cases q
  rw[List.getElem?_set_ne cq]at q;obtain⟨l',ob,e1,e0,e2,e3⟩:=hg.map i kt es q;exact⟨l',ob,(qX (by have:=I q;have:=hg.len;omega)).trans e1,e0,e2,e3.mono hle⟩
 cases q'
theorem qy{P:Program}{aR:ez}(hT:bT P aR){o:Oper}{σ:St}{t e:TypeId}{x i:Operand}{ti te:b6}{id len sz:Nat}{k:IntKind}{n:Int}
  (ho:o.op=.indexAddr t x i) (hd:∀d,o.dst=some d->d<σ.n) (ht:aR t=some ti) (aS:ti.desc=.slice e) (he:aR e=some te)
  (hx:σ.ev x=some (.os id len sz)) (hi:σ.ev i=some (.v (.int k n))) (h0:0<=n) (hn:n<len):Cert P o σ (.mp id (n.toNat*te.size)) .pure :=
 Cert.bL .pure (.inl rfl) hd fun a g _ h _=>by
  have ei:=(h i (by simp[ho,Op.operands]) _ hi).bZ.1;have hu:=bQ hT ht aS;obtain⟨l,o1,cap,h1,h2,h3,_,_,_,eu⟩:=(h x (by simp[ho,Op.operands]) _ hx).rX;exact⟨.pointer (some ⟨l.block,n.toNat*te.size,none⟩),by simp[execOp,ho,ei,eu,Instr.indexAt,asIntOf,run_underlying hu,h0,hn,(hT e te he).sizeOf,addr_add],.mp h1 h2 h3⟩
theorem wo{P:Program}{aR:ez}(hT:bT P aR){o:Oper}{σ:St}{t e:TypeId}{x:Operand}{ti te:b6}{id len sz:Nat}{lo hi:Option Operand}{h:Nat}
  (ho:o.op=.slice t x lo hi none) (hd:∀d,o.dst=some d->d<σ.n) (ht:aR t=some ti) (aS:ti.desc=.slice e) (he:aR e=some te) (hx:σ.ev x=some (.os id len sz))
  (ix:nH σ lo 0 0) (o8:nH σ hi len h) (h2:h<=len) (h3:0<len):Cert P o σ (.os id h sz) .pure :=
 Cert.bL .pure (.inl rfl) hd fun a g _ hh _=>by
  have hu:=bQ hT ht aS;have hZ:=hh x (by cases lo<;>cases hi<;>simp[ho,Op.operands]) _ hx;have hl:(lo=none∧(0:Nat)=0)∨∃q k,lo=some q∧a.eval q=.int k ((0:Nat):Int):=by
   rcases ix with q|⟨q,k,e1,e2⟩
   ·exact .inl q
   exact .inr ⟨q,k,e1,(hh q (by subst e1;cases hi<;>simp[ho,Op.operands]) _ e2).bZ.1⟩
  have gP:(hi=none∧h=len)∨∃q k,hi=some q∧a.eval q=.int k (h:Int):=by
   rcases o8 with q|⟨q,k,e1,e2⟩
   ·exact .inl q
   exact .inr ⟨q,k,e1,(hh q (by subst e1;cases lo<;>simp[ho,Op.operands]) _ e2).bZ.1⟩
  have cV:execOp a.eval o=(do pure (.value (<-Instr.sliceAt t (a.eval x) (lo.map a.eval) (hi.map a.eval) none))):=by
   simp[execOp,ho]
  clear ix o8 ho;obtain⟨lc,o1,gA,q1,q2,q3,Hc,Ev,cy,eu⟩:=hZ.rX;have bounds:(Instr.sliceBounds true len gA (lo.map a.eval) (hi.map a.eval) none).run P g.w=.ok (0,h,gA) g.w:=by
   rcases hl with⟨e1,e2⟩|⟨p,k,e1,hk⟩
   ·rcases gP with⟨e3,e4⟩|⟨q,k',e3,oN⟩
    ·subst e1 e3 e4;simp[Instr.sliceBounds]
    subst e1 e3;have:=run_sliceBound (P:=P) k' h gA .sliceAcap g.w (by omega) (by omega);simp[Instr.sliceBounds,oN,this]
   rcases gP with⟨e3,e4⟩|⟨q,k',e3,oN⟩
   ·subst e1 e3 e4;have:=run_sliceBound (P:=P) k 0 h .sliceB g.w (by omega) (by omega);simp[Instr.sliceBounds,hk,this]
   subst e1 e3;have e1:=run_sliceBound (P:=P) k' h gA .sliceAcap g.w (by omega) (by omega);have e2:=run_sliceBound (P:=P) k 0 h .sliceB g.w (by omega) (by omega);simp[Instr.sliceBounds,hk,oN,e1,e2]
  have kM:=(hT e te he).sizeOf g.w;refine⟨.slice (some ((⟨lc.block,0,none⟩:Addr).add (0*te.size))) (h-0) (gA-0),?_,?_⟩
  ·rw[cV];simp[Instr.sliceAt,run_underlying hu,Instr.slice,eu,bounds,kM,show gA≠0 by omega]
  rw[addr_add];simp only[Nat.zero_mul,Nat.add_zero,Nat.sub_zero];exact .os q1 q2 q3 (by omega) Ev (by omega)
theorem qu{P:Program}{aR:ez}(hT:bT P aR){o:Oper}{σ:St}{t e:TypeId}{x y:Operand}{ti te:b6}{sz:Nat}{xs ys:List ae}{ow:m9}
  (ho:o.op=.call ⟨.builtin .append,#[x,y],#[t,t]⟩) (hd:∀d,o.dst=some d->d<σ.n) (ht:aR t=some ti) (aS:ti.desc=.slice e) (he:aR e=some te) (cH:te.size=sz) (hx:σ.ev x=some (.aA sz xs .ex)) (hy:σ.ev y=some (.aA sz ys ow))
  (hn:ys.length≠0) (hlen:xs.length+ys.length<=2 ^ 62) (hb:(xs.length+ys.length)*te.bytes<=2 ^ 47) :
  Cert P o σ (.os σ.objs.length (xs.length+ys.length) sz) (.write (σ.objs++[.cells (an (xs++ys.map ae.share))])) :=
 Cert.iy hd fun base fw a g bE h iD=>by
  have hO:g.objs=σ.objs:=iD.resolve_left (by simp);have hg:=bE.good;have hu:=bQ hT ht aS;subst cH;have hZ:=h x (by simp[ho,Op.operands,Call.operands]) _ hx;have B1:=h y (by simp[ho,Op.operands,Call.operands]) _ hy;obtain⟨BX,ly,gN,ex,Ms,yI,Mt,I0,KW,EJ⟩:=hZ.fN (P:=P);obtain⟨RB,HC,news,ey,AY,AZ,A1,Hf,EL,tA⟩:=B1.fN (P:=P);obtain⟨⟨i,z,h1,h2,h3,h4,h5,h6,h7,h8,h9⟩,_⟩:=hT e te he;have qK:ly=xs.length:=by
   rcases hZ.fg with⟨q1,q2⟩|⟨ad,cap,f,q1,_,_,_,_,_,_,_,q2⟩
   ·rw[ex]at q1;cases q2;simp at q1;simp[q1]
   rw[ex]at q1;simp only[Value.slice.injEq]at q1;rw[q1.2.2];exact q2
  subst qK;have cV:=cJ (P:=P) ho a g.w;simp only[builtin,List.map_toArray,List.map_cons,List.map_nil]at cV;have bF:=gu (P:=P) g.w t o.type e i z hu h1 h4 BX xs.length xs.length ys.length (a.eval y) gN news AY (by rw[h2];exact AZ g.w.drew rfl) (by rw[h2,<-ex];exact yI g.w.drew rfl) (by omega) hlen (by rw[h3];exact hb);rw[<-ex]at bF;obtain⟨cap,cP⟩:∃cap,cap=grownCap g.w (xs.length+ys.length) xs.length e:=⟨_,rfl⟩
  obtain⟨rest,cG⟩:∃rest,rest=Builtin.zeroCells z.cells (cap-(xs.length+ys.length)):=⟨_,rfl⟩
  have pq:=grownCap_ge g.w (xs.length+ys.length) xs.length e;rw[<-cP]at bF pq;rw[<-cG]at bF;have xv:rest.size=(cap-(xs.length+ys.length))*te.size:=by rw[cG,size_zeroCells,h5,h6]
  obtain⟨arr,gm⟩:∃arr,arr=gN.toArray++news.toArray++rest:=⟨_,rfl⟩
  rw[<-gm]at bF;have nt:=hg.heap (w':=g.w.drew) rfl rfl rfl rfl;have nR:=Le.heap (g:=g) (w':=g.w.drew) rfl rfl rfl rfl;obtain⟨g1,kY⟩:∃g1:G,g1=⟨g.w.drew,g.fr,g.env,g.objs⟩:=⟨_,rfl⟩
  rw[<-kY]at nt nR;have rP:g1.w=g.w.drew:=by rw[kY]
  have mI:g1.objs=σ.objs:=by rw[kY];exact hO
  have ij:=Mt.append A1.jv;rw[<-cE]at ij;have gg:(an (xs++ys.map ae.share)).length=(xs.length+ys.length)*te.size:=by
   rw[bz (sz:=te.size) (fun x hx=>by
    rcases List.mem_append.1 hx with q|q
    ·exact I0 x q
    exact dD Hf x q)]
   simp
  have wq:arr.size=cap*te.size:=by
   rw[gm];simp only[Array.size_append,List.size_toArray,EJ,tA,xv,<-Nat.add_mul];rw[show xs.length+ys.length+(cap-(xs.length+ys.length))=cap by omega]
  have hle:=nR.trans (Le.alloc nt (.cells arr e) 0 (.cells (an (xs++ys.map ae.share))));have iC:Fits (g1.alloc (.cells arr e) 0 (.cells (an (xs++ys.map ae.share)))) (.cells arr e) (.cells (an (xs++ys.map ae.share))):=by
   refine⟨arr,e,rfl,by rw[gg,wq];exact Nat.mul_le_mul_right _ pq,fun j c u hj hu=>?_,fun c hc=>?_⟩
   ·have bf:=I hj;rw[gg]at bf;rw[gm]at hu;have wD:=eg hu (by simp only[List.size_toArray,EJ,tA,<-Nat.add_mul];exact bf);exact(ij.2 j c u hj (by simpa using wD)).mono hle
   rw[cE]at hc;rcases List.mem_append.1 hc with q|q
   ·exact KW c q
   exact dp EL c q
  have c8:=Good.alloc nt (.cells arr e) 0 (.cells (an (xs++ys.map ae.share))) (.inr rfl) iC;refine⟨.slice (some ⟨g.w.heap.size,0,none⟩) (xs.length+ys.length) cap,_,.inl ?_,hle,c8,?_,?_⟩
  ·rw[cV];simp[bF,G.alloc,rP]
  ·simp[G.alloc,mI,Mode.post]
  rw[<-mI];have e1:(g.w.heap.size)=g1.w.heap.size:=by rw[rP];rfl
  rw[e1];exact .os (l:=⟨g1.w.heap.size,0,arr.size⟩) (hU nt) eH (by simp[ak.aD]) pq (by rw[wq];exact Nat.le_refl _) hlen
theorem uh{P:Program}{aR:ez}(hT:bT P aR){o:Oper}{σ:St}{t e:TypeId}{x y:Operand}{ti te:b6}{id len sz:Nat}{cs ys:List ae}{ow:m9}
  (ho:o.op=.call ⟨.builtin .append,#[x,y],#[t,t]⟩) (hd:∀d,o.dst=some d->d<σ.n) (ht:aR t=some ti) (aS:ti.desc=.slice e) (he:aR e=some te) (cH:te.size=sz) (hx:σ.ev x=some (.os id len sz)) (mJ:σ.objs[id]?=some (.cells cs)) (hy:σ.ev y=some (.aA sz ys ow))
  (xq:len*sz<=cs.length) (hn:ys.length≠0) (hlen:len+ys.length<=2 ^ 62) (hb:(len+ys.length)*te.bytes<=2 ^ 47) :
  Cert P o σ (.os σ.objs.length (len+ys.length) sz) (.write (σ.objs.set id .gone++[.cells (cs.take (len*sz)++an (ys.map ae.share))])) :=
 Cert.iy hd fun base fw a g bE h iD=>by
  have hO:g.objs=σ.objs:=iD.resolve_left (by simp);have hg:=bE.good;have hu:=bQ hT ht aS;subst cH;have hZ:=h x (by simp[ho,Op.operands,Call.operands]) _ hx;have B1:=h y (by simp[ho,Op.operands,Call.operands]) _ hy;obtain⟨l,o1,cap,q1,q2,q3,Hc,Ev,cy,eu⟩:=hZ.rX;obtain⟨RB,HC,news,ey,AY,AZ,A1,Hf,EL,tA⟩:=B1.fN (P:=P);obtain⟨⟨i,z,h1,h2,h3,h4,h5,h6,h7,h8,h9⟩,_⟩:=hT e te he;have kL:g.objs[id]?=some (.cells cs):=by rw[hO];exact mJ
  have Ez:=I kL;obtain⟨arr,t',ix,da,W3,fA,nQ,F1⟩:=hg.row kL q1;have cV:=cJ (P:=P) ho a g.w;simp only[builtin,List.map_toArray,List.map_cons,List.map_nil]at cV;have lD:=A1.jv;have gg:(an (ys.map ae.share)).length=ys.length*te.size:=by
   rw[bz (dD Hf)];simp
  obtain⟨m,hm⟩:∃m,m=len*te.size:=⟨_,rfl⟩
  obtain⟨gN,F5⟩:∃gN,gN=arr.toList.take m:=⟨_,rfl⟩
  obtain⟨ds,tw⟩:∃ds,ds=cs.take (len*te.size)++an (ys.map ae.share):=⟨_,rfl⟩
  rw[<-hm]at tw xq;have IU:gN.length=m:=by rw[F5];simp;omega
  have holds:jg g (cs.take m) gN.toArray:=by
   refine⟨by simp[IU];omega,fun j c u hj hu=>?_⟩;have bf:=I hj;simp only[List.length_take]at bf;rw[List.getElem?_take,if_pos (by omega)]at hj;refine fA j c u hj ?_;simp only[List.getElem?_toArray,F5]at hu;rw[List.getElem?_take,if_pos (by omega)]at hu;simpa using hu
  have cr:jg g ds (gN++news).toArray:=by
   rw[tw];exact holds.append lD
  have kK:ds.length=m+ys.length*te.size:=by
   rw[tw,List.length_append,List.length_take,gg];omega
  have Sn:∀c∈ds,c.scalar:=fun c hc=>by
   rw[tw]at hc;rcases List.mem_append.1 hc with hc|hc
   ·exact nQ c (List.mem_of_mem_take hc)
   exact dp EL c hc
  have Ot:(len+ys.length)*te.size=m+ys.length*te.size:=by rw[Nat.add_mul,hm]
  rw[<-hm,<-tw];by_cases nf:len+ys.length<=cap
  ·have bo:m+ys.length*te.size<=arr.size:=by
    have:=Nat.mul_le_mul_right te.size nf;omega
   obtain⟨b9,iw⟩:∃b9,b9=(arr.toList.take m++news++arr.toList.drop (m+news.length)).toArray:=⟨_,rfl⟩
   have fo:=run_storeCells_at P l.block m t' news 0 arr g.w da (by rw[tA];omega) (fun u hu=>by
    obtain⟨j,hj⟩:=List.getElem?_of_mem hu;have bf:=I hj;have cH:=A1.1;simp only[List.size_toArray]at cH;rw[cH]at bf;have hc:=List.getElem?_eq_getElem bf;exact((A1.2 j _ u hc (by simpa using hj)).iA (EL _ (List.mem_of_getElem? hc))).1)
   simp only[Nat.add_zero]at fo;rw[<-iw]at fo;have bF:=gX (P:=P) g.w (g.w.setRow l.block b9) t o.type e i hu h1 ⟨l.block,0,none⟩ len cap ys.length (a.eval y) news AY (by rw[h2];exact AZ g.w rfl) (by omega) (by rw[addr_add,h2,Nat.zero_add,<-hm];exact fo);rw[<-eu]at bF;have dZ:=lq (cs':=ds) kL q1 ix b9;have hle:=Le.bu hg dZ;have wq:b9.size=arr.size:=by
    rw[iw];simp only[List.size_toArray,List.length_append,List.length_take,List.length_drop,Array.length_toList,tA];omega
   have c8:=Good.bu hg dZ (by
    refine⟨l,b9,t',rfl,ix,setRow_heap g.w l.block arr b9 t' (0,0) da,by rw[kK,wq];exact bo,fun j c u hj oO=>?_,Sn,by rw[wq];exact F1⟩;have bf:=I hj;rw[kK]at bf;have e1:b9=gN.toArray++news.toArray++(arr.toList.drop (m+news.length)).toArray:=by
     rw[iw,F5];simp
    rw[e1]at oO;have wD:=eg oO (by simp only[List.size_toArray,IU,tA];exact bf);exact(cr.2 j c u hj (by simpa using wD)).mono hle) (fun l1 h1 _=>by
    simp only[Option.some.injEq]at h1;subst h1;rw[setRow_size];exact aU da)
   obtain⟨g1,kY⟩:∃g1:G,g1=g.bu id (some l) (.cells ds) (g.w.setRow l.block b9):=⟨_,rfl⟩
   rw[<-kY]at hle c8;have qL:g1.env[id]?=some (some l):=by
    rw[kY];simp only[G.bu];rw[List.getElem?_set_self (iM hg kL)]
   have mI:g1.objs[id]?=some (.cells ds):=by
    rw[kY];simp only[G.bu];rw[List.getElem?_set_self Ez]
   have dY:g1.objs.length=σ.objs.length:=by
    rw[kY,<-hO];simp[G.bu]
   refine⟨.slice (some ⟨l.block,0,none⟩) (len+ys.length) cap,g1.mU id l (.cells ds),.inl ?_,hle.trans (Le.mU c8 qL mI trivial (by simp[ak.aD])),Good.mU c8 qL mI,?_,?_⟩
   ·rw[cV,kY];simp[bF,G.bu,G.mU]
   ·simp only[G.mU,kY,G.bu,Mode.post,List.set_set,hO]
   refine .os (l:=l) (o:=.cells ds) ?_ ?_ (by simp[ak.aD]) nf Ev hlen
   ·simp only[G.mU];rw[<-dY,<-c8.len];simp
   simp only[G.mU];rw[<-dY];simp
  have bF:=gu (P:=P) g.w t o.type e i z hu h1 h4 (some ⟨l.block,0,none⟩) len cap ys.length (a.eval y) gN news AY (by rw[h2];exact AZ g.w.drew rfl) (by
   rw[h2];simp only[Builtin.firstCells];rw[<-hm];have:=run_loadCells (P:=P) g.w.drew ⟨l.block,0,none⟩ m (fun j=>arr.getD j undef) (fun j hj=>by
    rw[addr_add,Nat.zero_add];have:g.w.drew.cell? ⟨l.block,j,none⟩=arr[j]?:=cell_of_row (w:=g.w.drew) da j;rw[this];simp[Array.getD_eq_getD_getElem?,show j<arr.size by omega])
   rw[wF gN m _ IU (fun j hj=>by
    rw[F5,List.getElem?_take,if_pos hj];simp[Array.getD_eq_getD_getElem?,show j<arr.size by omega])]at this
   exact this) (by omega) hlen (by rw[h3];exact hb)
  rw[<-eu]at bF;obtain⟨vX,cP⟩:∃vX,vX=grownCap g.w (len+ys.length) cap e:=⟨_,rfl⟩
  obtain⟨rest,cG⟩:∃rest,rest=Builtin.zeroCells z.cells (vX-(len+ys.length)):=⟨_,rfl⟩
  have pq:=grownCap_ge g.w (len+ys.length) cap e;rw[<-cP]at bF pq;rw[<-cG]at bF;have xv:rest.size=(vX-(len+ys.length))*te.size:=by rw[cG,size_zeroCells,h5,h6]
  obtain⟨tP,gm⟩:∃tP,tP=gN.toArray++news.toArray++rest:=⟨_,rfl⟩
  rw[<-gm]at bF;have nt:=hg.heap (w':=g.w.drew) rfl rfl rfl rfl;have nR:=Le.heap (g:=g) (w':=g.w.drew) rfl rfl rfl rfl;obtain⟨g1,kY⟩:∃g1:G,g1=⟨g.w.drew,g.fr,g.env,g.objs⟩:=⟨_,rfl⟩
  rw[<-kY]at nt nR;have rP:g1.w=g.w.drew:=by rw[kY]
  have mI:g1.objs=σ.objs:=by rw[kY];exact hO
  have wq:tP.size=vX*te.size:=by
   rw[gm];simp only[Array.size_append,List.size_toArray,IU,tA,xv];have:(len+ys.length)*te.size+(vX-(len+ys.length))*te.size=vX*te.size:=by
    rw[<-Nat.add_mul,show len+ys.length+(vX-(len+ys.length))=vX by omega]
   omega
  have hle:=nR.trans (Le.alloc nt (.cells tP e) 0 (.cells ds));have iC:Fits (g1.alloc (.cells tP e) 0 (.cells ds)) (.cells tP e) (.cells ds):=by
   refine⟨tP,e,rfl,by rw[kK,wq,<-Ot];exact Nat.mul_le_mul_right _ pq,fun j c u hj hu=>?_,Sn⟩;have bf:=I hj;rw[kK]at bf;rw[gm]at hu;have wD:=eg hu (by simp only[List.size_toArray,IU,tA];exact bf);exact(cr.2 j c u hj (by simpa using wD)).mono hle
  have c8:=Good.alloc nt (.cells tP e) 0 (.cells ds) (.inr rfl) iC;obtain⟨g2,PV⟩:∃g2:G,g2=g1.alloc (.cells tP e) 0 (.cells ds):=⟨_,rfl⟩
  rw[<-PV]at hle c8;have Sv:g2.env[id]?=some (some l):=by
   rw[PV];simp only[G.alloc];rw[List.getElem?_append,if_pos (by rw[kY];exact iM hg kL),kY];exact q1
  have S3:g2.objs[id]?=some (.cells cs):=by
   rw[PV];simp only[G.alloc];rw[List.getElem?_append,if_pos (by rw[kY];exact Ez),kY];exact kL
  have dZ:=qc S3 Sv (by simp[ak.aD]) trivial;have Mr:g2.w=g.w.drew.alloc (.cells tP e):=by rw[PV,<-rP];rfl
  refine⟨.slice (some ⟨g.w.heap.size,0,none⟩) (len+ys.length) vX,g2.bu id (some l) .gone g2.w,.inl ?_,hle.trans (Le.bu c8 dZ),Good.bu c8 dZ trivial (fun _ _ hh=>hh.elim),?_,?_⟩
  ·rw[cV];simp[bF,G.bu,Mr]
  ·simp only[G.bu,PV,G.alloc,mI,Mode.post];rw[List.set_append,if_pos (by rw[<-hO];exact Ez)]
  have e1:(g.w.heap.size)=g1.w.heap.size:=by rw[rP];rfl
  have Vs:id<g1.objs.length:=by rw[kY];exact Ez
  rw[e1,<-mI];refine .os (l:=⟨g1.w.heap.size,0,tP.size⟩) (o:=.cells ds) ?_ ?_ (by simp[ak.aD]) pq (by rw[wq];exact Nat.le_refl _) hlen
  ·simp only[G.bu,PV,G.alloc];rw[List.getElem?_set_ne (by omega)];exact hU nt
  simp only[G.bu,PV,G.alloc];rw[List.getElem?_set_ne (by omega)];exact eH
end Go.Av
