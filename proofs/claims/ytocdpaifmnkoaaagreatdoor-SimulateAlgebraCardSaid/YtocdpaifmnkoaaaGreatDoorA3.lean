/-
  Texts bound together by a program of mine: YtocdpaifmnkoaaaGreatDoorPdz, YtocdpaifmnkoaaaGreatDoorT1, YtocdpaifmnkoaaaGreatDoorT2, YtocdpaifmnkoaaaGreatDoorT3, YtocdpaifmnkoaaaGreatDoorT30, YtocdpaifmnkoaaaGreatDoorPo, YtocdpaifmnkoaaaGreatDoorT24, YtocdpaifmnkoaaaGreatDoorT25, YtocdpaifmnkoaaaGreatDoorT4, YtocdpaifmnkoaaaGreatDoorT5, YtocdpaifmnkoaaaGreatDoorT6, YtocdpaifmnkoaaaGreatDoorT7, YtocdpaifmnkoaaaGreatDoorT8, YtocdpaifmnkoaaaGreatDoorT9, YtocdpaifmnkoaaaGreatDoorT10, YtocdpaifmnkoaaaGreatDoorT26, YtocdpaifmnkoaaaGreatDoorT11, YtocdpaifmnkoaaaGreatDoorT12, YtocdpaifmnkoaaaGreatDoorT13, YtocdpaifmnkoaaaGreatDoorT14, YtocdpaifmnkoaaaGreatDoorT15, YtocdpaifmnkoaaaGreatDoorT16, YtocdpaifmnkoaaaGreatDoorT17, YtocdpaifmnkoaaaGreatDoorT27, YtocdpaifmnkoaaaGreatDoorT28, YtocdpaifmnkoaaaGreatDoorT29, YtocdpaifmnkoaaaGreatDoorT31, YtocdpaifmnkoaaaGreatDoorT32, YtocdpaifmnkoaaaGreatDoorT33.
-/
import Derived.Test.YtocdpaifmnkoaaaGreatDoorA2
set_option linter.all false
set_option maxRecDepth 100000
set_option maxHeartbeats 4000000

section
/-
  Short forms of steps that occur often; the packed texts of a claim use them (squeeze.py).
-/
namespace Go.Proofs.YtocdpaifmnkoaaaGreatDoor
open Go.Av

theorem FV (aP : ee) (rv : List ResultVar) (sh : Bool) (k : Nat) (R : aa -> List aq -> Prop) (σ : St) : DO aP rv sh k R .ret σ = on (eV aP σ rv) fun rs => k <= σ.objs.length ∧ (∀ o ∈ σ.objs.take k, o.upto k) ∧ (iu (if sh then rs.map aa.share else rs)).upto k ∧ R (iu (if sh then rs.map aa.share else rs)) (σ.objs.take k) := rfl
theorem Dj (aP : ee) (rv : List ResultVar) (sh : Bool) (k : Nat) (R : aa -> List aq -> Prop) (σ : St) : DO aP rv sh k R .norm σ = on (eV aP σ rv) fun rs => k <= σ.objs.length ∧ (∀ o ∈ σ.objs.take k, o.upto k) ∧ (iu (if sh then rs.map aa.share else rs)).upto k ∧ R (iu (if sh then rs.map aa.share else rs)) (σ.objs.take k) := rfl
theorem FH : iu [] = .cN [] := rfl
theorem FI (x y : aa) (r : List aa) : iu (x :: y :: r) = .cN (x :: y :: r) := rfl
theorem V4 (n : Nat) (x : Value) : aa.upto n (.v x) = True := rfl
def zr := And.intro @FV <|And.intro @Dj <|And.intro @eV.eq_1 <|And.intro @eV.eq_2 <|And.intro @kV.eq_1 <|And.intro @kV.eq_2 <|And.intro @iu.eq_1 <|And.intro @FH <|And.intro @FI <|
  And.intro @aa.upto.eq_1 <|And.intro @aa.upto.eq_2 <|And.intro @aa.upto.eq_3 <|And.intro @aa.upto.eq_4 <|And.intro @aa.upto.eq_5 <|And.intro @aa.upto.eq_6 <|And.intro @aa.upto.eq_7 <|And.intro @aa.upto.eq_8 <|And.intro @aa.upto.eq_9 <|And.intro @aa.upto.eq_10 <|And.intro @aa.upto.eq_11 <|And.intro @aa.upto.eq_12 <|And.intro @aa.upto.eq_13 <|
  And.intro @Nat.zero_le <|And.intro @Nat.le_refl <|And.intro @Nat.le_add_right <|And.intro @gR <|And.intro @fv @gk
def zc := And.intro @jw.eq_1 <|And.intro @jw.eq_2 <|And.intro @exists_eq_left'.{1} <|And.intro @Option.some.injEq.{0} <|And.intro @sub_self <|And.intro @and_assoc <|And.intro true_and and_true

theorem ab {p q : Prop} [Decidable p] (h : decide p = true) (n : ¬p) : q := absurd (of_decide_eq_true h) n
theorem af {p q : Prop} [Decidable p] (h : decide p = false) (n : p) : q := absurd n (of_decide_eq_false h)
theorem ob {a : Array Oper} {k : List Kind} (h : n6 a k = true) : eA a k := h
theorem zf {f : FuncId} {fn : Go.Func} {c : Code} {O : List aq} {args : List aa} {R : aa -> List aq -> Prop} {m : Nat} (sh : Bool) (k : Nat) (hf : Tryz.prog.funcs[f]? = some fn) (hm : fn.ntmps = m) (h : cG Tryz.prog O.length c (DO aP fn.results.toList sh k R) ⟨m, slotsOf 0 args, O⟩) (hb : fn.body = some c := by rfl)
    (AI : (fn.name == "runtime.NumGoroutine") = false := by kernel_rfl) (hn : args.length <= m := by simp) (hk : O.length <= k := by simp) : aK Tryz.prog f O args R := by
  subst hm;exact dE hT sh k hf hb AI hn hk h
theorem zq {σ τ : St} (h1 : σ.n = τ.n) (h3 : jw σ τ.bt) (h2 : σ.objs = τ.objs) : bn σ τ := ⟨h1, h2, h3⟩

theorem dA {kb : Nat} {id : Nat} {l : List Oper} {draw : Bool} {Q : dT -> St -> Prop} {σ : St} {q : Prop} (h : q) (e : (fq Tryz.prog aP ⟨false, false⟩ l 0 [] σ [] fun τ ks => ik draw (fun _ => eA l.toArray ks.reverse) ∧ At τ (Q .norm)) = q := by simp -dsimp only[simprocAttr, ↓I, zp]; rfl) : cG Tryz.prog kb (.region id l.toArray draw) Q σ := fE (e ▸ h)
theorem az {kb : Nat} {id : Nat} {l : List Oper} {draw : Bool} {Q : dT -> St -> Prop} {σ : St} {x : Code} {q : Prop} (h : q) (e : (fq Tryz.prog aP ⟨false, false⟩ l 0 [] σ [] fun τ ks => ik draw (fun _ => eA l.toArray ks.reverse) ∧ At τ (bP Tryz.prog kb x Q .norm)) = q := by simp -dsimp only[simprocAttr, ↓I, zp]; rfl) : cG Tryz.prog kb (.seq (.region id l.toArray draw) x) Q σ := aG (e ▸ h)
theorem bS {kb : Nat} {id : Nat} {l : List Oper} {draw : Bool} {Q : dT -> St -> Prop} {σ : St} {x y : Code} {q : Prop} (h : q) (e : (fq Tryz.prog aP ⟨false, false⟩ l 0 [] σ [] fun τ ks => ik draw (fun _ => eA l.toArray ks.reverse) ∧ At τ (bP Tryz.prog kb x (bP Tryz.prog kb y Q) .norm)) = q := by simp -dsimp only[simprocAttr, ↓I, zp]; rfl) : cG Tryz.prog kb (.seq (.seq (.region id l.toArray draw) x) y) Q σ := bR (e ▸ h)
theorem Zs {kb : Nat} {id : Nat} {l : List Oper} {draw : Bool} {Q : dT -> St -> Prop} {σ : St} {x y z : Code} {q : Prop} (h : q) (e : (fq Tryz.prog aP ⟨false, false⟩ l 0 [] σ [] fun τ ks => ik draw (fun _ => eA l.toArray ks.reverse) ∧ At τ (bP Tryz.prog kb x (bP Tryz.prog kb y (bP Tryz.prog kb z Q)) .norm)) = q := by simp -dsimp only[simprocAttr, ↓I, zp]; rfl) : cG Tryz.prog kb (.seq (.seq (.seq (.region id l.toArray draw) x) y) z) Q σ := YK (e ▸ h)
theorem cP {kb : Nat} {c : Operand} {x y : Code} {Q : dT -> St -> Prop} {σ : St} (hc : σ.ev c = some (.v (.bool false))) (hf : cG Tryz.prog kb y Q σ) : cG Tryz.prog kb (.cond c x y) Q σ := nG hc (fun h => by cases h) fun _ => hf
theorem YO {kb : Nat} {c : Operand} {x y z : Code} {Q : dT -> St -> Prop} {σ : St} (hc : σ.ev c = some (.v (.bool false))) (hf : cG Tryz.prog kb y (bP Tryz.prog kb z Q) σ) : cG Tryz.prog kb (.seq (.cond c x y) z) Q σ := aL (cP hc hf)
theorem ZB {kb : Nat} {c : Operand} {x y z w : Code} {Q : dT -> St -> Prop} {σ : St} (hc : σ.ev c = some (.v (.bool false))) (hf : cG Tryz.prog kb y (bP Tryz.prog kb z (bP Tryz.prog kb w Q)) σ) : cG Tryz.prog kb (.seq (.seq (.cond c x y) z) w) Q σ := aL (YO hc hf)
theorem dS {kb : Nat} {c : Operand} {x y : Code} {Q : dT -> St -> Prop} {σ : St} (hc : σ.ev c = some (.v (.bool true))) (ht : cG Tryz.prog kb x Q σ) : cG Tryz.prog kb (.cond c x y) Q σ := nG hc (fun _ => ht) fun h => by cases h
theorem YP {kb : Nat} {c : Operand} {x y z : Code} {Q : dT -> St -> Prop} {σ : St} (hc : σ.ev c = some (.v (.bool true))) (ht : cG Tryz.prog kb x (bP Tryz.prog kb z Q) σ) : cG Tryz.prog kb (.seq (.cond c x y) z) Q σ := aL (dS hc ht)
theorem ZC {kb : Nat} {c : Operand} {x y z w : Code} {Q : dT -> St -> Prop} {σ : St} (hc : σ.ev c = some (.v (.bool true))) (ht : cG Tryz.prog kb x (bP Tryz.prog kb z (bP Tryz.prog kb w Q)) σ) : cG Tryz.prog kb (.seq (.seq (.cond c x y) z) w) Q σ := aL (YP hc ht)
theorem zi {id : FuncId} {args : List aa} {r : aa} {K : aa -> Prop} {B q : Prop} (hc : bw Tryz.prog id args r) (h : q) (hu : av 0 args := by simp only[av, aa.upto, zt, zu]) (e : K r = q := by simp -dsimp only[simprocAttr, ↓I, zp]; rfl) : (∃ r, bw Tryz.prog id args r ∧ av 0 args ∧ w8 fun _ => K r) ∨ B := .inl ⟨r, hc, hu, ae (e ▸ h)⟩
theorem zj {p q : Prop} (h : q) (e : p = q := by simp -dsimp only[simprocAttr, ↓I, zp]; rfl) : p := e ▸ h
end Go.Proofs.YtocdpaifmnkoaaaGreatDoor
end
namespace Go.Proofs.YtocdpaifmnkoaaaGreatDoor
open Go.Av
def within(n low high:Int):Bool:=decide (low<=n)&&decide (n<=high)
theorem dX(n low high:Int):bw Tryz.prog 16 [aI n,aI low,aI high] (.v (.bool (within n low high))):=by
 refine zf true 0 Tryz.func16 Tryz.ntmps16 ?_;dsimp only[Tmp,TypeId,slotsOf];refine az (ai ?_);refine az ?_;refine DF (fun h=>?_) (fun h=>?_)
 ·simp -dsimp only[simprocAttr,↓I,zp,h];refine ai ?_;refine ak ?_;simp -dsimp only[simprocAttr,↓I,zp,zr,Tryz.results16]
  simp_all [within]
 simp -dsimp only[simprocAttr,↓I,zp,h];refine ai ?_;refine ak ?_;simp -dsimp only[simprocAttr,↓I,zp,zr,Tryz.results16]
 simp_all [within]
 omega
theorem j9(n:Int):-1073741824<=jv n∧jv n<=1073741823:=by
 unfold jv;omega
theorem KB(x:Int):bitsOf .i64 (fun x y=>x&&& y) x 2147483647=x % 2147483648:=by
 have h:(BitVec.ofInt 64 x&&& BitVec.ofInt 64 2147483647).toNat=(x % 2147483648).toNat:=by
  rw[BitVec.toNat_and,show(BitVec.ofInt 64 2147483647).toNat=2 ^ 31-1 by decide,Nat.and_two_pow_sub_one_eq_mod,BitVec.toNat_ofInt];omega
 show IntKind.i64.wrap (((BitVec.ofInt 64 x&&& BitVec.ofInt 64 2147483647).toNat:Nat):Int)=_;rw[h,nc .i64 _ (by simp[IntKind.min,IntKind.bits,IntKind.signed];omega) (by simp[IntKind.max,IntKind.bits,IntKind.signed];omega)];omega
theorem ff(n:Int)(h1:-9223372036854775808<=n)(h2:n<=9223372035781033983):bw Tryz.prog 179 [aI n] (aI (jv n)):=by
 have q:=j9 n;have e:bitsOf .i64 (fun x y=>x&&& y) (n+1073741824) 2147483647=jv n+1073741824:=by
  rw[KB];unfold jv;omega
 refine zf true 0 Tryz.func179 Tryz.ntmps179 ?_;dsimp only[Tmp,TypeId,slotsOf];refine az (ai ?_);refine az ?_;refine⟨by omega,by omega,?_⟩;simp -dsimp only[simprocAttr,↓I,zp,e];refine⟨by omega,by omega,by omega,by omega,?_⟩;refine ai ?_;refine ak ?_;simp -dsimp only[simprocAttr,↓I,zp,zr,Tryz.results179];rw[Int.add_sub_cancel]
theorem eT{n:Int}(h:cu n):jv n=n:=by
 unfold cu at h;unfold jv;omega
theorem zJ(a b:Int)(ha:cu a)(hb:cu b):bw Tryz.prog 151 [aI a,aI b] (aI (jv (a+b))):=by
 unfold cu at ha hb;refine zf true 0 Tryz.func151 Tryz.ntmps151 ?_;dsimp only[Tmp,TypeId,slotsOf];refine az (ai ?_);refine az ?_;refine⟨by omega,by omega,?_⟩;refine .inl ⟨_,(ff (a+b) (by omega) (by omega)),by simp only[av,aa.upto,zt],ae ?_⟩;refine ai ?_;refine ak ?_;simp -dsimp only[simprocAttr,↓I,zp,zr,Tryz.results151]
theorem vF(a b:Int)(ha:cu a)(hb:cu b):bw Tryz.prog 152 [aI a,aI b] (aI (jv (a-b))):=by
 unfold cu at ha hb;refine zf true 0 Tryz.func152 Tryz.ntmps152 ?_;dsimp only[Tmp,TypeId,slotsOf];refine az (ai ?_);refine az ?_;refine⟨by omega,by omega,?_⟩;refine .inl ⟨_,(ff (a-b) (by omega) (by omega)),by simp only[av,aa.upto,zt],ae ?_⟩;refine ai ?_;refine ak ?_;simp -dsimp only[simprocAttr,↓I,zp,zr,Tryz.results152]
theorem Dg{a b:Int}(ha:cu a)(hb:cu b):-1152921504606846976<=a*b∧a*b<=1152921504606846976:=by
 unfold cu at ha hb;have h:(a*b).natAbs<=1152921504606846976:=by
  rw[Int.natAbs_mul];have:=Nat.mul_le_mul (show a.natAbs<=1073741824 by omega) (show b.natAbs<=1073741824 by omega);omega
 omega
theorem mh(a b:Int)(ha:cu a)(hb:cu b):bw Tryz.prog 153 [aI a,aI b] (aI (jv (a*b))):=by
 have q:=Dg ha hb;have ea:=eT ha;have eb:=eT hb;have wa:=ff a (by unfold cu at ha;omega) (by unfold cu at ha;omega);have wb:=ff b (by unfold cu at hb;omega) (by unfold cu at hb;omega);have wc:=ff (a*b) (by omega) (by omega);rw[ea]at wa;rw[eb]at wb;generalize hc:a*b=c at *;refine zf true 0 Tryz.func153 Tryz.ntmps153 ?_;dsimp only[Tmp,TypeId,slotsOf];refine az (ai ?_);refine az ?_;refine .inl ⟨_,wa,by simp only[av,aa.upto,zt],ae ?_⟩;refine .inl ⟨_,wb,by simp only[av,aa.upto,zt],ae ?_⟩;simp -dsimp only[simprocAttr,↓I,zp,hc];refine⟨by omega,by omega,?_⟩;refine .inl ⟨_,wc,by simp only[av,aa.upto,zt],ae ?_⟩;refine ai ?_;refine ak ?_;simp -dsimp only[simprocAttr,↓I,zp,zr,Tryz.results153]
theorem Dz{a b:Int}(ha:cu a):-1073741824<=a.tdiv b∧a.tdiv b<=1073741824:=by
 unfold cu at ha;have h:(a.tdiv b).natAbs<=a.natAbs:=by
  rw[Int.natAbs_tdiv];exact Nat.div_le_self _ _
 omega
theorem vH{a b:Int}(hb:cu b)(h0:b≠0):cu (a.tmod b):=by
 unfold cu at *;have h:(a.tmod b).natAbs<b.natAbs:=by
  rw[Int.natAbs_tmod];exact Nat.mod_lt _ (by omega)
 omega
theorem G'(a b:Int)(ha:cu a)(hb:cu b)(h0:b≠0):bw Tryz.prog 155 [aI a,aI b] (.cN [aI (jv (a.tdiv b)),aI 0]):=by
 have q:=Dz (b:=b) ha;have wa:=ff a (by unfold cu at ha;omega) (by unfold cu at ha;omega);have wb:=ff b (by unfold cu at hb;omega) (by unfold cu at hb;omega);have wc:=ff (a.tdiv b) (by omega) (by omega);rw[eT ha]at wa;rw[eT hb]at wb;have h1:(b=0)=False:=by simpa using h0
 generalize hc:a.tdiv b=c at *;refine zf true 0 Tryz.func155 Tryz.ntmps155 ?_;dsimp only[Tmp,TypeId,slotsOf];refine az (ai ?_);refine bS ?_;refine .inl ⟨_,wb,by simp only[av,aa.upto,zt],ae ?_⟩;simp -dsimp only[simprocAttr,↓I,zp,h0];refine ai ?_;refine cP rfl ?_;refine bZ ?_;refine az ?_;refine .inl ⟨_,wa,by simp only[av,aa.upto,zt],ae ?_⟩;refine .inl ⟨_,wb,by simp only[av,aa.upto,zt],ae ?_⟩;simp -dsimp only[simprocAttr,↓I,zp,h1,if_false,hc];refine⟨by omega,by omega,?_⟩;refine .inl ⟨_,wc,by simp only[av,aa.upto,zt],ae ?_⟩;refine ai ?_;refine ak ?_;simp -dsimp only[simprocAttr,↓I,zp,zr,Tryz.results155];simp[av,aa.upto]
theorem Ie(a b:Int)(ha:cu a)(hb:cu b)(h0:b≠0):bw Tryz.prog 156 [aI a,aI b] (.cN [aI (a.tmod b),aI 0]):=by
 have q:=vH (a:=a) hb h0;unfold cu at q;have wa:=ff a (by unfold cu at ha;omega) (by unfold cu at ha;omega);have wb:=ff b (by unfold cu at hb;omega) (by unfold cu at hb;omega);rw[eT ha]at wa;rw[eT hb]at wb;have h1:(b=0)=False:=by simpa using h0
 generalize hc:a.tmod b=c at *;refine zf true 0 Tryz.func156 Tryz.ntmps156 ?_;dsimp only[Tmp,TypeId,slotsOf];refine az (ai ?_);refine bS ?_;refine .inl ⟨_,wb,by simp only[av,aa.upto,zt],ae ?_⟩;simp -dsimp only[simprocAttr,↓I,zp,h0];refine ai ?_;refine cP rfl ?_;refine bZ ?_;refine az ?_;refine .inl ⟨_,wa,by simp only[av,aa.upto,zt],ae ?_⟩;refine .inl ⟨_,wb,by simp only[av,aa.upto,zt],ae ?_⟩;simp -dsimp only[simprocAttr,↓I,zp,h1,if_false,hc];refine⟨by omega,by omega,?_⟩;refine ai ?_;refine ak ?_;simp -dsimp only[simprocAttr,↓I,zp,zr,Tryz.results156];simp[av,aa.upto]
structure Bs where
 a:Nat
 b:Nat
 deriving DecidableEq
namespace Bs
def enc(s:Bs):aa:=.agg [.v (.int .u64 s.a),.v (.int .u64 s.b)]
def fit(s:Bs):Prop:=s.a<2 ^ 64∧s.b<2 ^ 64
def has(s:Bs)(k:Nat):Bool:=if k<64 then s.a.testBit k else s.b.testBit (k-64)
def add(s:Bs)(k:Nat):Bs:=if k<64 then⟨s.a |||1 <<< k,s.b⟩else⟨s.a,s.b |||1 <<< (k-64)⟩
def meet(s t:Bs):Bs:=⟨s.a&&& t.a,s.b&&& t.b⟩
def none:Bs:=⟨0,0⟩
theorem ar(s:Bs):s.enc.share=s.enc:=rfl
theorem ax(s:Bs):s.enc.flat:=trivial
theorem an(s:Bs):s.enc.cells=[.v (.int .u64 s.a),.v (.int .u64 s.b)]:=rfl
theorem aS(n:Nat)(s:Bs):s.enc.upto n:=⟨trivial,trivial,trivial⟩
end Bs
theorem wrap_u64{n:Nat}(h:n<2 ^ 64):IntKind.u64.wrap (n:Int)=(n:Int):=by
 rw[nc .u64 _ (by simp[IntKind.min,IntKind.signed]) (by simp[IntKind.max,IntKind.bits,IntKind.signed];omega)]
theorem x9{m n:Nat}(hm:m<2 ^ 64)(hn:n<2 ^ 64):bitsOf .u64 (fun x y=>x&&& y) (m:Int) (n:Int)=((m&&& n:Nat):Int):=by
 have h:(BitVec.ofInt 64 (m:Int)&&& BitVec.ofInt 64 (n:Int)).toNat=m&&& n:=by
  rw[BitVec.toNat_and,BitVec.toNat_ofInt,BitVec.toNat_ofInt];congr 1<;>omega
 show IntKind.u64.wrap (((BitVec.ofInt 64 (m:Int)&&& BitVec.ofInt 64 (n:Int)).toNat:Nat):Int)=_;rw[h];exact wrap_u64 (Nat.lt_of_le_of_lt Nat.and_le_left hm)
theorem Iq{m n:Nat}(hm:m<2 ^ 64)(hn:n<2 ^ 64):bitsOf .u64 (fun x y=>x |||y) (m:Int) (n:Int)=((m |||n:Nat):Int):=by
 have h:(BitVec.ofInt 64 (m:Int) |||BitVec.ofInt 64 (n:Int)).toNat=m |||n:=by
  rw[BitVec.toNat_or,BitVec.toNat_ofInt,BitVec.toNat_ofInt];congr 1<;>omega
 show IntKind.u64.wrap (((BitVec.ofInt 64 (m:Int) |||BitVec.ofInt 64 (n:Int)).toNat:Nat):Int)=_;rw[h];exact wrap_u64 (Nat.or_lt_two_pow hm hn)
theorem LW(m k:Nat)(hk:k<64):fp .u64 .shr (m:Int) (k:Int)=((m >>> k:Nat):Int):=by
 simp only[fp,Int.toNat_natCast,IntKind.bits];rw[Nat.min_eq_left (by omega),Nat.shiftRight_eq_div_pow,Int.fdiv_eq_ediv_of_nonneg _ (by exact Int.le_of_lt (Int.pow_pos (by omega)))];simp
theorem LV(k:Nat)(hk:k<64):fp .u64 .shl 1 (k:Int)=((1 <<< k:Nat):Int):=by
 simp only[fp,Int.toNat_natCast,IntKind.bits];have bd:1 <<< k<2 ^ 64:=by
  rw[Nat.one_shiftLeft];exact Nat.pow_lt_pow_right (by omega) hk
 have he:(1:Int)*(2:Int) ^ k=((1 <<< k:Nat):Int):=by
  rw[Nat.one_shiftLeft];simp
 rw[Nat.min_eq_left (by omega),he];exact wrap_u64 bd
theorem KH(m k:Nat):decide (((m >>> k&&& 1:Nat):Int)=1)=m.testBit k:=by
 rw[Nat.testBit_eq_decide_div_mod_eq,Nat.and_one_is_mod,Nat.shiftRight_eq_div_pow];congr 1;apply propext;omega
theorem QB{m k:Nat}(h:m<2 ^ 64):m >>> k<2 ^ 64:=by
 rw[Nat.shiftRight_eq_div_pow];exact Nat.lt_of_le_of_lt (Nat.div_le_self _ _) h
theorem O8{k:Nat}:(k:Int).tdiv 64=((k / 64:Nat):Int):=by
 rw[Int.tdiv_eq_ediv_of_nonneg (by omega)];omega
theorem O9{k:Nat}:(k:Int).tmod 64=((k % 64:Nat):Int):=by
 rw[Int.tmod_eq_emod_of_nonneg (by omega)];omega
theorem Ip:((1:Nat):Int)=1:=rfl
theorem qK(s:Bs)(hs:s.fit)(k:Nat)(hk:k<128):bw Tryz.prog 64 [s.enc,aI k] (.v (.bool (s.has k))):=by
 obtain⟨ha,hb⟩:=hs;have Uz:((64:Int)=0)=False:=by simp
 have Lk:k % 64<64:=Nat.mod_lt _ (by omega);have q1:=O8 (k:=k);have q2:=O9 (k:=k);obtain⟨x,hx,Gw⟩:∃x:Nat,x<2 ^ 64∧x=if k<64 then s.a else s.b:=by
  split
  ·exact⟨_,ha,rfl⟩
  exact⟨_,hb,rfl⟩
 have hr:s.has k=x.testBit (k % 64):=by
  rw[Gw];unfold Bs.has;split
  ·rw[Nat.mod_eq_of_lt (by assumption)]
  rw[show k % 64=k-64 by omega]
 have e1:=LW x (k % 64) Lk;have xz:=QB (k:=k % 64) hx;have e2:=x9 (m:=x >>> (k % 64)) (n:=1) xz (by omega);have e3:=KH x (k % 64);rw[Ip]at e2;have mA:x >>> (k % 64)&&& 1<=1:=Nat.and_le_right;rw[hr,<-e3];generalize hy:x >>> (k % 64)=y at *;generalize hw:y&&& 1=w at *;rcases(show k / 64=0∧x=s.a∨k / 64=1∧x=s.b by
  by_cases h:k<64
  ·exact .inl ⟨by omega,by rw[Gw,if_pos h]⟩
  exact .inr ⟨by omega,by rw[Gw,if_neg h]⟩)with⟨hq,Gx⟩|⟨hq,Gx⟩
 all_goals
  rw[hq]at q1;subst Gx;refine zf true 0 Tryz.func64 Tryz.ntmps64 ?_;dsimp only[Tmp,TypeId,slotsOf];refine aG ?_;simp -dsimp only[simprocAttr,↓I,zp,Bs.an,Bs.ax];refine ai ?_;refine aG ?_;simp -dsimp only[simprocAttr,↓I,zp,q1,q2,Uz,if_false,e1,e2]
  repeat(refine⟨by omega,?_⟩)
  refine ai ?_;refine ak ?_;simp -dsimp only[simprocAttr,↓I,zp,zr,Tryz.results64]
theorem EJ(s t:Bs)(hs:s.fit)(ht:t.fit):bw Tryz.prog 112 [s.enc,t.enc] (s.meet t).enc:=by
 obtain⟨ha,hb⟩:=hs;obtain⟨hc,hd⟩:=ht;have e1:=x9 ha hc;have e2:=x9 hb hd;have l1:s.a&&& t.a<2 ^ 64:=Nat.lt_of_le_of_lt Nat.and_le_left ha;have l2:s.b&&& t.b<2 ^ 64:=Nat.lt_of_le_of_lt Nat.and_le_left hb;unfold Bs.meet;generalize s.a&&& t.a=p at *;generalize s.b&&& t.b=q at *;refine zf true 0 Tryz.func112 Tryz.ntmps112 ?_;dsimp only[Tmp,TypeId,slotsOf];refine aG ?_;simp -dsimp only[simprocAttr,↓I,zp,Bs.an,Bs.ax];refine ai ?_;refine aG ?_;simp -dsimp only[simprocAttr,↓I,zp,e1,e2]
 repeat(refine⟨by omega,?_⟩)
 refine ai ?_;refine ak ?_;simp -dsimp only[simprocAttr,↓I,zp,zr,Tryz.results112];exact⟨⟨trivial,trivial,trivial⟩,rfl⟩
theorem Gj(s:Bs)(hs:s.fit)(k:Nat)(hk:k<128):bw Tryz.prog 111 [s.enc,aI k] (s.add k).enc:=by
 obtain⟨ha,hb⟩:=hs;have Uz:((64:Int)=0)=False:=by simp
 have Lk:k % 64<64:=Nat.mod_lt _ (by omega);have q1:=O8 (k:=k);have q2:=O9 (k:=k);have e1:=LV (k % 64) Lk;have bd:1 <<< (k % 64)<2 ^ 64:=by
  rw[Nat.one_shiftLeft];exact Nat.pow_lt_pow_right (by omega) Lk
 rcases(show k<64∨64<=k by omega)with h|h
 ·have hq:k / 64=0:=by omega
  have hr:s.add k=⟨s.a |||1 <<< (k % 64),s.b⟩:=by
   simp[Bs.add,h,Nat.mod_eq_of_lt h]
  have e2:=Iq ha bd;have l1:s.a |||1 <<< (k % 64)<2 ^ 64:=Nat.or_lt_two_pow ha bd;rw[hr];rw[hq]at q1;generalize hy:1 <<< (k % 64)=y at *;generalize hw:s.a |||y=w at *;refine zf true 0 Tryz.func111 Tryz.ntmps111 ?_;dsimp only[Tmp,TypeId,slotsOf];refine aG ?_;simp -dsimp only[simprocAttr,↓I,zp,Bs.an,Bs.ax];refine ai ?_;refine aG ?_;simp -dsimp only[simprocAttr,↓I,zp,q1,q2,Uz,if_false,e1,e2]
  repeat(refine⟨by omega,?_⟩)
  refine⟨ob (by kernel_rfl),?_⟩;refine ai ?_;refine az (ai ?_);refine ak ?_;simp -dsimp only[simprocAttr,↓I,zp,zr,Tryz.results111];exact⟨⟨trivial,trivial,trivial⟩,rfl⟩
 have hq:k / 64=1:=by omega
 have hr:s.add k=⟨s.a,s.b |||1 <<< (k % 64)⟩:=by
  have da:¬k<64:=by omega
  simp[Bs.add,da,show k % 64=k-64 by omega]
 have e2:=Iq hb bd;have l1:s.b |||1 <<< (k % 64)<2 ^ 64:=Nat.or_lt_two_pow hb bd;rw[hr];rw[hq]at q1;generalize hy:1 <<< (k % 64)=y at *;generalize hw:s.b |||y=w at *;refine zf true 0 Tryz.func111 Tryz.ntmps111 ?_;dsimp only[Tmp,TypeId,slotsOf];refine aG ?_;simp -dsimp only[simprocAttr,↓I,zp,Bs.an,Bs.ax];refine ai ?_;refine aG ?_;simp -dsimp only[simprocAttr,↓I,zp,q1,q2,Uz,if_false,e1,e2]
 repeat(refine⟨by omega,?_⟩)
 refine⟨ob (by kernel_rfl),?_⟩;refine ai ?_;refine az (ai ?_);refine ak ?_;simp -dsimp only[simprocAttr,↓I,zp,zr,Tryz.results111];exact⟨⟨trivial,trivial,trivial⟩,rfl⟩
namespace Bs
theorem Hy(s t:Bs)(k:Nat):(s.meet t).has k=(s.has k&&t.has k):=by
 unfold has meet;split<;>simp[Nat.testBit_and]
theorem has_add(s:Bs)(j k:Nat)(hj:j<128)(hk:k<128):(s.add j).has k=(s.has k ||decide (k=j)):=by
 unfold has add;by_cases h1:j<64<;>by_cases h2:k<64
 ·simp only[h1,h2,if_true,Nat.testBit_or,Nat.one_shiftLeft,Nat.testBit_two_pow];congr 1;apply decide_eq_decide.2;omega
 ·simp only[h1,h2,if_true,if_false];have:¬k=j:=by omega
  simp[this]
 ·simp only[h1,h2,if_true,if_false];have:¬k=j:=by omega
  simp[this]
 simp only[h1,h2,if_false,Nat.testBit_or,Nat.one_shiftLeft,Nat.testBit_two_pow];congr 1;apply decide_eq_decide.2;omega
theorem Ay{s t:Bs}(h:s.fit):(s.meet t).fit:=⟨Nat.lt_of_le_of_lt Nat.and_le_left h.1,Nat.lt_of_le_of_lt Nat.and_le_left h.2⟩
theorem oF{s:Bs}(h:s.fit){k:Nat}(hk:k<128):(s.add k).fit:=by
 unfold add;split
 ·refine⟨Nat.or_lt_two_pow h.1 ?_,h.2⟩;rw[Nat.one_shiftLeft];exact Nat.pow_lt_pow_right (by omega) (by assumption)
 refine⟨h.1,Nat.or_lt_two_pow h.2 ?_⟩;rw[Nat.one_shiftLeft];exact Nat.pow_lt_pow_right (by omega) (by omega)
theorem nO:none.fit:=⟨by decide,by decide⟩
theorem ext{s t:Bs}(hs:s.fit)(ht:t.fit)(h:∀k,k<128->s.has k=t.has k):s=t:=by
 obtain⟨a,b⟩:=s;obtain⟨c,d⟩:=t;obtain⟨s1,s2⟩:=hs;obtain⟨t1,t2⟩:=ht;simp only at s1 s2 t1 t2;have bd:∀{m k:Nat},m<2 ^ 64->64<=k->m.testBit k=false:=fun hm hk=>Nat.testBit_lt_two_pow (Nat.lt_of_lt_of_le hm (Nat.pow_le_pow_right (by omega) hk));congr 1
 ·apply Nat.eq_of_testBit_eq;intro k;by_cases hk:k<64
  ·have:=h k (by omega);simpa[has,hk]using this
  rw[bd s1 (by omega),bd t1 (by omega)]
 apply Nat.eq_of_testBit_eq;intro k;by_cases hk:k<64
 ·have:=h (k+64) (by omega);simpa[has,show ¬k+64<64 by omega]using this
 rw[bd s2 (by omega),bd t2 (by omega)]
def size(s:Bs):Nat:=(List.range 128).countP s.has
theorem countP_le{p q:Nat->Bool}(h:∀k,k<128->p k=true->q k=true):∀n≤128,(List.range n).countP p<=(List.range n).countP q
 | 0,_=>by simp
 | n+1,hn=>by
  have ih:=countP_le h n (by omega);rw[List.range_succ,List.countP_append,List.countP_append];have:[n].countP p<=[n].countP q:=by
   simp only[List.countP_singleton];by_cases hp:p n=true
   ·simp[hp,h n (by omega) hp]
   simp[hp]
  omega
theorem rG{p q:Nat->Bool}(h:∀k,k<128->p k=true->q k=true){j:Nat}(hq:q j=true)(hp:p j=false):∀n≤128,j<n->(List.range n).countP p<(List.range n).countP q
 | 0,_,hj=>by omega
 | n+1,hn,hj=>by
  rw[List.range_succ,List.countP_append,List.countP_append];by_cases e:j=n
  ·subst e;have:=countP_le h j (by omega);simp only[List.countP_singleton,hq,hp];simp;omega
  have ih:=rG h hq hp n (by omega) (by omega);have:[n].countP p<=[n].countP q:=by
   simp only[List.countP_singleton];by_cases zF:p n=true
   ·simp[zF,h n (by omega) zF]
   simp[zF]
  omega
theorem LX{s t:Bs}(hs:s.fit)(ht:t.fit)(h:∀k,k<128->s.has k=true->t.has k=true)(da:s≠t):s.size<t.size:=by
 by_cases dt:∀k,k<128->t.has k=true->s.has k=true
 ·exfalso;apply da;apply ext hs ht;intro k hk;cases h1:s.has k<;>cases h2:t.has k
  ·rfl
  ·exact absurd (dt k hk h2) (by simp[h1])
  ·exact absurd (h k hk h1) (by simp[h2])
  rfl
 obtain⟨j,hj,h2,h1⟩:∃j,j<128∧t.has j=true∧¬s.has j=true:=by
  refine Classical.byContradiction fun q=>dt fun k hk h2=>?_;refine Classical.byContradiction fun h1=>q ⟨k,hk,h2,h1⟩
 exact rG h h2 (by simpa using h1) 128 (Nat.le_refl _) hj
theorem sM(s:Bs):s.size<=128:=by
 have:=List.countP_le_length (p:=s.has) (l:=List.range 128);simpa[size]using this
end Bs
structure Ds where
 over:List Bs
 seen:Bs
 again:Bool
def Ds.at_(S:Ds)(k:Nat):Bs:=S.over[k]?.getD .none
def nt(k:Nat)(S:Ds)(e:Edge):Ds :=
 let next:=((S.at_ e.block.toNat).meet (S.at_ k)).add e.block.toNat
 if next≠S.at_ e.block.toNat∨S.seen.has e.block.toNat=false then⟨S.over.set e.block.toNat next,S.seen.add e.block.toNat,true⟩else S
def wH(k:Nat)(S:Ds)(b:Block):Ds:=if S.seen.has k=false then S else b.term.to.foldl (nt k) S
def rJ:Nat->Ds->List Block->Ds
 | _,S,[]=>S
 | k,S,b::r=>rJ (k+1) (wH k S b) r
def oW(f:Func):Nat->Ds->Ds
 | 0,S=>S
 | n+1,S=>if S.again then oW f n (rJ 0 ⟨S.over,S.seen,false⟩ f.blocks)else S
def zK:Nat->Bs
 | 0=>.none
 | n+1=>(zK n).add n
def uF(f:Func):Ds:=⟨(List.replicate f.blocks.length (zK f.blocks.length)).set 0 (Bs.none.add 0),Bs.none.add 0,true⟩
def uE(f:Func):List Bs×Bs:=((oW f 20000 (uF f)).over,(oW f 20000 (uF f)).seen)
structure nr(n:Nat)(S:Ds):Prop where
 oX:n<=128
 len:S.over.length=n
 fit:∀s∈S.over,s.fit
 seen:S.seen.fit
 self:∀k,k<n->(S.at_ k).has k=true
def Ds.weight(S:Ds):Nat:=(S.over.map Bs.size).sum+(128-S.seen.size)
theorem nr.yb{n:Nat}{S:Ds}(h:nr n S)(k:Nat):(S.at_ k).fit:=by
 unfold Ds.at_;cases hk:S.over[k]? with
 | none=>exact Bs.nO
 | some s=>exact h.fit s (List.mem_of_getElem? hk)
theorem Ew{l:List Nat}{k x y:Nat}(h:l[k]?=some y):(l.set k x).sum+y=l.sum+x:=by
 induction l generalizing k with
 | nil=>simp at h
 | cons a r ih =>
  cases k with
  | zero =>
   simp only[List.getElem?_cons_zero,Option.some.injEq]at h;simp only[List.set_cons_zero,List.sum_cons];omega
  | succ k =>
   have:=ih (k:=k) (by simpa using h);simp only[List.set_cons_succ,List.sum_cons];omega
theorem DV{n:Nat}{S:Ds}(h:nr n S){k:Nat}{e:Edge}(RS:0<=e.block)(o6:e.block.toNat<n):nr n (nt k S e)∧(nt k S e).weight<=S.weight∧((nt k S e).again=true->S.again=true∨(nt k S e).weight<S.weight):=by
 have hj:e.block.toNat<128:=Nat.lt_of_lt_of_le o6 h.oX;unfold nt;simp only;generalize e.block.toNat=j at *;have WE:=h.yb j;have pP:(((S.at_ j).meet (S.at_ k)).add j).fit:=Bs.oF (Bs.Ay WE) hj;have CP:∀i,i<128->(((S.at_ j).meet (S.at_ k)).add j).has i=true->(S.at_ j).has i=true:=fun i hi q=>by
  rw[Bs.has_add _ _ _ hj hi,Bs.Hy]at q;by_cases e:i=j
  ·subst e;exact h.self i o6
  simp[e]at q;exact q.1
 have oZ:S.over[j]?=some (S.at_ j):=by
  have:j<S.over.length:=by rw[h.len];exact o6
  simp[Ds.at_,this]
 split
 ·rename_i hc;refine⟨⟨h.oX,by simp[h.len],fun s hs=>?_,Bs.oF h.seen hj,fun i hi=>?_⟩,?_⟩
  ·rcases List.mem_or_eq_of_mem_set hs with q|q
   ·exact h.fit s q
   rw[q];exact pP
  ·unfold Ds.at_;by_cases e:i=j
   ·subst e;rw[List.getElem?_set_self (by rw[h.len];exact hi)];simp only[Option.getD_some];rw[Bs.has_add _ _ _ hj hj];simp
   rw[List.getElem?_set_ne (Ne.symm e)];exact h.self i hi
  have lD:=Ew (l:=S.over.map Bs.size) (k:=j) (x:=(((S.at_ j).meet (S.at_ k)).add j).size) (y:=(S.at_ j).size) (by simp[oZ]);rw[<-List.map_set]at lD;have hle:(((S.at_ j).meet (S.at_ k)).add j).size<=(S.at_ j).size:=Bs.countP_le CP 128 (Nat.le_refl _);have xz:S.seen.size<=(S.seen.add j).size:=Bs.countP_le (fun i hi q=>by rw[Bs.has_add _ _ _ hj hi,q];rfl) 128 (Nat.le_refl _);have ha:=Bs.sM (S.seen.add j);have bd:(((S.at_ j).meet (S.at_ k)).add j).size<(S.at_ j).size∨S.seen.size<(S.seen.add j).size:=by
   rcases hc with hc|hc
   ·exact .inl (Bs.LX pP WE CP hc)
   refine .inr (Bs.rG (fun i hi q=>by rw[Bs.has_add _ _ _ hj hi,q];rfl) (j:=j) ?_ hc 128 (Nat.le_refl _) hj);rw[Bs.has_add _ _ _ hj hj];simp
  simp only[Ds.weight];refine⟨by omega,fun _=>.inr (by omega)⟩
 exact⟨h,Nat.le_refl _,fun q=>.inl q⟩
theorem DW{n:Nat}{k:Nat}:∀(l:List Edge) {S:Ds},nr n S->(∀e∈l,0<=e.block∧e.block.toNat<n)->nr n (l.foldl (nt k) S)∧(l.foldl (nt k) S).weight<=S.weight∧((l.foldl (nt k) S).again=true->S.again=true∨(l.foldl (nt k) S).weight<S.weight)
 | [],S,h,_=>⟨h,Nat.le_refl _,fun q=>.inl q⟩
 | e::r,S,h,he=>by
  obtain⟨a1,a2,a3⟩:=DV (k:=k) h (he e (by simp)).1 (he e (by simp)).2;obtain⟨b1,b2,b3⟩:=DW r a1 (fun x hx=>he x (by simp[hx]));simp only[List.foldl_cons];refine⟨b1,by omega,fun q=>?_⟩;rcases b3 q with q|q
  ·rcases a3 q with q|q
   ·exact .inl q
   exact .inr (by omega)
  exact .inr (by omega)
theorem DU{n:Nat}{k:Nat}{b:Block}{S:Ds}(h:nr n S)(he:∀e∈b.term.to,0<=e.block∧e.block.toNat<n):nr n (wH k S b)∧(wH k S b).weight<=S.weight∧((wH k S b).again=true->S.again=true∨(wH k S b).weight<S.weight):=by
 unfold wH;split
 ·exact⟨h,Nat.le_refl _,fun q=>.inl q⟩
 exact DW _ h he
theorem yp{n:Nat}:∀(l:List Block) {k:Nat} {S:Ds},nr n S->(∀b∈l,∀e∈b.term.to,0<=e.block∧e.block.toNat<n)->nr n (rJ k S l)∧(rJ k S l).weight<=S.weight∧((rJ k S l).again=true->S.again=true∨(rJ k S l).weight<S.weight)
 | [],k,S,h,_=>⟨h,Nat.le_refl _,fun q=>.inl q⟩
 | b::r,k,S,h,he=>by
  obtain⟨a1,a2,a3⟩:=DU (k:=k) h (he b (by simp));obtain⟨b1,b2,b3⟩:=yp r (k:=k+1) a1 (fun x hx=>he x (by simp[hx]));simp only[rJ];refine⟨b1,by omega,fun q=>?_⟩;rcases b3 q with q|q
  ·rcases a3 q with q|q
   ·exact .inl q
   exact .inr (by omega)
  exact .inr (by omega)
instance (n:Int):Decidable (cu n):=by
 unfold cu
 infer_instance
theorem sD(n:Int):bw Tryz.prog 110 [aI n] (.v (.bool (decide (cu n)))):=by
 have hw:=dX n (-1073741824) 1073741823;refine zf true 0 Tryz.func110 Tryz.ntmps110 ?_;dsimp only[Tmp,TypeId,slotsOf];refine az (ai ?_);refine az ?_;refine zi hw ?_;refine ai ?_;refine ak ?_;simp -dsimp only[simprocAttr,↓I,zp,zr,Tryz.results110];simp only[within,cu];by_cases h1:-1073741824<=n<;>by_cases h2:n<=1073741823<;>simp[h1,h2]
def bh(i:bI):Int×Bool :=
 if i.op=0 then(0,true)
 else if(1<=i.op∧i.op<=7)∨i.op=16∨i.op=18∨i.op=19∨i.op=21∨i.op=23 then(2,true)
 else if i.op=20 then(3,true)
 else if i.op=10∨i.op=11∨i.op=12∨i.op=15∨i.op=17∨i.op=24 then(1,true)
 else if i.op=8∨i.op=9∨i.op=13∨i.op=14 then(-1,true)
 else if i.op=22 then(i.n,decide (i.n=2∨i.n=4))
 else(0,false)
def cA(i:bI):Bool :=
 if i.op=0 then decide (cu i.n)
 else if i.op=8 then within i.n 0 255
 else if i.op=11 then within i.n 0 15
 else if i.op=9∨i.op=13 then within i.n 0 255
 else if i.op=23 then decide (i.n=1∨i.n=2∨i.n=3)
 else if i.op=24 then within i.n 0 3
 else if i.op=22 then true
 else decide (i.n=0)
theorem C4(i:bI)(gz:i.op=0):bw Tryz.prog 107 [i.enc] (.cN [aI (bh i).1,.v (.bool (bh i).2)]):=by
 have hr:bh i=(0,true):=by
  unfold bh;rw[if_pos (by omega)]
 rw[hr];refine zf true 0 Tryz.func107 Tryz.ntmps107 ?_;dsimp only[Tmp,TypeId,slotsOf];refine az (ai ?_);refine bS (ai ?_);refine ah ?_;refine az (ai ?_);apply aF rfl<;>intro h
 ·refine az (ai ?_);refine ak ?_;simp -dsimp only[simprocAttr,↓I,zp,zr,Tryz.results107];simp[av,aa.upto]
 exact af h (by omega)
theorem C5(i:bI)(gz:(1<=i.op∧i.op<=7)∨i.op=16∨i.op=18∨i.op=19∨i.op=21∨i.op=23):bw Tryz.prog 107 [i.enc] (.cN [aI (bh i).1,.v (.bool (bh i).2)]):=by
 have hr:bh i=(2,true):=by
  unfold bh;rw[if_neg (by omega),if_pos (by omega)]
 rw[hr];refine zf true 0 Tryz.func107 Tryz.ntmps107 ?_;dsimp only[Tmp,TypeId,slotsOf];refine az (ai ?_);refine bS (ai ?_);refine ah ?_;refine az (ai ?_);apply aF rfl<;>intro h
 ·exact ab h (by omega)
 refine bS (ai ?_);refine jV (⟨47,[(1,.mp 0 0),(2,aI 0),(3,.v (.bool false)),(5,aI i.op),(8,.v (.bool true))],[.cells [aI i.to,aI i.op,aI i.n,bp i.args]]⟩) ?_ ?_
 ·apply aF rfl<;>intro h
  ·refine bc ?_;show bn _ _;refine zq rfl ?_ ?_;simp -dsimp only[simprocAttr,↓I,zp,zc]
   ·exact Sub.of_eq (by rw[h])
   rfl
  refine az (ai ?_);apply aF rfl<;>intro h
  ·refine bc ?_;show bn _ _;refine zq rfl ?_ ?_;simp -dsimp only[simprocAttr,↓I,zp,zc]
   ·exact Sub.of_eq (by rw[h])
   rfl
  refine az (ai ?_);apply aF rfl<;>intro h
  ·refine bc ?_;show bn _ _;refine zq rfl ?_ ?_;simp -dsimp only[simprocAttr,↓I,zp,zc]
   ·exact Sub.of_eq (by rw[h])
   rfl
  refine az (ai ?_);apply aF rfl<;>intro h
  ·refine bc ?_;show bn _ _;refine zq rfl ?_ ?_;simp -dsimp only[simprocAttr,↓I,zp,zc]
   ·exact Sub.of_eq (by rw[h])
   rfl
  refine az (ai ?_);apply aF rfl<;>intro h
  ·refine bc ?_;show bn _ _;refine zq rfl ?_ ?_;simp -dsimp only[simprocAttr,↓I,zp,zc]
   ·exact Sub.of_eq (by rw[h])
   rfl
  refine az (ai ?_);apply aF rfl<;>intro h
  ·refine bc ?_;show bn _ _;refine zq rfl ?_ ?_;simp -dsimp only[simprocAttr,↓I,zp,zc]
   ·exact Sub.of_eq (by rw[h])
   rfl
  refine az (ai ?_);apply aF rfl<;>intro h
  ·refine bc ?_;show bn _ _;refine zq rfl ?_ ?_;simp -dsimp only[simprocAttr,↓I,zp,zc]
   ·exact Sub.of_eq (by rw[h])
   rfl
  refine az (ai ?_);apply aF rfl<;>intro h
  ·refine bc ?_;show bn _ _;refine zq rfl ?_ ?_;simp -dsimp only[simprocAttr,↓I,zp,zc]
   ·exact Sub.of_eq (by rw[h])
   rfl
  refine az (ai ?_);apply aF rfl<;>intro h
  ·refine bc ?_;show bn _ _;refine zq rfl ?_ ?_;simp -dsimp only[simprocAttr,↓I,zp,zc]
   ·exact Sub.of_eq (by rw[h])
   rfl
  refine az (ai ?_);apply aF rfl<;>intro h
  ·refine bc ?_;show bn _ _;refine zq rfl ?_ ?_;simp -dsimp only[simprocAttr,↓I,zp,zc]
   ·exact Sub.of_eq (by rw[h])
   rfl
  refine az (ai ?_);apply aF rfl<;>intro h
  ·refine bc ?_;show bn _ _;refine zq rfl ?_ ?_;simp -dsimp only[simprocAttr,↓I,zp,zc]
   ·exact Sub.of_eq (by rw[h])
   rfl
  refine dA ?_;refine aY ?_;show bn _ _;refine zq rfl ?_ ?_;simp -dsimp only[simprocAttr,↓I,zp,zc]
  ·exact Sub.of_eq (by rw[decide_eq_true (show i.op=23 by simp only[decide_eq_false_iff_not]at *;omega)])
  rfl
 refine dS rfl ?_;refine az (ai ?_);refine ak ?_;simp -dsimp only[simprocAttr,↓I,zp,zr,Tryz.results107];simp[av,aa.upto]
theorem C6(i:bI)(gz:i.op=20):bw Tryz.prog 107 [i.enc] (.cN [aI (bh i).1,.v (.bool (bh i).2)]):=by
 have hr:bh i=(3,true):=by
  unfold bh;rw[if_neg (by omega),if_neg (by omega),if_pos (by omega)]
 rw[hr];refine zf true 0 Tryz.func107 Tryz.ntmps107 ?_;dsimp only[Tmp,TypeId,slotsOf];refine az (ai ?_);refine bS (ai ?_);refine ah ?_;refine az (ai ?_);apply aF rfl<;>intro h
 ·exact ab h (by omega)
 refine bS (ai ?_);apply aF rfl<;>intro h
 ·exact ab h (by omega)
 refine az (ai ?_);apply aF rfl<;>intro h
 ·exact ab h (by omega)
 refine az (ai ?_);apply aF rfl<;>intro h
 ·exact ab h (by omega)
 refine az (ai ?_);apply aF rfl<;>intro h
 ·exact ab h (by omega)
 refine az (ai ?_);apply aF rfl<;>intro h
 ·exact ab h (by omega)
 refine az (ai ?_);apply aF rfl<;>intro h
 ·exact ab h (by omega)
 refine az (ai ?_);apply aF rfl<;>intro h
 ·exact ab h (by omega)
 refine az (ai ?_);apply aF rfl<;>intro h
 ·exact ab h (by omega)
 refine az (ai ?_);apply aF rfl<;>intro h
 ·exact ab h (by omega)
 refine az (ai ?_);apply aF rfl<;>intro h
 ·exact ab h (by omega)
 refine az (ai ?_);apply aF rfl<;>intro h
 ·exact ab h (by omega)
 refine dA (ai ?_);apply aF rfl<;>intro h
 ·exact ab h (by omega)
 refine az (ai ?_);apply aF rfl<;>intro h
 ·refine az (ai ?_);refine ak ?_;simp -dsimp only[simprocAttr,↓I,zp,zr,Tryz.results107];simp[av,aa.upto]
 exact af h (by omega)
theorem C7(i:bI)(gz:i.op=10∨i.op=11∨i.op=12∨i.op=15∨i.op=17∨i.op=24):bw Tryz.prog 107 [i.enc] (.cN [aI (bh i).1,.v (.bool (bh i).2)]):=by
 have hr:bh i=(1,true):=by
  unfold bh;rw[if_neg (by omega),if_neg (by omega),if_neg (by omega),if_pos (by omega)]
 rw[hr];refine zf true 0 Tryz.func107 Tryz.ntmps107 ?_;dsimp only[Tmp,TypeId,slotsOf];refine az (ai ?_);refine bS (ai ?_);refine ah ?_;refine az (ai ?_);apply aF rfl<;>intro h
 ·exact ab h (by omega)
 refine bS (ai ?_);apply aF rfl<;>intro h
 ·exact ab h (by omega)
 refine az (ai ?_);apply aF rfl<;>intro h
 ·exact ab h (by omega)
 refine az (ai ?_);apply aF rfl<;>intro h
 ·exact ab h (by omega)
 refine az (ai ?_);apply aF rfl<;>intro h
 ·exact ab h (by omega)
 refine az (ai ?_);apply aF rfl<;>intro h
 ·exact ab h (by omega)
 refine az (ai ?_);apply aF rfl<;>intro h
 ·exact ab h (by omega)
 refine az (ai ?_);apply aF rfl<;>intro h
 ·exact ab h (by omega)
 refine az (ai ?_);apply aF rfl<;>intro h
 ·exact ab h (by omega)
 refine az (ai ?_);apply aF rfl<;>intro h
 ·exact ab h (by omega)
 refine az (ai ?_);apply aF rfl<;>intro h
 ·exact ab h (by omega)
 refine az (ai ?_);apply aF rfl<;>intro h
 ·exact ab h (by omega)
 refine dA (ai ?_);apply aF rfl<;>intro h
 ·exact ab h (by omega)
 refine az (ai ?_);apply aF rfl<;>intro h
 ·exact ab h (by omega)
 refine bS (ai ?_);refine jV (⟨47,[(1,.mp 0 0),(2,aI 0),(3,.v (.bool false)),(5,aI i.op),(23,.v (.bool true))],[.cells [aI i.to,aI i.op,aI i.n,bp i.args]]⟩) ?_ ?_
 ·apply aF rfl<;>intro h
  ·refine bc ?_;show bn _ _;refine zq rfl ?_ ?_;simp -dsimp only[simprocAttr,↓I,zp,zc]
   ·exact Sub.of_eq (by rw[h])
   rfl
  refine az (ai ?_);apply aF rfl<;>intro h
  ·refine bc ?_;show bn _ _;refine zq rfl ?_ ?_;simp -dsimp only[simprocAttr,↓I,zp,zc]
   ·exact Sub.of_eq (by rw[h])
   rfl
  refine az (ai ?_);apply aF rfl<;>intro h
  ·refine bc ?_;show bn _ _;refine zq rfl ?_ ?_;simp -dsimp only[simprocAttr,↓I,zp,zc]
   ·exact Sub.of_eq (by rw[h])
   rfl
  refine az (ai ?_);apply aF rfl<;>intro h
  ·refine bc ?_;show bn _ _;refine zq rfl ?_ ?_;simp -dsimp only[simprocAttr,↓I,zp,zc]
   ·exact Sub.of_eq (by rw[h])
   rfl
  refine az (ai ?_);apply aF rfl<;>intro h
  ·refine bc ?_;show bn _ _;refine zq rfl ?_ ?_;simp -dsimp only[simprocAttr,↓I,zp,zc]
   ·exact Sub.of_eq (by rw[h])
   rfl
  refine dA ?_;refine aY ?_;show bn _ _;refine zq rfl ?_ ?_;simp -dsimp only[simprocAttr,↓I,zp,zc]
  ·exact Sub.of_eq (by rw[decide_eq_true (show i.op=24 by simp only[decide_eq_false_iff_not]at *;omega)])
  rfl
 refine dS rfl ?_;refine az (ai ?_);refine ak ?_;simp -dsimp only[simprocAttr,↓I,zp,zr,Tryz.results107];simp[av,aa.upto]
theorem C8(i:bI)(gz:i.op=8∨i.op=9∨i.op=13∨i.op=14):bw Tryz.prog 107 [i.enc] (.cN [aI (bh i).1,.v (.bool (bh i).2)]):=by
 have hr:bh i=(-1,true):=by
  unfold bh;rw[if_neg (by omega),if_neg (by omega),if_neg (by omega),if_neg (by omega),if_pos (by omega)]
 rw[hr];refine zf true 0 Tryz.func107 Tryz.ntmps107 ?_;dsimp only[Tmp,TypeId,slotsOf];refine az (ai ?_);refine bS (ai ?_);refine ah ?_;refine az (ai ?_);apply aF rfl<;>intro h
 ·exact ab h (by omega)
 refine bS (ai ?_);apply aF rfl<;>intro h
 ·exact ab h (by omega)
 refine az (ai ?_);apply aF rfl<;>intro h
 ·exact ab h (by omega)
 refine az (ai ?_);apply aF rfl<;>intro h
 ·exact ab h (by omega)
 refine az (ai ?_);apply aF rfl<;>intro h
 ·exact ab h (by omega)
 refine az (ai ?_);apply aF rfl<;>intro h
 ·exact ab h (by omega)
 refine az (ai ?_);apply aF rfl<;>intro h
 ·exact ab h (by omega)
 refine az (ai ?_);apply aF rfl<;>intro h
 ·exact ab h (by omega)
 refine az (ai ?_);apply aF rfl<;>intro h
 ·exact ab h (by omega)
 refine az (ai ?_);apply aF rfl<;>intro h
 ·exact ab h (by omega)
 refine az (ai ?_);apply aF rfl<;>intro h
 ·exact ab h (by omega)
 refine az (ai ?_);apply aF rfl<;>intro h
 ·exact ab h (by omega)
 refine dA (ai ?_);apply aF rfl<;>intro h
 ·exact ab h (by omega)
 refine az (ai ?_);apply aF rfl<;>intro h
 ·exact ab h (by omega)
 refine bS (ai ?_);apply aF rfl<;>intro h
 ·exact ab h (by omega)
 refine az (ai ?_);apply aF rfl<;>intro h
 ·exact ab h (by omega)
 refine az (ai ?_);apply aF rfl<;>intro h
 ·exact ab h (by omega)
 refine az (ai ?_);apply aF rfl<;>intro h
 ·exact ab h (by omega)
 refine az (ai ?_);apply aF rfl<;>intro h
 ·exact ab h (by omega)
 refine dA (ai ?_);apply aF rfl<;>intro h
 ·exact ab h (by omega)
 refine bS (ai ?_);refine jV (⟨47,[(1,.mp 0 0),(2,aI 0),(3,.v (.bool false)),(5,aI i.op),(30,.v (.bool true))],[.cells [aI i.to,aI i.op,aI i.n,bp i.args]]⟩) ?_ ?_
 ·apply aF rfl<;>intro h
  ·refine bc ?_;show bn _ _;refine zq rfl ?_ ?_;simp -dsimp only[simprocAttr,↓I,zp,zc]
   ·exact Sub.of_eq (by rw[h])
   rfl
  refine az (ai ?_);apply aF rfl<;>intro h
  ·refine bc ?_;show bn _ _;refine zq rfl ?_ ?_;simp -dsimp only[simprocAttr,↓I,zp,zc]
   ·exact Sub.of_eq (by rw[h])
   rfl
  refine az (ai ?_);apply aF rfl<;>intro h
  ·refine bc ?_;show bn _ _;refine zq rfl ?_ ?_;simp -dsimp only[simprocAttr,↓I,zp,zc]
   ·exact Sub.of_eq (by rw[h])
   rfl
  refine dA ?_;refine aY ?_;show bn _ _;refine zq rfl ?_ ?_;simp -dsimp only[simprocAttr,↓I,zp,zc]
  ·exact Sub.of_eq (by rw[decide_eq_true (show i.op=14 by simp only[decide_eq_false_iff_not]at *;omega)])
  rfl
 refine dS rfl ?_;refine az (ai ?_);refine ak ?_;simp -dsimp only[simprocAttr,↓I,zp,zr,Tryz.results107];simp[av,aa.upto]
theorem C9(i:bI)(gz:i.op=22):bw Tryz.prog 107 [i.enc] (.cN [aI (bh i).1,.v (.bool (bh i).2)]):=by
 have hr:bh i=(i.n,decide (i.n=2∨i.n=4)):=by
  unfold bh;rw[if_neg (by omega),if_neg (by omega),if_neg (by omega),if_neg (by omega),if_neg (by omega),if_pos (by omega)]
 rw[hr];by_cases h2:i.n=2
 ·have lA:decide (i.n=2)=true:=decide_eq_true h2;refine zf true 0 Tryz.func107 Tryz.ntmps107 ?_;dsimp only[Tmp,TypeId,slotsOf];refine az (ai ?_);refine bS (ai ?_);refine ah ?_;refine az (ai ?_);apply aF rfl<;>intro h
  ·exact ab h (by omega)
  refine bS (ai ?_);apply aF rfl<;>intro h
  ·exact ab h (by omega)
  refine az (ai ?_);apply aF rfl<;>intro h
  ·exact ab h (by omega)
  refine az (ai ?_);apply aF rfl<;>intro h
  ·exact ab h (by omega)
  refine az (ai ?_);apply aF rfl<;>intro h
  ·exact ab h (by omega)
  refine az (ai ?_);apply aF rfl<;>intro h
  ·exact ab h (by omega)
  refine az (ai ?_);apply aF rfl<;>intro h
  ·exact ab h (by omega)
  refine az (ai ?_);apply aF rfl<;>intro h
  ·exact ab h (by omega)
  refine az (ai ?_);apply aF rfl<;>intro h
  ·exact ab h (by omega)
  refine az (ai ?_);apply aF rfl<;>intro h
  ·exact ab h (by omega)
  refine az (ai ?_);apply aF rfl<;>intro h
  ·exact ab h (by omega)
  refine az (ai ?_);apply aF rfl<;>intro h
  ·exact ab h (by omega)
  refine dA (ai ?_);apply aF rfl<;>intro h
  ·exact ab h (by omega)
  refine az (ai ?_);apply aF rfl<;>intro h
  ·exact ab h (by omega)
  refine bS (ai ?_);apply aF rfl<;>intro h
  ·exact ab h (by omega)
  refine az (ai ?_);apply aF rfl<;>intro h
  ·exact ab h (by omega)
  refine az (ai ?_);apply aF rfl<;>intro h
  ·exact ab h (by omega)
  refine az (ai ?_);apply aF rfl<;>intro h
  ·exact ab h (by omega)
  refine az (ai ?_);apply aF rfl<;>intro h
  ·exact ab h (by omega)
  refine dA (ai ?_);apply aF rfl<;>intro h
  ·exact ab h (by omega)
  refine bS (ai ?_);apply aF rfl<;>intro h
  ·exact ab h (by omega)
  refine az (ai ?_);apply aF rfl<;>intro h
  ·exact ab h (by omega)
  refine az (ai ?_);apply aF rfl<;>intro h
  ·exact ab h (by omega)
  refine dA (ai ?_);apply aF rfl<;>intro h
  ·exact ab h (by omega)
  refine az (ai ?_);apply aF rfl<;>intro h
  ·refine aG ?_;simp -dsimp only[simprocAttr,↓I,zp,lA];refine⟨ob (by kernel_rfl),?_⟩;refine ai ?_;refine ak ?_;simp -dsimp only[simprocAttr,↓I,zp,zr,Tryz.results107];simp[av,aa.upto,h2]
  exact af h (by omega)
 have lA:decide (i.n=2)=false:=decide_eq_false h2;by_cases h4:i.n=4
 ·have K5:decide (i.n=4)=true:=decide_eq_true h4;refine zf true 0 Tryz.func107 Tryz.ntmps107 ?_;dsimp only[Tmp,TypeId,slotsOf];refine az (ai ?_);refine bS (ai ?_);refine ah ?_;refine az (ai ?_);apply aF rfl<;>intro h
  ·exact ab h (by omega)
  refine bS (ai ?_);apply aF rfl<;>intro h
  ·exact ab h (by omega)
  refine az (ai ?_);apply aF rfl<;>intro h
  ·exact ab h (by omega)
  refine az (ai ?_);apply aF rfl<;>intro h
  ·exact ab h (by omega)
  refine az (ai ?_);apply aF rfl<;>intro h
  ·exact ab h (by omega)
  refine az (ai ?_);apply aF rfl<;>intro h
  ·exact ab h (by omega)
  refine az (ai ?_);apply aF rfl<;>intro h
  ·exact ab h (by omega)
  refine az (ai ?_);apply aF rfl<;>intro h
  ·exact ab h (by omega)
  refine az (ai ?_);apply aF rfl<;>intro h
  ·exact ab h (by omega)
  refine az (ai ?_);apply aF rfl<;>intro h
  ·exact ab h (by omega)
  refine az (ai ?_);apply aF rfl<;>intro h
  ·exact ab h (by omega)
  refine az (ai ?_);apply aF rfl<;>intro h
  ·exact ab h (by omega)
  refine dA (ai ?_);apply aF rfl<;>intro h
  ·exact ab h (by omega)
  refine az (ai ?_);apply aF rfl<;>intro h
  ·exact ab h (by omega)
  refine bS (ai ?_);apply aF rfl<;>intro h
  ·exact ab h (by omega)
  refine az (ai ?_);apply aF rfl<;>intro h
  ·exact ab h (by omega)
  refine az (ai ?_);apply aF rfl<;>intro h
  ·exact ab h (by omega)
  refine az (ai ?_);apply aF rfl<;>intro h
  ·exact ab h (by omega)
  refine az (ai ?_);apply aF rfl<;>intro h
  ·exact ab h (by omega)
  refine dA (ai ?_);apply aF rfl<;>intro h
  ·exact ab h (by omega)
  refine bS (ai ?_);apply aF rfl<;>intro h
  ·exact ab h (by omega)
  refine az (ai ?_);apply aF rfl<;>intro h
  ·exact ab h (by omega)
  refine az (ai ?_);apply aF rfl<;>intro h
  ·exact ab h (by omega)
  refine dA (ai ?_);apply aF rfl<;>intro h
  ·exact ab h (by omega)
  refine az (ai ?_);apply aF rfl<;>intro h
  ·refine aG ?_;simp -dsimp only[simprocAttr,↓I,zp,lA,K5];refine⟨ob (by kernel_rfl),?_⟩;refine ai ?_;refine ak ?_;simp -dsimp only[simprocAttr,↓I,zp,zr,Tryz.results107];simp[av,aa.upto,h4]
  exact af h (by omega)
 have K5:decide (i.n=4)=false:=decide_eq_false h4;refine zf true 0 Tryz.func107 Tryz.ntmps107 ?_;dsimp only[Tmp,TypeId,slotsOf];refine az (ai ?_);refine bS (ai ?_);refine ah ?_;refine az (ai ?_);apply aF rfl<;>intro h
 ·exact ab h (by omega)
 refine bS (ai ?_);apply aF rfl<;>intro h
 ·exact ab h (by omega)
 refine az (ai ?_);apply aF rfl<;>intro h
 ·exact ab h (by omega)
 refine az (ai ?_);apply aF rfl<;>intro h
 ·exact ab h (by omega)
 refine az (ai ?_);apply aF rfl<;>intro h
 ·exact ab h (by omega)
 refine az (ai ?_);apply aF rfl<;>intro h
 ·exact ab h (by omega)
 refine az (ai ?_);apply aF rfl<;>intro h
 ·exact ab h (by omega)
 refine az (ai ?_);apply aF rfl<;>intro h
 ·exact ab h (by omega)
 refine az (ai ?_);apply aF rfl<;>intro h
 ·exact ab h (by omega)
 refine az (ai ?_);apply aF rfl<;>intro h
 ·exact ab h (by omega)
 refine az (ai ?_);apply aF rfl<;>intro h
 ·exact ab h (by omega)
 refine az (ai ?_);apply aF rfl<;>intro h
 ·exact ab h (by omega)
 refine dA (ai ?_);apply aF rfl<;>intro h
 ·exact ab h (by omega)
 refine az (ai ?_);apply aF rfl<;>intro h
 ·exact ab h (by omega)
 refine bS (ai ?_);apply aF rfl<;>intro h
 ·exact ab h (by omega)
 refine az (ai ?_);apply aF rfl<;>intro h
 ·exact ab h (by omega)
 refine az (ai ?_);apply aF rfl<;>intro h
 ·exact ab h (by omega)
 refine az (ai ?_);apply aF rfl<;>intro h
 ·exact ab h (by omega)
 refine az (ai ?_);apply aF rfl<;>intro h
 ·exact ab h (by omega)
 refine dA (ai ?_);apply aF rfl<;>intro h
 ·exact ab h (by omega)
 refine bS (ai ?_);apply aF rfl<;>intro h
 ·exact ab h (by omega)
 refine az (ai ?_);apply aF rfl<;>intro h
 ·exact ab h (by omega)
 refine az (ai ?_);apply aF rfl<;>intro h
 ·exact ab h (by omega)
 refine dA (ai ?_);apply aF rfl<;>intro h
 ·exact ab h (by omega)
 refine az (ai ?_);apply aF rfl<;>intro h
 ·refine aG ?_;simp -dsimp only[simprocAttr,↓I,zp,lA,K5];refine⟨ob (by kernel_rfl),?_⟩;refine ai ?_;refine ak ?_;simp -dsimp only[simprocAttr,↓I,zp,zr,Tryz.results107];simp[av,aa.upto,h2,h4]
 exact af h (by omega)
theorem wX(i:bI):bw Tryz.prog 107 [i.enc] (.cN [aI (bh i).1,.v (.bool (bh i).2)]):=by
 by_cases h0:i.op=0
 ·exact C4 i h0
 by_cases h1:(1<=i.op∧i.op<=7)∨i.op=16∨i.op=18∨i.op=19∨i.op=21∨i.op=23
 ·exact C5 i h1
 by_cases h2:i.op=20
 ·exact C6 i h2
 by_cases h3:i.op=10∨i.op=11∨i.op=12∨i.op=15∨i.op=17∨i.op=24
 ·exact C7 i h3
 by_cases h4:i.op=8∨i.op=9∨i.op=13∨i.op=14
 ·exact C8 i h4
 by_cases h5:i.op=22
 ·exact C9 i h5
 have hr:bh i=(0,false):=by
  unfold bh;rw[if_neg (by omega),if_neg (by omega),if_neg (by omega),if_neg (by omega),if_neg (by omega),if_neg (by omega)]
 rw[hr];refine zf true 0 Tryz.func107 Tryz.ntmps107 ?_;dsimp only[Tmp,TypeId,slotsOf];refine az (ai ?_);refine bS (ai ?_);refine ah ?_;refine az (ai ?_);apply aF rfl<;>intro h
 ·exact ab h (by omega)
 refine bS (ai ?_);apply aF rfl<;>intro h
 ·exact ab h (by omega)
 refine az (ai ?_);apply aF rfl<;>intro h
 ·exact ab h (by omega)
 refine az (ai ?_);apply aF rfl<;>intro h
 ·exact ab h (by omega)
 refine az (ai ?_);apply aF rfl<;>intro h
 ·exact ab h (by omega)
 refine az (ai ?_);apply aF rfl<;>intro h
 ·exact ab h (by omega)
 refine az (ai ?_);apply aF rfl<;>intro h
 ·exact ab h (by omega)
 refine az (ai ?_);apply aF rfl<;>intro h
 ·exact ab h (by omega)
 refine az (ai ?_);apply aF rfl<;>intro h
 ·exact ab h (by omega)
 refine az (ai ?_);apply aF rfl<;>intro h
 ·exact ab h (by omega)
 refine az (ai ?_);apply aF rfl<;>intro h
 ·exact ab h (by omega)
 refine az (ai ?_);apply aF rfl<;>intro h
 ·exact ab h (by omega)
 refine dA (ai ?_);apply aF rfl<;>intro h
 ·exact ab h (by omega)
 refine az (ai ?_);apply aF rfl<;>intro h
 ·exact ab h (by omega)
 refine bS (ai ?_);apply aF rfl<;>intro h
 ·exact ab h (by omega)
 refine az (ai ?_);apply aF rfl<;>intro h
 ·exact ab h (by omega)
 refine az (ai ?_);apply aF rfl<;>intro h
 ·exact ab h (by omega)
 refine az (ai ?_);apply aF rfl<;>intro h
 ·exact ab h (by omega)
 refine az (ai ?_);apply aF rfl<;>intro h
 ·exact ab h (by omega)
 refine dA (ai ?_);apply aF rfl<;>intro h
 ·exact ab h (by omega)
 refine bS (ai ?_);apply aF rfl<;>intro h
 ·exact ab h (by omega)
 refine az (ai ?_);apply aF rfl<;>intro h
 ·exact ab h (by omega)
 refine az (ai ?_);apply aF rfl<;>intro h
 ·exact ab h (by omega)
 refine dA (ai ?_);apply aF rfl<;>intro h
 ·exact ab h (by omega)
 refine az (ai ?_);apply aF rfl<;>intro h
 ·exact ab h (by omega)
 refine k7 ?_;refine az (ai ?_);refine ak ?_;simp -dsimp only[simprocAttr,↓I,zp,zr,Tryz.results107];simp[av,aa.upto]
theorem Ig(i:bI)(gz:i.op=0):bw Tryz.prog 108 [i.enc] (.v (.bool (cA i))):=by
 have hr:cA i=decide (cu i.n):=by
  unfold cA;rw[if_pos (by omega)]
 rw[hr];refine zf true 0 Tryz.func108 Tryz.ntmps108 ?_;dsimp only[Tmp,TypeId,slotsOf];refine az (ai ?_);refine bS (ai ?_);refine ah ?_;refine az (ai ?_);apply aF rfl<;>intro h
 ·refine az ?_;refine zi (sD i.n) ?_;refine ai ?_;refine ak ?_;simp -dsimp only[simprocAttr,↓I,zp,zr,Tryz.results108]
 exact af h (by omega)
theorem Ih(i:bI)(gz:i.op=8):bw Tryz.prog 108 [i.enc] (.v (.bool (cA i))):=by
 have hr:cA i=within i.n 0 255:=by
  unfold cA;rw[if_neg (by omega),if_pos (by omega)]
 rw[hr];refine zf true 0 Tryz.func108 Tryz.ntmps108 ?_;dsimp only[Tmp,TypeId,slotsOf];refine az (ai ?_);refine bS (ai ?_);refine ah ?_;refine az (ai ?_);apply aF rfl<;>intro h
 ·exact ab h (by omega)
 refine az (ai ?_);apply aF rfl<;>intro h
 ·refine az ?_;refine zi (dX i.n 0 255) ?_;refine ai ?_;refine ak ?_;simp -dsimp only[simprocAttr,↓I,zp,zr,Tryz.results108]
 exact af h (by omega)
theorem Ii(i:bI)(gz:i.op=11):bw Tryz.prog 108 [i.enc] (.v (.bool (cA i))):=by
 have hr:cA i=within i.n 0 15:=by
  unfold cA;rw[if_neg (by omega),if_neg (by omega),if_pos (by omega)]
 rw[hr];refine zf true 0 Tryz.func108 Tryz.ntmps108 ?_;dsimp only[Tmp,TypeId,slotsOf];refine az (ai ?_);refine bS (ai ?_);refine ah ?_;refine az (ai ?_);apply aF rfl<;>intro h
 ·exact ab h (by omega)
 refine az (ai ?_);apply aF rfl<;>intro h
 ·exact ab h (by omega)
 refine az (ai ?_);apply aF rfl<;>intro h
 ·refine az ?_;refine zi (dX i.n 0 15) ?_;refine ai ?_;refine ak ?_;simp -dsimp only[simprocAttr,↓I,zp,zr,Tryz.results108]
 exact af h (by omega)
theorem Ij(i:bI)(gz:i.op=9∨i.op=13):bw Tryz.prog 108 [i.enc] (.v (.bool (cA i))):=by
 have hr:cA i=within i.n 0 255:=by
  unfold cA;rw[if_neg (by omega),if_neg (by omega),if_neg (by omega),if_pos (by omega)]
 rw[hr];refine zf true 0 Tryz.func108 Tryz.ntmps108 ?_;dsimp only[Tmp,TypeId,slotsOf];refine az (ai ?_);refine bS (ai ?_);refine ah ?_;refine az (ai ?_);apply aF rfl<;>intro h
 ·exact ab h (by omega)
 refine az (ai ?_);apply aF rfl<;>intro h
 ·exact ab h (by omega)
 refine az (ai ?_);apply aF rfl<;>intro h
 ·exact ab h (by omega)
 refine bS (ai ?_);refine jV (⟨51,[(1,.mp 0 0),(2,.v (.bool false)),(4,aI i.op),(20,.v (.bool true))],[.cells [aI i.to,aI i.op,aI i.n,bp i.args]]⟩) ?_ ?_
 ·apply aF rfl<;>intro h
  ·refine bc ?_;show bn _ _;refine zq rfl ?_ ?_;simp -dsimp only[simprocAttr,↓I,zp,zc]
   ·exact Sub.of_eq (by rw[h])
   rfl
  refine dA ?_;refine aY ?_;show bn _ _;refine zq rfl ?_ ?_;simp -dsimp only[simprocAttr,↓I,zp,zc]
  ·exact Sub.of_eq (by rw[decide_eq_true (show i.op=13 by simp only[decide_eq_false_iff_not]at *;omega)])
  rfl
 refine dS rfl ?_;refine az ?_;refine zi (dX i.n 0 255) ?_;refine ai ?_;refine ak ?_;simp -dsimp only[simprocAttr,↓I,zp,zr,Tryz.results108]
theorem Ik(i:bI)(gz:i.op=23):bw Tryz.prog 108 [i.enc] (.v (.bool (cA i))):=by
 have hr:cA i=decide (i.n=1∨i.n=2∨i.n=3):=by
  unfold cA;rw[if_neg (by omega),if_neg (by omega),if_neg (by omega),if_neg (by omega),if_pos (by omega)]
 rw[hr];by_cases h1:i.n=1
 ·have pN:decide (i.n=1)=true:=decide_eq_true h1;refine zf true 0 Tryz.func108 Tryz.ntmps108 ?_;dsimp only[Tmp,TypeId,slotsOf];refine az (ai ?_);refine bS (ai ?_);refine ah ?_;refine az (ai ?_);apply aF rfl<;>intro h
  ·exact ab h (by omega)
  refine az (ai ?_);apply aF rfl<;>intro h
  ·exact ab h (by omega)
  refine az (ai ?_);apply aF rfl<;>intro h
  ·exact ab h (by omega)
  refine bS (ai ?_);apply aF rfl<;>intro h
  ·exact ab h (by omega)
  refine dA (ai ?_);apply aF rfl<;>intro h
  ·exact ab h (by omega)
  refine az (ai ?_);apply aF rfl<;>intro h
  ·refine aG ?_;simp -dsimp only[simprocAttr,↓I,zp,pN];refine ai ?_;refine ak ?_;simp -dsimp only[simprocAttr,↓I,zp,zr,Tryz.results108];simp[h1]
  exact af h (by omega)
 have pN:decide (i.n=1)=false:=decide_eq_false h1;by_cases h2:i.n=2
 ·have lA:decide (i.n=2)=true:=decide_eq_true h2;refine zf true 0 Tryz.func108 Tryz.ntmps108 ?_;dsimp only[Tmp,TypeId,slotsOf];refine az (ai ?_);refine bS (ai ?_);refine ah ?_;refine az (ai ?_);apply aF rfl<;>intro h
  ·exact ab h (by omega)
  refine az (ai ?_);apply aF rfl<;>intro h
  ·exact ab h (by omega)
  refine az (ai ?_);apply aF rfl<;>intro h
  ·exact ab h (by omega)
  refine bS (ai ?_);apply aF rfl<;>intro h
  ·exact ab h (by omega)
  refine dA (ai ?_);apply aF rfl<;>intro h
  ·exact ab h (by omega)
  refine az (ai ?_);apply aF rfl<;>intro h
  ·refine aG ?_;simp -dsimp only[simprocAttr,↓I,zp,pN,lA];refine ai ?_;refine ak ?_;simp -dsimp only[simprocAttr,↓I,zp,zr,Tryz.results108];simp[h2]
  exact af h (by omega)
 have lA:decide (i.n=2)=false:=decide_eq_false h2;refine zf true 0 Tryz.func108 Tryz.ntmps108 ?_;dsimp only[Tmp,TypeId,slotsOf];refine az (ai ?_);refine bS (ai ?_);refine ah ?_;refine az (ai ?_);apply aF rfl<;>intro h
 ·exact ab h (by omega)
 refine az (ai ?_);apply aF rfl<;>intro h
 ·exact ab h (by omega)
 refine az (ai ?_);apply aF rfl<;>intro h
 ·exact ab h (by omega)
 refine bS (ai ?_);apply aF rfl<;>intro h
 ·exact ab h (by omega)
 refine dA (ai ?_);apply aF rfl<;>intro h
 ·exact ab h (by omega)
 refine az (ai ?_);apply aF rfl<;>intro h
 ·refine aG ?_;simp -dsimp only[simprocAttr,↓I,zp,pN,lA];refine ai ?_;refine ak ?_;simp -dsimp only[simprocAttr,↓I,zp,zr,Tryz.results108];simp[h1,h2]
 exact af h (by omega)
theorem Il(i:bI)(gz:i.op=24):bw Tryz.prog 108 [i.enc] (.v (.bool (cA i))):=by
 have hr:cA i=within i.n 0 3:=by
  unfold cA;rw[if_neg (by omega),if_neg (by omega),if_neg (by omega),if_neg (by omega),if_neg (by omega),if_pos (by omega)]
 rw[hr];refine zf true 0 Tryz.func108 Tryz.ntmps108 ?_;dsimp only[Tmp,TypeId,slotsOf];refine az (ai ?_);refine bS (ai ?_);refine ah ?_;refine az (ai ?_);apply aF rfl<;>intro h
 ·exact ab h (by omega)
 refine az (ai ?_);apply aF rfl<;>intro h
 ·exact ab h (by omega)
 refine az (ai ?_);apply aF rfl<;>intro h
 ·exact ab h (by omega)
 refine bS (ai ?_);apply aF rfl<;>intro h
 ·exact ab h (by omega)
 refine dA (ai ?_);apply aF rfl<;>intro h
 ·exact ab h (by omega)
 refine az (ai ?_);apply aF rfl<;>intro h
 ·exact ab h (by omega)
 refine az (ai ?_);apply aF rfl<;>intro h
 ·refine az ?_;refine zi (dX i.n 0 3) ?_;refine ai ?_;refine ak ?_;simp -dsimp only[simprocAttr,↓I,zp,zr,Tryz.results108]
 exact af h (by omega)
theorem Im(i:bI)(gz:i.op=22):bw Tryz.prog 108 [i.enc] (.v (.bool (cA i))):=by
 have hr:cA i=true:=by
  unfold cA;rw[if_neg (by omega),if_neg (by omega),if_neg (by omega),if_neg (by omega),if_neg (by omega),if_neg (by omega),if_pos (by omega)]
 rw[hr];refine zf true 0 Tryz.func108 Tryz.ntmps108 ?_;dsimp only[Tmp,TypeId,slotsOf];refine az (ai ?_);refine bS (ai ?_);refine ah ?_;refine az (ai ?_);apply aF rfl<;>intro h
 ·exact ab h (by omega)
 refine az (ai ?_);apply aF rfl<;>intro h
 ·exact ab h (by omega)
 refine az (ai ?_);apply aF rfl<;>intro h
 ·exact ab h (by omega)
 refine bS (ai ?_);apply aF rfl<;>intro h
 ·exact ab h (by omega)
 refine dA (ai ?_);apply aF rfl<;>intro h
 ·exact ab h (by omega)
 refine az (ai ?_);apply aF rfl<;>intro h
 ·exact ab h (by omega)
 refine az (ai ?_);apply aF rfl<;>intro h
 ·exact ab h (by omega)
 refine az (ai ?_);apply aF rfl<;>intro h
 ·refine az (ai ?_);refine ak ?_;simp -dsimp only[simprocAttr,↓I,zp,zr,Tryz.results108]
 exact af h (by omega)
theorem A3(i:bI):bw Tryz.prog 108 [i.enc] (.v (.bool (cA i))):=by
 by_cases h0:i.op=0
 ·exact Ig i h0
 by_cases h1:i.op=8
 ·exact Ih i h1
 by_cases h2:i.op=11
 ·exact Ii i h2
 by_cases h3:i.op=9∨i.op=13
 ·exact Ij i h3
 by_cases h4:i.op=23
 ·exact Ik i h4
 by_cases h5:i.op=24
 ·exact Il i h5
 by_cases h6:i.op=22
 ·exact Im i h6
 have hr:cA i=decide (i.n=0):=by
  unfold cA;rw[if_neg (by omega),if_neg (by omega),if_neg (by omega),if_neg (by omega),if_neg (by omega),if_neg (by omega),if_neg (by omega)]
 rw[hr];refine zf true 0 Tryz.func108 Tryz.ntmps108 ?_;dsimp only[Tmp,TypeId,slotsOf];refine az (ai ?_);refine bS (ai ?_);refine ah ?_;refine az (ai ?_);apply aF rfl<;>intro h
 ·exact ab h (by omega)
 refine az (ai ?_);apply aF rfl<;>intro h
 ·exact ab h (by omega)
 refine az (ai ?_);apply aF rfl<;>intro h
 ·exact ab h (by omega)
 refine bS (ai ?_);apply aF rfl<;>intro h
 ·exact ab h (by omega)
 refine dA (ai ?_);apply aF rfl<;>intro h
 ·exact ab h (by omega)
 refine az (ai ?_);apply aF rfl<;>intro h
 ·exact ab h (by omega)
 refine az (ai ?_);apply aF rfl<;>intro h
 ·exact ab h (by omega)
 refine az (ai ?_);apply aF rfl<;>intro h
 ·exact ab h (by omega)
 refine k7 ?_;refine az (ai ?_);refine ak ?_;simp -dsimp only[simprocAttr,↓I,zp,zr,Tryz.results108]
def xm(i:bI)(many:Int)(known:Bool):Bool:=(!known ||(decide (0<=many)&&!decide ((i.args.length:Int)=many))) ||(decide (i.op=14)&&decide ((i.args.length:Int)=0))
def su(i:bI):Bool:=(decide (i.op=8) ||decide (i.op=9))&&decide ((16:Int)<i.args.length)
def xn(i:bI):Bool:=(decide (i.op=13) ||decide (i.op=14))&&decide ((6:Int)<i.args.length)
def fi(i:bI):Int:=if xm i (bh i).1 (bh i).2 then 3 else if su i ||xn i then 2 else if cA i then 0 else 4
theorem E6(i:bI):bw Tryz.prog 60 [i.enc] (aI (fi i)):=by
 have gz:=wX i;have Vo:=A3 i;unfold fi;generalize bh i=r at *;obtain⟨many,known⟩:=r;simp only at gz ⊢;generalize cA i=nb at *;refine zf true 0 Tryz.func60 Tryz.ntmps60 ?_;dsimp only[Tmp,TypeId,slotsOf];refine az (ai ?_);refine az ?_;refine zi gz ?_;refine ai ?_;refine aL (ah ?_);refine jb (⟨68,[(1,.mp 0 0),(2,aI 0),(10,.v (.bool (xm i many known)))],[.cells [aI i.to,aI i.op,aI i.n,bp i.args]]⟩) ?_ ?_
 ·cases known<;>cases hA:decide ((0:Int)<=many)<;>cases hB:decide ((i.args.length:Int)=many)<;>cases hC:decide (i.op=14)<;>cases hD:decide ((i.args.length:Int)=0)
  all_goals
   refine dw hT hm ?_;simp -dsimp only[simprocAttr,↓I,zp,hA,hB,hC,hD];refine aY ?_;show bn _ _;refine zq rfl ?_ ?_;simp -dsimp only[simprocAttr,↓I,zp,zc]
   ·exact Sub.of_eq (by unfold xm;rw[hA,hB,hC,hD];rfl)
   rfl
 cases Za:xm i many known
 ·refine cP rfl ?_;refine jb (⟨68,[(1,.mp 0 0),(2,aI 0),(35,.v (.bool (su i ||xn i)))],[.cells [aI i.to,aI i.op,aI i.n,bp i.args]]⟩) ?_ ?_
  ·refine jb (⟨68,[(1,.mp 0 0),(2,aI 0),(35,.v (.bool (su i)))],[.cells [aI i.to,aI i.op,aI i.n,bp i.args]]⟩) ?_ ?_
   ·cases hA:decide (i.op=8)<;>cases hB:decide (i.op=9)<;>cases hC:decide ((16:Int)<i.args.length)
    all_goals
     refine dw hT hm ?_;simp -dsimp only[simprocAttr,↓I,zp,hA,hB,hC];refine aY ?_;show bn _ _;refine zq rfl ?_ ?_;simp -dsimp only[simprocAttr,↓I,zp,zc]
     ·exact Sub.of_eq (by unfold su;rw[hA,hB,hC];rfl)
     rfl
   cases Zb:su i
   ·refine cP rfl ?_;cases hA:decide (i.op=13)<;>cases hB:decide (i.op=14)<;>cases hC:decide ((6:Int)<i.args.length)
    all_goals
     refine dw hT hm ?_;simp -dsimp only[simprocAttr,↓I,zp,hA,hB,hC];refine aY ?_;show bn _ _;refine zq rfl ?_ ?_;simp -dsimp only[simprocAttr,↓I,zp,zc]
     ·exact Sub.of_eq (by unfold xn;rw[hA,hB,hC];rfl)
     rfl
   refine dS rfl ?_;refine bc ?_;show bn _ _;refine zq rfl ?_ ?_;simp -dsimp only[simprocAttr,↓I,zp,zc]
   ·exact Sub.refl _
   rfl
  cases SB:(su i ||xn i)
  ·refine cP rfl ?_;refine az ?_;refine zi Vo ?_;refine ai ?_;cases Zf:nb
   ·refine dS rfl ?_;refine az (ai ?_);refine ak ?_;simp -dsimp only[simprocAttr,↓I,zp,zr,Tryz.results60]
   refine cP rfl ?_;refine k7 ?_;refine az (ai ?_);refine ak ?_;simp -dsimp only[simprocAttr,↓I,zp,zr,Tryz.results60]
  refine dS rfl ?_;refine az (ai ?_);refine ak ?_;simp -dsimp only[simprocAttr,↓I,zp,zr,Tryz.results60]
 refine dS rfl ?_;refine az (ai ?_);refine ak ?_;simp -dsimp only[simprocAttr,↓I,zp,zr,Tryz.results60]
theorem dF{O:List aq}{k:Nat}{y:aq}(h:O[k]?=some y)(x:aq):(O.set k x)[k]?=some x:=List.getElem?_set_self (ag h)
theorem bx{O:List aq}{n k:Nat}{cs ds:List aa}(h:∀o∈O,o.upto n)(hk:O[k]?=some (.cells cs))(hd:av n cs->av n ds):∀o∈O.set k (.cells ds),o.upto n :=
 bT h (hd (h _ (List.mem_of_getElem? hk)))
theorem cc{n:Nat}{u v:cL}{m p:Mach}(h:av n (aD u m))(hs:p.sid=m.sid):av n (aD v p):=by
 simp only[aD,av,aa.upto,ay,Func.aj,true_and,and_true]at h ⊢;rw[hs];exact h
theorem oL(m:Mach)(n:Int):(m.gn n).sid=m.sid:=by
 unfold Mach.gn;split<;>rfl
theorem vk{u:cL}{m:Mach}{O:List aq}(aW:∀o∈O,o.upto O.length)(h0:O[2]?=some (.cells (aD u m)))(n:Int)(h1:0<=m.left)(h2:m.left<=2 ^ 40)(h3:0<=n) :
  aK Tryz.prog 31 O [.mp 2 0,aI n] (fun r O'=>r=.cN []∧O'=O.set 2 (.cells (aD u (m.gn n)))):=by
 have hs:=dF h0;have nw:=bx aW h0 (ds:=aD u (m.gn n)) (fun h=>cc h (oL m n));have mL:=cM (O:=O) (k:=2) (x:=.cells (aD u (m.gn n)));unfold aD at h0;by_cases hc:m.left<n
 ·have hd:decide (m.left<n)=true:=decide_eq_true hc;have hp:[cn u.fns,aI u.main,.os m.sid m.frames.length 1,aI m.left,.v (.bool true),.v (.bool true),.aB 1 (m.out.map aI) (.tok 3),aI m.fin,aI m.val]=aD u (m.gn n):=by
   simp[Mach.gn,hc,aD]
  refine zf true O.length Tryz.func31 Tryz.ntmps31 ?_;dsimp only[Tmp,TypeId,slotsOf];refine bR ?_;simp -dsimp only[simprocAttr,↓I,zp,h0];refine ai ?_;apply aF rfl<;>intro h
  ·refine aG ?_;simp -dsimp only[simprocAttr,↓I,zp,h0,hs,List.set_set,hp];refine ai ?_;refine ak ?_;simp -dsimp only[simprocAttr,↓I,zp,zr,Tryz.results31,mL,List.length_set];exact⟨nw,trivial⟩
  simp[hd]at h
 have hd:decide (m.left<n)=false:=decide_eq_false hc;have hp:[cn u.fns,aI u.main,.os m.sid m.frames.length 1,aI (m.left-n),.v (.bool m.short),.v (.bool m.over),.aB 1 (m.out.map aI) (.tok 3),aI m.fin,aI m.val]=aD u (m.gn n):=by
  simp[Mach.gn,hc,aD]
 refine zf true O.length Tryz.func31 Tryz.ntmps31 ?_;dsimp only[Tmp,TypeId,slotsOf];refine bR ?_;simp -dsimp only[simprocAttr,↓I,zp,h0];refine ai ?_;apply aF rfl<;>intro h
 ·simp[hd]at h
 refine bZ ?_;refine fE ?_;simp -dsimp only[simprocAttr,↓I,zp,h0,hs,List.set_set,hp]
 repeat(refine⟨by omega,?_⟩)
 refine aY ?_;simp -dsimp only[simprocAttr,↓I,zp,zr,Tryz.results31,mL,List.length_set];exact⟨nw,trivial⟩
theorem kM{u:cL}{m:Mach}{O:List aq}(aW:∀o∈O,o.upto O.length)(h0:O[2]?=some (.cells (aD u m)))(e n:Int) :
  aK Tryz.prog 57 O [.mp 2 0,aI e,aI n] (fun r O'=>r=.cN []∧O'=O.set 2 (.cells (aD u (m.stop e n)))):=by
 have hs:=dF h0;have nw:=bx aW h0 (ds:=aD u (m.stop e n)) (fun h=>cc h rfl);have mL:=cM (O:=O) (k:=2) (x:=.cells (aD u (m.stop e n)));unfold aD at h0;have hp:[cn u.fns,aI u.main,.os m.sid m.frames.length 1,aI m.left,.v (.bool m.short),.v (.bool true),.aB 1 (m.out.map aI) (.tok 3),aI e,aI n]=aD u (m.stop e n):=rfl;refine zf true O.length Tryz.func57 Tryz.ntmps57 ?_;dsimp only[Tmp,TypeId,slotsOf];refine aG ?_;simp -dsimp only[simprocAttr,↓I,zp,h0];refine ai ?_;refine fE ?_;simp -dsimp only[simprocAttr,↓I,zp,hs,List.set_set,hp];refine aY ?_;simp -dsimp only[simprocAttr,↓I,zp,zr,Tryz.results57,mL,List.length_set];exact⟨nw,trivial⟩
theorem mH{sz:Nat}{xs:List aa}(h:∀x∈xs,x.cells.length=sz){k:Nat}(hk:k<xs.length){y:aa}(hy:y.cells.length=sz):bz (aw xs) (k*sz) y.cells=aw (xs.set k y):=by
 induction xs generalizing k with
 | nil=>simp at hk
 | cons p r ih =>
  have hp:=h p (by simp);cases k with
  | zero =>
   simp only[List.set_cons_zero,aw,List.flatMap_cons,bz,Nat.zero_mul,List.take_zero,List.nil_append,Nat.zero_add,hy];rw[List.drop_append_of_le_length (by omega),List.drop_of_length_le (by omega)];rfl
  | succ k =>
   have:=ih (fun x hx=>h x (by simp[hx])) (k:=k) (by simpa using hk);have e1:(k+1)*sz-sz=k*sz:=by rw[Nat.succ_mul];omega
   have e2:(k+1)*sz+sz-sz=k*sz+sz:=by rw[Nat.succ_mul];omega
   have e3:sz<=(k+1)*sz:=by rw[Nat.succ_mul];omega
   simp only[List.set_cons_succ,aw,List.flatMap_cons,bz,hy]at this ⊢;rw[List.take_append,List.drop_append,hp,List.take_of_length_le (by omega),List.drop_of_length_le (by omega),e1,e2,List.nil_append,List.append_assoc,this]
def j3(es:List (Int×SV))(k:Int):aa:=(Option.map SV.enc (jk es k)).getD (.agg [aI 0,aI 0,.aB 4 [] .ex,.v (.pointer none)])
theorem vt(es:List (Int×SV))(k:Int):(j3 es k).share=(jA es k).enc:=by
 unfold j3 jA;cases jk es k with
 | none=>rfl
 | some v=>exact v.ar
theorem fS(es:List (Int×SV))(k:Int):(j3 es k).cells.length=4:=by
 unfold j3;cases jk es k with
 | none=>rfl
 | some v=>exact v.dj
theorem jH(es:List (Int×SV))(k:Int):(j3 es k).flat:=by
 unfold j3;cases jk es k with
 | none=>trivial
 | some v=>exact v.ax
def q9(es:List (Int×SV))(l:List Int)(k:Nat):List aa:=(l.take k).map (j3 es)++List.replicate (l.length-k) (.agg [aI 0,aI 0,.aB 4 [] .ex,.v (.pointer none)])
theorem vx{es:List (Int×SV)}{l:List Int}{k:Nat}(h:k<=l.length):(q9 es l k).length=l.length:=by
 simp[q9];omega
theorem qa{es:List (Int×SV)}{l:List Int}{k:Nat}:∀x∈q9 es l k,x.cells.length=4:=fun x hx=>by
 simp only[q9,List.mem_append,List.mem_map,List.mem_replicate]at hx;rcases hx with⟨v,_,rfl⟩|⟨_,rfl⟩
 ·exact fS es v
 rfl
theorem FZ(es:List (Int×SV))(l:List Int):aw (q9 es l 0)=(List.replicate l.length [aI 0,aI 0,.aB 4 [] .ex,.v (.pointer none)]).flatten:=by
 simp[q9,aw,List.flatMap,aa.cells]
theorem FY{es:List (Int×SV)}{l:List Int}{k:Nat}{v:Int}(h:l[k]?=some v):(q9 es l k).set k (j3 es v)=q9 es l (k+1):=by
 have bd:=ag h;obtain⟨j,hj⟩:∃j,l.length-k=j+1:=⟨l.length-k-1,by omega⟩
 have e:l.take (k+1)=l.take k++[v]:=by rw[List.take_add_one,h];rfl
 have ek:((l.take k).map (j3 es)).length=k:=by simp;omega
 unfold q9;rw[e,hj,show l.length-(k+1)=j by omega,List.set_append_right _ _ (by omega),ek,Nat.sub_self];simp[List.replicate_succ]
theorem Iy(es:List (Int×SV))(l:List Int):(aw (q9 es l l.length)).map aa.br=aw ((gH es l).map SV.enc):=by
 rw[<-fM];simp only[q9,Nat.sub_self,List.replicate_zero,List.append_nil,List.take_length,gH,List.map_map];congr 1;apply List.map_congr_left;intro v _;exact vt es v
theorem jB{es:List (Int×SV)}{n:Nat}(h:∀e∈es,SV.bj n e.2)(k:Int):SV.bj n (jA es k):=by
 unfold jA;cases hl:jk es k with
 | none=>exact .mk (by simp) (by simp)
 | some v =>
  obtain⟨e,h1,rfl⟩:=xC hl;exact h e h1
theorem om{es:List (Int×SV)}{n:Nat}(h:∀e∈es,SV.bj n e.2)(l:List Int):∀v∈gH es l,SV.bj n v:=fun v hv=>by
 obtain⟨k,_,rfl⟩:=List.mem_map.1 hv;exact jB h k
theorem jJ{f:Fr}{O:List aq}(aW:∀o∈O,o.upto O.length)(hf:O[f.b9]?=some (.cells (aX f)))(hv:O[f.dJ]?=some (.map (.int .i64) (f.vals.map gU)))(hu:∀e∈f.vals,SV.bj O.length e.2)(l:List Int)(hl:l.length<=4096) :
  aK Tryz.prog 56 O [.mp f.b9 0,bp l] (fun r O'=>r=.aB 4 ((gH f.vals l).map SV.enc) .sh∧O'=O):=by
 have eK:=SV.aj (om hu l);have ix:∀X:List aq,(O++X)[f.b9]?=some (.cells (aX f)):=fun X=>dK hf;have R4:∀X:List aq,(O++X)[f.dJ]?=some (.map (.int .i64) (f.vals.map gU)):=fun X=>dK hv;unfold aX at ix;refine zf true O.length Tryz.func56 Tryz.ntmps56 ?_;dsimp only[Tmp,TypeId,slotsOf];refine az (ai ?_);refine az ?_
 repeat(refine⟨by omega,?_⟩)
 refine ai ?_;refine bS (ai ?_);refine ah (a8 (ι:={k:Nat // k<=l.length}) (fun k=>⟨29,[(0,.mp f.b9 0),(5,.ms O.length 0 l.length l.length),(11,bp l),(12,aI l.length),(13,aI k.1)],O++[.cells (aw (q9 f.vals l k.1))]⟩) (fun k=>l.length-k.1) ⟨0,by omega⟩ ?_ ?_)
 ·refine zq rfl ?_ ?_;simp -dsimp only[simprocAttr,↓I,zp,zc];rw[FZ]
 rintro⟨k,hk⟩;refine az (ai ?_);apply fK rfl<;>intro h
 ·refine bZ ?_;have bd:k<l.length:=by simpa using h
  obtain⟨v,uZ⟩:∃v,l[k]?=some v:=⟨l[k],by simp[bd]⟩
  have uX:(Option.map SV.enc (jk f.vals v)).getD (.agg [aI 0,aI 0,.aB 4 [] .ex,.v (.pointer none)])=j3 f.vals v:=rfl;have di:=cj (qa (es:=f.vals) (l:=l) (k:=k));rw[vx hk]at di;have fQ:=mH (qa (es:=f.vals) (l:=l) (k:=k)) (k:=k) (by rw[vx hk];exact bd) (fS f.vals v);rw[FY uZ]at fQ;have hn:=j4 O (aq.cells (aw (q9 f.vals l k)));have dD:=fun y=>oh O (aq.cells (aw (q9 f.vals l k))) y;refine aL (ah ?_);refine aG ?_;simp -dsimp only[simprocAttr,↓I,zp,uZ];refine ai ?_;refine fE ?_;simp -dsimp only[simprocAttr,↓I,zp,ix,R4,mg,uX,hn,dD,jH,fS,di,fQ]
  repeat(refine⟨by omega,?_⟩)
  refine ai ?_;refine dA ?_
  repeat(refine⟨by omega,?_⟩)
  refine kv ?_;refine⟨⟨k+1,bd⟩,by simp;omega,?_⟩;refine zq rfl ?_ ?_;simp -dsimp only[simprocAttr,↓I,zp,zc]
  ·exact Sub.int (by simp)
  rfl
 refine aN ?_;simp -dsimp only[bH,ne_eq,Nat.reduceEqDiff,reduceCtorEq];have fk:k=l.length:=by simp at h;omega
 subst fk;refine B3 5 (sz:=4) ((gH f.vals l).map SV.enc) [(5,.aB 4 ((gH f.vals l).map SV.enc) .sh)] rfl ?_ ?_ ?_ (by omega) (by simp[cd,bG,Go.Av.look]) ?_ ?_ ?_
 ·intro x hx;obtain⟨y,_,rfl⟩:=List.mem_map.1 hx;exact y.dj
 ·simp[gH]
 ·rw[<-Iy,List.take_of_length_le];rw[cj qa,vx hk];exact Nat.le_refl _
 ·exact aW
 ·intro p hp;simp only[List.mem_singleton]at hp;subst hp;exact⟨eK,trivial⟩
 refine az (ai ?_);refine ak ?_;simp -dsimp only[simprocAttr,↓I,zp,zr,Tryz.results56,List.take_length];exact⟨aW,eK⟩
theorem c9(n:Int):bw Tryz.prog 101 [aI n] (SV.word n).enc:=by
 refine zf true 0 Tryz.func101 Tryz.ntmps101 ?_;dsimp only[Tmp,TypeId,slotsOf];refine az (ai ?_);refine az (ai ?_);refine ak ?_;simp -dsimp only[simprocAttr,↓I,zp,zr,Tryz.results101];simp[SV.word,SV.jz,eP,av,aa.upto]
theorem vI(b:Bool):bw Tryz.prog 154 [.v (.bool b)] (SV.word (if b then 1 else 0)).enc:=by
 have h1:=c9 1;have h0:=c9 0;have c1:(SV.word 1).enc.cells=[aI 0,aI 1,.aB 4 [] .sh,.v (.pointer none)]:=rfl;have c0:(SV.word 0).enc.cells=[aI 0,aI 0,.aB 4 [] .sh,.v (.pointer none)]:=rfl;refine zf true 0 Tryz.func154 Tryz.ntmps154 ?_;dsimp only[Tmp,TypeId,slotsOf];refine az (ai ?_);refine bS (ai ?_);apply aF rfl<;>intro h
 ·refine az ?_;refine .inl ⟨_,h1,by simp only[av,aa.upto,zt],ae ?_⟩;simp -dsimp only[simprocAttr,↓I,zp,c1];refine ai ?_;refine ak ?_;simp -dsimp only[simprocAttr,↓I,zp,zr,Tryz.results154];subst h;exact⟨by simp[av,aa.upto],rfl⟩
 refine bZ ?_;refine az ?_;refine .inl ⟨_,h0,by simp only[av,aa.upto,zt],ae ?_⟩;simp -dsimp only[simprocAttr,↓I,zp,c0];refine ai ?_;refine ak ?_;simp -dsimp only[simprocAttr,↓I,zp,zr,Tryz.results154];subst h;exact⟨by simp[av,aa.upto],rfl⟩
theorem GH{O:List aq}(aW:∀o∈O,o.upto O.length)(l:List SV)(hl:∀v∈l,SV.bj O.length v)(k:Int):aK Tryz.prog 102 O [.aB 4 (l.map SV.enc) .sh,aI k] (fun r O'=>r=.v (.bool (kN l k))∧O'=O):=by
 refine zf true O.length Tryz.func102 Tryz.ntmps102 ?_;dsimp only[Tmp,TypeId,slotsOf];refine az (ai ?_);refine bS (ai ?_);refine gF 7 rfl (fun hlen=>?_);simp only[List.length_map]at hlen;refine ah (a8 (ι:={j:Nat // j<=l.length∧∀v∈l.take j,v.kind=k}) (fun j=>⟨18,[(1,aI k),(4,.v (.bool false)),(7,.aB 4 (l.map SV.enc) .sh),(8,aI l.length),(9,aI j.1)],O⟩) (fun j=>l.length-j.1) ⟨0,by omega,by simp⟩ ?_ ?_)
 ·refine zq rfl ?_ ?_;simp -dsimp only[simprocAttr,↓I,zp,zc];rfl
 rintro⟨j,hj,dt⟩;refine az (ai ?_);apply fK rfl<;>intro h
 ·refine bZ ?_;have bd:j<l.length:=by simpa using h
  obtain⟨v,hv⟩:∃v,l[j]?=some v:=⟨l[j],by simp[bd]⟩
  have pR:=(hl v (List.mem_of_getElem? hv)).aS;rw[SV.gj]at pR;refine aL (ah ?_);refine aG ?_;simp -dsimp only[simprocAttr,↓I,zp,hv];refine ai ?_;refine aZ 6 ([aI v.kind,aI v.n,.aB 4 (v.list.map SV.enc) .sh,eP v.arr]) [(1,aI k),(4,.v (.bool false)),(6,.ip none [aI v.kind,aI v.n,.aB 4 (v.list.map SV.enc) .sh,eP v.arr]),(7,.aB 4 (l.map SV.enc) .sh),(8,aI l.length),(9,aI j)] rfl (by simp only[List.map_cons,List.map_nil,cT,cq,dQ,dR,dP,dN,dO,cz]) (by omega) (by simp[cd,bG,Go.Av.look]) ?_ ?_ ?_
  ·exact aW
  ·intro p hp;simp only[List.mem_cons,List.mem_nil_iff,or_false]at hp;have X6:=SV.aj hl;rcases hp with rfl|rfl|rfl|rfl|rfl|rfl
   ·trivial
   ·trivial
   ·exact pR
   ·exact⟨X6,trivial⟩
   ·trivial
   trivial
  refine az (ai ?_);apply aF rfl<;>intro h
  ·refine az (ai ?_);refine ak ?_;simp -dsimp only[simprocAttr,↓I,zp,zr,Tryz.results102];have hk:v.kind≠k:=by simpa using h
   refine⟨aW,?_⟩;have:kN l k=false:=by
    simp only[kN,List.all_eq_false,decide_eq_true_eq];exact⟨v,List.mem_of_getElem? hv,hk⟩
   rw[this]
  refine k7 ?_;have hk:v.kind=k:=by simpa using h
  refine dA ?_
  repeat(refine⟨by omega,?_⟩)
  refine kv ?_;refine⟨⟨j+1,bd,fun w hw=>?_⟩,by simp;omega,?_⟩
  ·rw[List.take_add_one,hv]at hw;simp only[Option.toList_some,List.mem_append,List.mem_singleton]at hw;rcases hw with hw|rfl
   ·exact dt w hw
   exact hk
  refine zq rfl ?_ ?_;simp -dsimp only[simprocAttr,↓I,zp,zc]
  ·exact Sub.int (by simp)
  rfl
 refine aN ?_;simp -dsimp only[bH,ne_eq,Nat.reduceEqDiff,reduceCtorEq];have fk:j=l.length:=by simp at h;omega
 subst fk;refine az (ai ?_);refine ak ?_;simp -dsimp only[simprocAttr,↓I,zp,zr,Tryz.results102];rw[List.take_length]at dt;refine⟨aW,?_⟩;have:kN l k=true:=by
  simp only[kN,List.all_eq_true,decide_eq_true_eq];exact dt
 rw[this]
theorem x7{O:List aq}(aW:∀o∈O,o.upto O.length)(l:List SV)(hl:∀v∈l,SV.bj O.length v)(k:Int)(X:List aq):aK Tryz.prog 102 (O++X) [.aB 4 (l.map SV.enc) .sh,aI k] (fun r O'=>r=.v (.bool (kN l k))∧O'=O++X) :=
 aK.frame (GH aW l hl k) rfl ⟨⟨SV.aj hl,trivial⟩,trivial,trivial⟩ aW X
theorem dz(n:Int):(SV.word n).enc.cells=[aI 0,aI n,.aB 4 [] .sh,.v (.pointer none)]:=rfl
theorem vQ(k:Nat)(n:Int):SV.bj k (SV.word n):=.mk (by simp) (by simp)
theorem qf(k:Nat):SV.bj k SV.zero:=.mk (by simp) (by simp)
theorem lJ{k:Nat}{n m:Int}:av k [(SV.word n).enc,.v (.int .i64 m)]:=⟨(vQ k n).aS,trivial,trivial⟩
theorem fT{k:Nat}{m:Int}:av k [SV.zero.enc,.v (.int .i64 m)]:=⟨(qf k).aS,trivial,trivial⟩
theorem fu(n:Int):aa.agg [aI 0,aI n,.aB 4 [] .sh,.v (.pointer none)]=(SV.word n).enc:=rfl
theorem cC:aa.agg [aI 0,aI 0,.aB 4 [] .sh,.v (.pointer none)]=SV.zero.enc:=rfl
theorem si(op a b:Int)(ha:cu a)(hb:cu b):bw Tryz.prog 103 [aI op,aI a,aI b] (.cN [(dp op a b).1.enc,aI (dp op a b).2]):=by
 have q1:=zJ a b ha hb;have q2:=vF a b ha hb;have q3:=mh a b ha hb;have q4:=fun h=>G' a b ha hb h;have q5:=fun h=>Ie a b ha hb h;refine zf true 0 Tryz.func103 Tryz.ntmps103 ?_;dsimp only[Tmp,TypeId,slotsOf];refine az (ai ?_);refine bS (ai ?_);refine ah ?_;refine az (ai ?_);apply aF rfl<;>intro h
 ·have e:op=1:=by simpa using h
  refine az ?_;refine .inl ⟨_,q1,by simp only[av,aa.upto,zt],ae ?_⟩;refine .inl ⟨_,c9 _,by simp[av,aa.upto,ri],ae ?_⟩;simp -dsimp only[simprocAttr,↓I,zp,dz];refine ai ?_;refine ak ?_;simp -dsimp only[simprocAttr,↓I,zp,zr,Tryz.results103,fu];simp[dp,e,lJ]
 have e1:op≠1:=by simpa using h
 refine az (ai ?_);apply aF rfl<;>intro h
 ·have e:op=2:=by simpa using h
  refine az ?_;refine .inl ⟨_,q2,by simp only[av,aa.upto,zt],ae ?_⟩;refine .inl ⟨_,c9 _,by simp[av,aa.upto,ri],ae ?_⟩;simp -dsimp only[simprocAttr,↓I,zp,dz];refine ai ?_;refine ak ?_;simp -dsimp only[simprocAttr,↓I,zp,zr,Tryz.results103,fu];simp[dp,e,lJ]
 have e2:op≠2:=by simpa using h
 refine az (ai ?_);apply aF rfl<;>intro h
 ·have e:op=3:=by simpa using h
  refine az ?_;refine .inl ⟨_,q3,by simp only[av,aa.upto,zt],ae ?_⟩;refine .inl ⟨_,c9 _,by simp[av,aa.upto,ri],ae ?_⟩;simp -dsimp only[simprocAttr,↓I,zp,dz];refine ai ?_;refine ak ?_;simp -dsimp only[simprocAttr,↓I,zp,zr,Tryz.results103,fu];simp[dp,e,lJ]
 have e3:op≠3:=by simpa using h
 refine az (ai ?_);apply aF rfl<;>intro h
 ·have e:op=6:=by simpa using h
  refine az ?_;refine .inl ⟨_,vI _,by simp only[av,aa.upto,zt],ae ?_⟩;simp -dsimp only[simprocAttr,↓I,zp,dz];refine ai ?_;refine ak ?_;simp -dsimp only[simprocAttr,↓I,zp,zr,Tryz.results103,fu];simp[dp,e,lJ]
 have e6:op≠6:=by simpa using h
 refine az (ai ?_);apply aF rfl<;>intro h
 ·have e:op=7:=by simpa using h
  refine az ?_;refine .inl ⟨_,vI _,by simp only[av,aa.upto,zt],ae ?_⟩;simp -dsimp only[simprocAttr,↓I,zp,dz];refine ai ?_;refine ak ?_;simp -dsimp only[simprocAttr,↓I,zp,zr,Tryz.results103,fu];simp[dp,e,lJ]
 have e7:op≠7:=by simpa using h
 refine k7 ?_;refine bS (ai ?_);apply aF rfl<;>intro h
 ·have e:b=0:=by simpa using h
  refine az (ai ?_);refine ak ?_;simp -dsimp only[simprocAttr,↓I,zp,zr,Tryz.results103,cC];simp[dp,e1,e2,e3,e6,e7,e,fT]
 have e0:b≠0:=by simpa using h
 refine bZ ?_;refine bS (ai ?_);apply aF rfl<;>intro h
 ·have e:op=4:=by simpa using h
  refine az ?_;refine zi (q4 e0) ?_;refine ai ?_;refine az ?_;refine .inl ⟨_,c9 _,by simp only[av,aa.upto,zt],ae ?_⟩;simp -dsimp only[simprocAttr,↓I,zp,dz];refine ai ?_;refine ak ?_;simp -dsimp only[simprocAttr,↓I,zp,zr,Tryz.results103,fu];simp[dp,e,lJ,e0]
 have e4:op≠4:=by simpa using h
 refine bZ ?_;refine az ?_;refine zi (q5 e0) ?_;refine ai ?_;refine az ?_;refine .inl ⟨_,c9 _,by simp only[av,aa.upto,zt],ae ?_⟩;simp -dsimp only[simprocAttr,↓I,zp,dz];refine ai ?_;refine ak ?_;simp -dsimp only[simprocAttr,↓I,zp,zr,Tryz.results103,fu];simp[dp,e1,e2,e3,e4,e6,e7,lJ,e0]
theorem gf{l:List SV}{k:Nat}{v:SV}(h:l[k]?=some v):cJ l k=v:=by simp[cJ,h]
theorem vv{k:Nat}{v:SV}{m:Int}(h:SV.bj k v):av k [v.enc,.v (.int .i64 m)]:=⟨h.aS,trivial,trivial⟩
theorem mX{k:Nat}{v:SV}(h:SV.bj k v):∀x∈v.list,SV.bj k x:=by cases h;assumption
theorem A4{O:List aq}(aW:∀o∈O,o.upto O.length)(i:bI)(args:List SV)(hl:∀v∈args,SV.bj O.length v)(o:SV)(h0:args[0]?=some o)
  (hp:i.op≠10->i.op≠11->i.op≠12->∃p,args[1]?=some p) (hn:i.op=11->0<=i.n) :
  aK Tryz.prog 104 O [i.enc,.aB 4 (args.map SV.enc) .sh] (fun r O'=>r=.cN [(c8 i args).1.enc,aI (c8 i args).2]∧O'=O):=by
 have WS:=hl o (List.mem_of_getElem? h0);have ha:=gf h0;refine zf true O.length Tryz.func104 Tryz.ntmps104 ?_;dsimp only[Tmp,TypeId,slotsOf];refine az (ai ?_);refine aG ?_;simp -dsimp only[simprocAttr,↓I,zp,h0];refine ai ?_;refine aL (ah ?_);refine az (ai ?_);apply aF rfl<;>intro h
 ·have e:i.op=11:=by simpa using h
  by_cases hk:o.kind=1∨o.kind=2
  ·have hd:(decide (o.kind=1)=true)∨(decide (o.kind=1)=false∧decide (o.kind=2)=true):=by
    rcases hk with hk|hk
    ·exact .inl (decide_eq_true hk)
    exact .inr ⟨decide_eq_false (by omega),decide_eq_true hk⟩
   have Up:¬(o.kind≠1∧o.kind≠2):=by omega
   have vW:=hn e;by_cases hlen:(o.list.length:Int)<=i.n
   ·have nu:decide ((o.list.length:Int)<=i.n)=true:=decide_eq_true hlen;rcases hd with hd|⟨hd,lA⟩
    ·refine bR ?_;simp -dsimp only[simprocAttr,↓I,zp,hd,nu];refine ai ?_;refine dS rfl ?_;refine az (ai ?_);refine ak ?_;simp -dsimp only[simprocAttr,↓I,zp,zr,Tryz.results104,cC];refine⟨aW,fT,?_⟩;simp[c8,e,ha,hlen]
    refine bR ?_;simp -dsimp only[simprocAttr,↓I,zp,hd,lA,nu];refine ai ?_;refine dS rfl ?_;refine az (ai ?_);refine ak ?_;simp -dsimp only[simprocAttr,↓I,zp,zr,Tryz.results104,cC];refine⟨aW,fT,?_⟩;simp[c8,e,ha,hlen]
   have nu:decide ((o.list.length:Int)<=i.n)=false:=decide_eq_false hlen;obtain⟨x,hx⟩:∃x,o.list[i.n.toNat]?=some x:=⟨o.list[i.n.toNat]'(by omega),List.getElem?_eq_getElem _⟩
   have Ee:=mX WS x (List.mem_of_getElem? hx);have uO:=gf hx;rcases hd with hd|⟨hd,lA⟩
   ·refine bR ?_;simp -dsimp only[simprocAttr,↓I,zp,hd,nu];refine ai ?_;refine cP rfl ?_;refine bZ ?_;refine aG ?_;simp -dsimp only[simprocAttr,↓I,zp,hx]
    repeat(refine⟨by omega,?_⟩)
    refine ai ?_;refine ak ?_;simp -dsimp only[simprocAttr,↓I,zp,zr,Tryz.results104];refine⟨aW,vv Ee,?_⟩;simp[c8,e,ha,hlen,uO,Up]
   refine bR ?_;simp -dsimp only[simprocAttr,↓I,zp,hd,lA,nu];refine ai ?_;refine cP rfl ?_;refine bZ ?_;refine aG ?_;simp -dsimp only[simprocAttr,↓I,zp,hx]
   repeat(refine⟨by omega,?_⟩)
   refine ai ?_;refine ak ?_;simp -dsimp only[simprocAttr,↓I,zp,zr,Tryz.results104];refine⟨aW,vv Ee,?_⟩;simp[c8,e,ha,hlen,uO,Up]
  have Kl:decide (o.kind=1)=false:=decide_eq_false (by omega);have Um:decide (o.kind=2)=false:=decide_eq_false (by omega);have Up:o.kind≠1∧o.kind≠2:=by omega
  refine bR ?_;simp -dsimp only[simprocAttr,↓I,zp,Kl,Um];refine ai ?_;refine dS rfl ?_;refine az (ai ?_);refine ak ?_;simp -dsimp only[simprocAttr,↓I,zp,zr,Tryz.results104,cC];refine⟨aW,fT,?_⟩;simp[c8,e,ha,Up]
 have RL:i.op≠11:=by simpa using h
 refine az (ai ?_);apply aF rfl<;>intro h
 ·have hk:o.kind≠1:=by simpa using h
  refine az (ai ?_);refine ak ?_;simp -dsimp only[simprocAttr,↓I,zp,zr,Tryz.results104,cC];refine⟨aW,fT,?_⟩;simp[c8,RL,ha,hk]
 have hk:o.kind=1:=by simpa using h
 refine az (ai ?_);apply aF rfl<;>intro h
 ·have Pk:i.op=10:=by simpa using h
  refine az ?_;refine .inl ⟨_,c9 o.n,by simp only[av,aa.upto,zt],ae ?_⟩;simp -dsimp only[simprocAttr,↓I,zp,dz];refine ai ?_;refine ak ?_;simp -dsimp only[simprocAttr,↓I,zp,zr,Tryz.results104,fu];refine⟨aW,lJ,?_⟩;simp[c8,Pk,ha,hk]
 have Pk:i.op≠10:=by simpa using h
 refine az (ai ?_);apply aF rfl<;>intro h
 ·have Pl:i.op=12:=by simpa using h
  refine az ?_;refine .inl ⟨_,c9 o.list.length,by simp only[av,aa.upto,zt],ae ?_⟩;simp -dsimp only[simprocAttr,↓I,zp,dz];refine ai ?_;refine ak ?_;simp -dsimp only[simprocAttr,↓I,zp,zr,Tryz.results104,fu];refine⟨aW,lJ,?_⟩;simp[c8,Pl,ha,hk]
 have Pl:i.op≠12:=by simpa using h
 obtain⟨p,h1⟩:=hp Pk RL Pl;have hb:=gf h1;refine aG ?_;simp -dsimp only[simprocAttr,↓I,zp,h1];refine ai ?_;apply aF rfl<;>intro h
 ·have AL:p.kind≠0:=by simpa using h
  refine az (ai ?_);refine ak ?_;simp -dsimp only[simprocAttr,↓I,zp,zr,Tryz.results104,cC];refine⟨aW,fT,?_⟩;simp[c8,Pk,RL,Pl,ha,hb,hk,AL]
 have AL:p.kind=0:=by simpa using h
 by_cases gy:p.n<0
 ·have nu:decide (p.n<0)=true:=decide_eq_true gy;refine aG ?_;simp -dsimp only[simprocAttr,↓I,zp,h1,nu];refine⟨ob (by kernel_rfl),?_⟩;refine ai ?_;refine dS rfl ?_;refine az (ai ?_);refine ak ?_;simp -dsimp only[simprocAttr,↓I,zp,zr,Tryz.results104,cC];refine⟨aW,fT,?_⟩;simp[c8,Pk,RL,Pl,ha,hb,hk,AL,gy]
 have nu:decide (p.n<0)=false:=decide_eq_false gy;by_cases hlen:(o.list.length:Int)<=p.n
 ·have K6:decide ((o.list.length:Int)<=p.n)=true:=decide_eq_true hlen;refine aG ?_;simp -dsimp only[simprocAttr,↓I,zp,h1,nu,K6];refine⟨ob (by kernel_rfl),?_⟩;refine ai ?_;refine dS rfl ?_;refine az (ai ?_);refine ak ?_;simp -dsimp only[simprocAttr,↓I,zp,zr,Tryz.results104,cC];refine⟨aW,fT,?_⟩;simp[c8,Pk,RL,Pl,ha,hb,hk,AL,gy,hlen]
 have K6:decide ((o.list.length:Int)<=p.n)=false:=decide_eq_false hlen;obtain⟨x,hx⟩:∃x,o.list[p.n.toNat]?=some x:=⟨o.list[p.n.toNat]'(by omega),List.getElem?_eq_getElem _⟩
 have Ee:=mX WS x (List.mem_of_getElem? hx);have uO:=gf hx;refine aG ?_;simp -dsimp only[simprocAttr,↓I,zp,h1,nu,K6];refine⟨ob (by kernel_rfl),?_⟩;refine ai ?_;refine cP rfl ?_;refine k7 ?_;refine aG ?_;simp -dsimp only[simprocAttr,↓I,zp,h1,hx]
 repeat(refine⟨by omega,?_⟩)
 refine⟨ob (by kernel_rfl),?_⟩;refine ai ?_;refine ak ?_;simp -dsimp only[simprocAttr,↓I,zp,zr,Tryz.results104];refine⟨aW,vv Ee,?_⟩;simp[c8,Pk,RL,Pl,ha,hb,hk,AL,gy,hlen,uO]
theorem xT{op:Int}:∀{l r:List SV} {k:Nat} {x y:SV},l[k]?=some x->r[k]?=some y->kK op (l.take (k+1)) (r.take (k+1))=kK op (l.take k) (r.take k)++[(dp op x.n y.n).1]
 | a::l,b::r,0,x,y,h1,h2=>by
  simp only[List.getElem?_cons_zero,Option.some.injEq]at h1 h2;subst h1;subst h2;simp[kK]
 | a::l,b::r,k+1,x,y,h1,h2=>by
  have ih:=xT (op:=op) (l:=l) (r:=r) (k:=k) (by simpa using h1) (by simpa using h2);simp only[List.take_succ_cons,kK,List.cons_append];rw[ih]
theorem vS{op:Int}:∀(l r:List SV),(kK op l r).length=min l.length r.length
 | [],_=>by simp[kK]
 | _::_,[]=>by simp[kK]
 | a::l,b::r=>by simp[kK,vS l r]
theorem pd(k:Nat)(op a b:Int):SV.bj k (dp op a b).1:=by
 unfold dp
 repeat' split
 all_goals exact vQ _ _
theorem qg{op:Int}{k:Nat}:∀(l r:List SV),∀v∈kK op l r,SV.bj k v
 | [],_,v,h=>by simp[kK]at h
 | _::_,[],v,h=>by simp[kK]at h
 | a::l,b::r,v,h=>by
  simp only[kK,List.mem_cons]at h;rcases h with rfl|h
  ·exact pd _ _ _ _
  exact qg l r v h
theorem BH{O:List aq}(aW:∀o∈O,o.upto O.length)(i:bI)(args:List SV)(hl:∀v∈args,SV.bj O.length v)(h1:i.op=24->∃x,args[0]?=some x)(h2:i.op≠22->i.op≠24->∃x y,args=[x,y])
  (hn:i.op=24->0<=i.n) (hw:∀v∈args,v.kind=4->v.list.length<=1000∧∀x∈v.list,cu x.n) :
  aK Tryz.prog 105 O [i.enc,.aB 4 (args.map SV.enc) .sh] (fun r O'=>r=.cN [(dr i args).1.enc,aI (dr i args).2]∧O'=O):=by
 have P1:∀l:List SV,aa.agg [aI 4,aI 0,.aB 4 (l.map SV.enc) .sh,.v (.pointer none)]=(SV.mk 4 0 l none).enc:=fun l=>(SV.jz 4 0 l none).symm;refine zf true O.length Tryz.func105 Tryz.ntmps105 ?_;dsimp only[Tmp,TypeId,slotsOf];refine az (ai ?_);refine ck 2 0 ([aI i.to,aI i.op,aI i.n,bp i.args]) rfl rfl (by rfl) ?_;simp -dsimp only[simprocAttr,↓I,zp];refine bS (ai ?_);refine ah ?_;refine az (ai ?_);apply aF rfl<;>intro h
 ·have e:i.op=22:=by simpa using h
  refine bS ?_;refine .inr (.inr ⟨_,x7 aW args hl 0 _,ae (zj ?_)⟩);refine ai ?_;cases dt:kN args 0 with
  | true =>
   apply aF rfl<;>intro h
   ·simp[dt]at h
   refine bZ ?_;refine az (ai ?_);refine ak ?_;simp -dsimp only[simprocAttr,↓I,zp,zr,Tryz.results105,P1];have hz:=(SV.bj.mk (k:=4) (m:=0) (a:=none) (by simp) hl).aS;rw[SV.jz]at hz;refine⟨aW,⟨hz,trivial,trivial⟩,?_⟩;simp[dr,e,dt,SV.jz]
  | false =>
   apply aF rfl<;>intro h
   ·refine az (ai ?_);refine ak ?_;simp -dsimp only[simprocAttr,↓I,zp,zr,Tryz.results105,cC];refine⟨aW,fT,?_⟩;simp[dr,e,dt]
   simp[dt]at h
 have J9:i.op≠22:=by simpa using h
 refine az (ai ?_);apply aF rfl<;>intro h
 ·have e:i.op=24:=by simpa using h
  obtain⟨x,hx⟩:=h1 e;have uO:=gf hx;have vW:=hn e;have Ee:=hl x (List.mem_of_getElem? hx);by_cases hk:x.kind=4
  ·have hd:decide (x.kind=4)=true:=decide_eq_true hk;by_cases hlen:(x.list.length:Int)<=i.n
   ·have nu:decide ((x.list.length:Int)<=i.n)=true:=decide_eq_true hlen;refine bR ?_;simp -dsimp only[simprocAttr,↓I,zp,hx,hd,nu];refine⟨ob (by kernel_rfl),?_⟩;refine ai ?_;refine dS rfl ?_;refine az (ai ?_);refine ak ?_;simp -dsimp only[simprocAttr,↓I,zp,zr,Tryz.results105,cC];refine⟨aW,fT,?_⟩;simp[dr,e,uO,hlen]
   have nu:decide ((x.list.length:Int)<=i.n)=false:=decide_eq_false hlen;obtain⟨z,hz⟩:∃z,x.list[i.n.toNat]?=some z:=⟨x.list[i.n.toNat]'(by omega),List.getElem?_eq_getElem _⟩
   have Ls:=mX Ee z (List.mem_of_getElem? hz);have Sz:=gf hz;refine bR ?_;simp -dsimp only[simprocAttr,↓I,zp,hx,hd,nu];refine⟨ob (by kernel_rfl),?_⟩;refine ai ?_;refine cP rfl ?_;refine bZ ?_;refine aG ?_;simp -dsimp only[simprocAttr,↓I,zp,hx,hz]
   repeat(refine⟨by omega,?_⟩)
   refine⟨ob (by kernel_rfl),?_⟩;refine ai ?_;refine ak ?_;simp -dsimp only[simprocAttr,↓I,zp,zr,Tryz.results105];refine⟨aW,vv Ls,?_⟩;simp[dr,e,uO,hlen,hk,Sz]
  have hd:decide (x.kind=4)=false:=decide_eq_false hk;refine bR ?_;simp -dsimp only[simprocAttr,↓I,zp,hx,hd];refine⟨ob (by kernel_rfl),?_⟩;refine ai ?_;refine dS rfl ?_;refine az (ai ?_);refine ak ?_;simp -dsimp only[simprocAttr,↓I,zp,zr,Tryz.results105,cC];refine⟨aW,fT,?_⟩;simp[dr,e,uO,hk]
 have Of:i.op≠24:=by simpa using h
 obtain⟨x,y,e⟩:=h2 J9 Of;subst e;have dt:=x7 aW [x,y] hl 4;cases hk:kN [x,y] 4 with
 | false =>
  simp only[hk,List.map_cons,List.map_nil]at dt;refine k7 ?_;refine bS ?_;refine .inr (.inr ⟨_,dt _,ae (zj ?_)⟩);refine⟨ob (by kernel_rfl),?_⟩;refine ai ?_;refine dS rfl ?_;refine az (ai ?_);refine ak ?_;simp -dsimp only[simprocAttr,↓I,zp,zr,Tryz.results105,cC];refine⟨aW,fT,?_⟩;simp[dr,J9,Of,hk]
 | true =>
  simp only[hk,List.map_cons,List.map_nil]at dt;by_cases hlen:x.list.length=y.list.length
  ·have hd:decide ((x.list.length:Int)=y.list.length)=true:=decide_eq_true (by omega);refine k7 ?_;refine bS ?_;refine .inr (.inr ⟨_,dt _,ae ?_⟩);simp -dsimp only[simprocAttr,↓I,zp,hd];refine⟨ob (by kernel_rfl),?_⟩;refine ai ?_;apply aF rfl<;>intro h
   ·cases h
   refine bZ ?_;refine az (ai ?_);refine lq (O.length+2) 2 (by rw[ln];rfl) rfl ?_;simp -dsimp only[simprocAttr,↓I,zp];refine bS (ai ?_);refine gF 68 rfl (fun Ta=>?_);simp only[List.length_map]at Ta;have fk:x.kind=4∧y.kind=4:=by simpa[kN]using hk
   obtain⟨W4,VO⟩:=hw x (by simp) fk.1;obtain⟨Zj,VQ⟩:=hw y (by simp) fk.2;refine ah (a8 (ι:={j:Nat // j<=x.list.length}) (fun j=>⟨99,[(1,.aB 4 [x.enc,y.enc] .sh),(2,.ip none [aI i.to,aI i.op,aI i.n,bp i.args]),(4,.mp (O.length+1) 0),(5,aI 0),(6,.mp (O.length+2) 0),(68,.aB 4 (x.list.map SV.enc) .sh),(69,aI x.list.length),(70,aI j.1)],O++[.gone,.cells [aI 0,aI 0,.aB 4 [] .ex,.v (.pointer none)],.cells [aI 4,aI 0,.aB 4 ((kK i.n (x.list.take j.1) (y.list.take j.1)).map SV.enc) (.tok (O.length+3)),.v (.pointer none)],.spare j.1]⟩) (fun j=>x.list.length-j.1) ⟨0,by omega⟩ ?_ ?_)
   ·refine zq rfl ?_ ?_;simp -dsimp only[simprocAttr,↓I,zp,zc];simp[kK]
   rintro⟨j,hj⟩;have H4:(kK i.n (x.list.take j) (y.list.take j)).length=j:=by
    rw[vS,List.length_take,List.length_take];omega
   refine az (ai ?_);apply fK rfl<;>intro h
   ·refine bZ ?_;have bd:j<x.list.length:=by simpa using h
    obtain⟨a,ha⟩:∃a,x.list[j]?=some a:=⟨x.list[j],by simp[bd]⟩
    obtain⟨b,hb⟩:∃b,y.list[j]?=some b:=⟨y.list[j]'(by omega),List.getElem?_eq_getElem _⟩
    have XF:=VO a (List.mem_of_getElem? ha);have XG:=VQ b (List.mem_of_getElem? hb);refine aL (ah ?_);refine aG ?_;simp -dsimp only[simprocAttr,↓I,zp,ha];refine ai ?_;refine ck 8 4 ([aI a.kind,aI a.n,.aB 4 (a.list.map SV.enc) .sh,eP a.arr]) rfl rfl (by simp only[List.map_cons,List.map_nil,cT,cq,dQ,dR,dP,dN,dO,cz]) ?_;simp -dsimp only[simprocAttr,↓I,zp];refine aG ?_;simp -dsimp only[simprocAttr,↓I,zp,hb];refine zi (si i.n a.n b.n XF XG) ?_;refine⟨ob (by kernel_rfl),?_⟩;refine ai ?_;generalize hB:(dp i.n a.n b.n).1=B;refine ck 9 5 ([aI B.kind,aI B.n,.aB 4 (B.list.map SV.enc) .sh,eP B.arr]) rfl rfl (by simp only[List.map_cons,List.map_nil,cT,cq,dQ,dR,dP,dN,dO,cz]) ?_;simp -dsimp only[simprocAttr,↓I,zp];refine fE ?_;simp -dsimp only[simprocAttr,↓I,zp,H4]
    repeat(refine⟨by omega,?_⟩)
    refine ai ?_;have yH:=xT (op:=i.n) ha hb;rw[hB]at yH;have Ee:=(hl x (by simp)).mono (show O.length<=O.length+4 by omega);have TM:=(hl y (by simp)).mono (show O.length<=O.length+4 by omega);have Ls:=SV.aj (n:=O.length+4) (qg (op:=i.n) (x.list.take (j+1)) (y.list.take (j+1)));rw[yH,List.map_append,List.map_cons,List.map_nil]at Ls;have VN:=SV.aj (mX Ee);refine KF 4 ([.gone,.cells [aI 0,aI 0,.aB 4 [] .ex,.v (.pointer none)],.cells [aI 4,aI 0,.aB 4 ((kK i.n (x.list.take j) (y.list.take j)).map SV.enc++[B.enc]) (.tok (O.length+3)),.v (.pointer none)],.spare (j+1)]) [(1,.aB 4 [x.enc,y.enc] .sh),(2,.ip none [aI i.to,aI i.op,aI i.n,bp i.args]),(4,.mp (O.length+1) 0),(5,aI 0),(6,.mp (O.length+2) 0),(68,.aB 4 (x.list.map SV.enc) .sh),(69,aI x.list.length),(70,aI j)] rfl (by simp) (by omega) (by simp[cd,bG,Go.Av.look]) ?_ ?_ ?_ ?_
    ·exact fun o ho=>aq.cR (by omega) (aW o ho)
    ·simp[aq.upto,av,aa.upto,Ls]
    ·simp[av,aa.upto,ay,Ee.aS,TM.aS,VN]
    refine dA ?_
    repeat(refine⟨by omega,?_⟩)
    refine kv ?_;refine⟨⟨j+1,bd⟩,by simp;omega,?_⟩;refine zq rfl ?_ ?_;simp -dsimp only[simprocAttr,↓I,zp,zc]
    ·exact Sub.int (by simp)
    simp only[yH,List.map_append,List.map_cons,List.map_nil]
   refine aN ?_;simp -dsimp only[bH,ne_eq,Nat.reduceEqDiff,reduceCtorEq];have uR:j=x.list.length:=by simp at h;omega
   subst uR;have hy:y.list.take x.list.length=y.list:=by rw[hlen,List.take_length]
   have hz:=(SV.bj.mk (k:=4) (m:=0) (a:=none) (n:=O.length) (l:=kK i.n x.list y.list) (by simp) (qg _ _)).aS;rw[SV.jz]at hz;refine az (ai ?_);refine ak ?_;simp -dsimp only[simprocAttr,↓I,zp,zr,Tryz.results105,hy];refine⟨aW,⟨hz,trivial,trivial⟩,?_⟩;have eZ:cJ [x,y] 0=x∧cJ [x,y] 1=y:=⟨rfl,rfl⟩
   simp[dr,J9,Of,hk,hlen,SV.jz,eZ,eP]
  have hd:decide ((x.list.length:Int)=y.list.length)=false:=decide_eq_false (by omega);refine k7 ?_;refine bS ?_;refine .inr (.inr ⟨_,dt _,ae ?_⟩);simp -dsimp only[simprocAttr,↓I,zp,hd];refine⟨ob (by kernel_rfl),?_⟩;refine ai ?_;refine dS rfl ?_;refine az (ai ?_);refine ak ?_;simp -dsimp only[simprocAttr,↓I,zp,zr,Tryz.results105,cC];refine⟨aW,fT,?_⟩;simp[dr,J9,Of,hk,hlen,cJ]
def nU(l:List Int)(n:Int):Int:=if l.findIdx (· == n)<l.length then(l.findIdx (· == n):Nat)else -1
theorem CC{l:List Int}{n:Int}{k:Nat}(hk:l[k]?=some n)(h:∀x∈l.take k,x≠n):l.findIdx (· == n)=k:=by
 have bd:=ag hk;have e:l=l.take k++n::l.drop (k+1):=by
  rw[List.getElem?_eq_getElem bd]at hk;simp only[Option.some.injEq]at hk
  conv=>lhs;rw[<-List.take_append_drop k l,List.drop_eq_getElem_cons bd,hk]
 have hn:(l.take k).findIdx (· == n)=(l.take k).length:=by
  rw[List.findIdx_eq_length];intro x hx;simpa using h x hx
 rw[e,List.findIdx_append,hn];simp[List.findIdx_cons];omega
theorem pS(l:List Int)(n:Int):bw Tryz.prog 114 [bp l,aI n] (aI (nU l n)):=by
 refine zf true 0 Tryz.func114 Tryz.ntmps114 ?_;dsimp only[Tmp,TypeId,slotsOf];refine az (ai ?_);refine gF 0 rfl (fun hlen=>?_);simp only[List.length_map]at hlen;refine bS (ai ?_);refine ah (a8 (ι:={j:Nat // j<=l.length∧∀x∈l.take j,x≠n}) (fun j=>⟨19,[(0,bp l),(1,aI n),(4,aI 0),(7,aI l.length),(8,aI j.1)],[]⟩) (fun j=>l.length-j.1) ⟨0,by omega,by simp⟩ ?_ ?_)
 ·refine zq rfl ?_ ?_;simp -dsimp only[simprocAttr,↓I,zp,zc];rfl
 rintro⟨j,hj,dt⟩;refine az (ai ?_);apply fK rfl<;>intro h
 ·refine bZ ?_;have bd:j<l.length:=by simpa using h
  obtain⟨v,hv⟩:∃v,l[j]?=some v:=⟨l[j],by simp[bd]⟩
  refine aL (ah ?_);refine az (ai ?_);refine aG ?_;simp -dsimp only[simprocAttr,↓I,zp,hv]
  repeat(refine⟨by omega,?_⟩)
  refine ai ?_;apply aF rfl<;>intro h
  ·have hk:n=v:=by simpa using h
   refine az (ai ?_);refine ak ?_;simp -dsimp only[simprocAttr,↓I,zp,zr,Tryz.results114];subst hk;have:=CC hv dt;simp[nU,this,bd]
  refine k7 ?_;have hk:n≠v:=by simpa using h
  refine dA ?_
  repeat(refine⟨by omega,?_⟩)
  refine kv ?_;refine⟨⟨j+1,bd,fun w hw=>?_⟩,by simp;omega,?_⟩
  ·rw[List.take_add_one,hv]at hw;simp only[Option.toList_some,List.mem_append,List.mem_singleton]at hw;rcases hw with hw|rfl
   ·exact dt w hw
   exact fun e=>hk e.symm
  refine zq rfl ?_ ?_;simp -dsimp only[simprocAttr,↓I,zp,zc]
  ·exact Sub.int (by simp)
  rfl
 refine aN ?_;simp -dsimp only[bH,ne_eq,Nat.reduceEqDiff,reduceCtorEq];have fk:j=l.length:=by simp at h;omega
 subst fk;refine az (ai ?_);refine ak ?_;simp -dsimp only[simprocAttr,↓I,zp,zr,Tryz.results114];rw[List.take_length]at dt;have:l.findIdx (· == n)=l.length:=by
  rw[List.findIdx_eq_length];intro x hx;simpa using dt x hx
 simp[nU,this]
theorem z'(t:Term)(n:Int)(ht:t.cases.length<=2 ^ 60):bw Tryz.prog 100 [t.enc,aI n] (aI (je t n)):=by
 have Lc:=pS t.cases n;have hle:t.cases.findIdx (· == n)<=t.cases.length:=List.findIdx_le_length;refine zf true 0 Tryz.func100 Tryz.ntmps100 ?_;dsimp only[Tmp,TypeId,slotsOf];refine az (ai ?_);refine bS (ai ?_);apply aF rfl<;>intro h
 ·have e:t.kind=2:=by simpa using h
  refine bS (ai ?_);apply aF rfl<;>intro h
  ·have e0:n≠0:=by simpa using h
   refine az (ai ?_);refine ak ?_;simp -dsimp only[simprocAttr,↓I,zp,zr,Tryz.results100];simp[je,e,e0]
  have e0:n=0:=by simpa using h
  refine bZ ?_;refine az (ai ?_);refine ak ?_;simp -dsimp only[simprocAttr,↓I,zp,zr,Tryz.results100];simp[je,e,e0]
 have e:t.kind≠2:=by simpa using h
 refine bZ ?_;by_cases hf:t.cases.findIdx (· == n)<t.cases.length
 ·have hI:nU t.cases n=(t.cases.findIdx (· == n):Nat):=by simp[nU,hf]
  rw[hI]at Lc;generalize hq:t.cases.findIdx (· == n)=q at Lc;refine bS ?_;refine zi Lc ?_;refine ai ?_;refine az (ai ?_);apply aF rfl<;>intro h
  ·refine az (ai ?_);refine ak ?_;simp -dsimp only[simprocAttr,↓I,zp,zr,Tryz.results100];simp[je,e,hq]
  simp at h
 have hI:nU t.cases n=-1:=by simp[nU,hf]
 rw[hI]at Lc;have hq:t.cases.findIdx (· == n)=t.cases.length:=by omega
 refine bS ?_;refine zi Lc ?_;refine ai ?_;refine az (ai ?_);apply aF rfl<;>intro h
 ·simp at h
 refine bZ ?_;refine az (ai ?_);refine ak ?_;simp -dsimp only[simprocAttr,↓I,zp,zr,Tryz.results100];simp[je,e,hq]
def gi(t:Term):Int:=if t.kind=1 then 1 else if t.kind=2 then 2 else if t.kind=3 then(t.cases.length:Int)+1 else 0
def tP(t:Term):Bool:=decide (t.kind=0) ||(decide (t.kind=2) ||decide (t.kind=3))
def gD(t:Term):Bool:=(decide (0<=t.kind)&&decide (t.kind<=4))&&(((decide ((t.to.length:Int)=gi t)&&(tP t ||decide (t.arg=0)))&&(decide (t.kind=4) ||decide (t.n=0)))&&(decide (t.kind=3) ||decide ((t.cases.length:Int)=0)))
theorem LP(t:Term)(hk:t.kind=0)(kB:t.cases.length<=2 ^ 60):bw Tryz.prog 109 [t.enc] (.v (.bool (gD t))):=by
 have he:gi t=0:=by simp[gi,hk]
 have ha:tP t=true:=by simp[tP,hk]
 unfold gD;rw[he,ha];have h0:decide (t.kind=0)=true:=decide_eq_true hk;have h4:decide (t.kind=4)=false:=decide_eq_false (by omega);have h3:decide (t.kind=3)=false:=decide_eq_false (by omega);have gy:decide (0<=t.kind)=true:=decide_eq_true (by omega);have o7:decide (t.kind<=4)=true:=decide_eq_true (by omega);rw[gy,o7,h3,h4];refine zf true 0 Tryz.func109 Tryz.ntmps109 ?_;dsimp only[Tmp,TypeId,slotsOf];refine az (ai ?_);refine az (ai ?_);refine bS (ai ?_);refine ah ?_;refine aG ?_;simp -dsimp only[simprocAttr,↓I,zp,h0];refine ai ?_;refine dS rfl ?_;refine dA (ai ?_);cases hA:decide ((t.to.length:Int)=0)<;>cases hB:decide (t.arg=0)<;>cases hC:decide (t.n=0)<;>cases hD:decide ((t.cases.length:Int)=0)
 all_goals
  refine aG ?_;simp -dsimp only[simprocAttr,↓I,zp,hA,hB,hC,hD];refine ai ?_;refine ak ?_;simp -dsimp only[simprocAttr,↓I,zp,zr,Tryz.results109,Bool.true_or,Bool.false_or,Bool.or_true,Bool.or_false,Bool.true_and,Bool.false_and,Bool.and_true,Bool.and_false]
theorem LQ(t:Term)(hk:t.kind=1)(kB:t.cases.length<=2 ^ 60):bw Tryz.prog 109 [t.enc] (.v (.bool (gD t))):=by
 have he:gi t=1:=by simp[gi,hk]
 have ha:tP t=false:=by simp[tP,hk]
 unfold gD;rw[he,ha];have h0:decide (t.kind=0)=false:=decide_eq_false (by omega);have h1:decide (t.kind=1)=true:=decide_eq_true hk;have h4:decide (t.kind=4)=false:=decide_eq_false (by omega);have h3:decide (t.kind=3)=false:=decide_eq_false (by omega);have gy:decide (0<=t.kind)=true:=decide_eq_true (by omega);have o7:decide (t.kind<=4)=true:=decide_eq_true (by omega);rw[gy,o7,h3,h4];refine zf true 0 Tryz.func109 Tryz.ntmps109 ?_;dsimp only[Tmp,TypeId,slotsOf];refine az (ai ?_);refine az (ai ?_);refine bS (ai ?_);refine ah ?_;refine aG ?_;simp -dsimp only[simprocAttr,↓I,zp,h0];refine ai ?_;refine cP rfl ?_;refine aG ?_;simp -dsimp only[simprocAttr,↓I,zp,h1];refine ai ?_;refine dS rfl ?_;refine dA (ai ?_);cases hA:decide ((t.to.length:Int)=1)<;>cases hB:decide (t.arg=0)<;>cases hC:decide (t.n=0)<;>cases hD:decide ((t.cases.length:Int)=0)
 all_goals
  refine aG ?_;simp -dsimp only[simprocAttr,↓I,zp,hA,hB,hC,hD];refine ai ?_;refine ak ?_;simp -dsimp only[simprocAttr,↓I,zp,zr,Tryz.results109,Bool.true_or,Bool.false_or,Bool.or_true,Bool.or_false,Bool.true_and,Bool.false_and,Bool.and_true,Bool.and_false]
theorem LR(t:Term)(hk:t.kind=2)(kB:t.cases.length<=2 ^ 60):bw Tryz.prog 109 [t.enc] (.v (.bool (gD t))):=by
 have he:gi t=2:=by simp[gi,hk]
 have ha:tP t=true:=by simp[tP,hk]
 unfold gD;rw[he,ha];have h0:decide (t.kind=0)=false:=decide_eq_false (by omega);have h1:decide (t.kind=1)=false:=decide_eq_false (by omega);have h2:decide (t.kind=2)=true:=decide_eq_true hk;have h4:decide (t.kind=4)=false:=decide_eq_false (by omega);have h3:decide (t.kind=3)=false:=decide_eq_false (by omega);have gy:decide (0<=t.kind)=true:=decide_eq_true (by omega);have o7:decide (t.kind<=4)=true:=decide_eq_true (by omega);rw[gy,o7,h3,h4];refine zf true 0 Tryz.func109 Tryz.ntmps109 ?_;dsimp only[Tmp,TypeId,slotsOf];refine az (ai ?_);refine az (ai ?_);refine bS (ai ?_);refine ah ?_;refine aG ?_;simp -dsimp only[simprocAttr,↓I,zp,h0];refine ai ?_;refine cP rfl ?_;refine aG ?_;simp -dsimp only[simprocAttr,↓I,zp,h1];refine ai ?_;refine cP rfl ?_;refine aG ?_;simp -dsimp only[simprocAttr,↓I,zp,h2];refine ai ?_;refine dS rfl ?_;refine dA (ai ?_);cases hA:decide ((t.to.length:Int)=2)<;>cases hB:decide (t.arg=0)<;>cases hC:decide (t.n=0)<;>cases hD:decide ((t.cases.length:Int)=0)
 all_goals
  refine aG ?_;simp -dsimp only[simprocAttr,↓I,zp,hA,hB,hC,hD];refine ai ?_;refine ak ?_;simp -dsimp only[simprocAttr,↓I,zp,zr,Tryz.results109,Bool.true_or,Bool.false_or,Bool.or_true,Bool.or_false,Bool.true_and,Bool.false_and,Bool.and_true,Bool.and_false]
theorem LS(t:Term)(hk:t.kind=3)(kB:t.cases.length<=2 ^ 60):bw Tryz.prog 109 [t.enc] (.v (.bool (gD t))):=by
 have he:gi t=(t.cases.length:Int)+1:=by simp[gi,hk]
 have ha:tP t=true:=by simp[tP,hk]
 unfold gD;rw[he,ha];have h0:decide (t.kind=0)=false:=decide_eq_false (by omega);have h1:decide (t.kind=1)=false:=decide_eq_false (by omega);have h2:decide (t.kind=2)=false:=decide_eq_false (by omega);have h3:decide (t.kind=3)=true:=decide_eq_true hk;have h4:decide (t.kind=4)=false:=decide_eq_false (by omega);have gy:decide (0<=t.kind)=true:=decide_eq_true (by omega);have o7:decide (t.kind<=4)=true:=decide_eq_true (by omega);rw[gy,o7,h3,h4];refine zf true 0 Tryz.func109 Tryz.ntmps109 ?_;dsimp only[Tmp,TypeId,slotsOf];refine az (ai ?_);refine az (ai ?_);refine bS (ai ?_);refine ah ?_;refine aG ?_;simp -dsimp only[simprocAttr,↓I,zp,h0];refine ai ?_;refine cP rfl ?_;refine aG ?_;simp -dsimp only[simprocAttr,↓I,zp,h1];refine ai ?_;refine cP rfl ?_;refine aG ?_;simp -dsimp only[simprocAttr,↓I,zp,h2];refine ai ?_;refine cP rfl ?_;refine aG ?_;simp -dsimp only[simprocAttr,↓I,zp,h3];refine ai ?_;refine dS rfl ?_;refine dA ?_
 repeat(refine⟨by omega,?_⟩)
 refine ai ?_;cases hA:decide ((t.to.length:Int)=(t.cases.length:Int)+1)<;>cases hB:decide (t.arg=0)<;>cases hC:decide (t.n=0)<;>cases hD:decide ((t.cases.length:Int)=0)
 all_goals
  refine aG ?_;simp -dsimp only[simprocAttr,↓I,zp,hA,hB,hC,hD];refine ai ?_;refine ak ?_;simp -dsimp only[simprocAttr,↓I,zp,zr,Tryz.results109,Bool.true_or,Bool.false_or,Bool.or_true,Bool.or_false,Bool.true_and,Bool.false_and,Bool.and_true,Bool.and_false]
theorem LU(t:Term)(hk:t.kind=4)(kB:t.cases.length<=2 ^ 60):bw Tryz.prog 109 [t.enc] (.v (.bool (gD t))):=by
 have he:gi t=0:=by simp[gi,hk]
 have ha:tP t=false:=by simp[tP,hk]
 unfold gD;rw[he,ha];have h0:decide (t.kind=0)=false:=decide_eq_false (by omega);have h1:decide (t.kind=1)=false:=decide_eq_false (by omega);have h2:decide (t.kind=2)=false:=decide_eq_false (by omega);have h3:decide (t.kind=3)=false:=decide_eq_false (by omega);have h4:decide (t.kind=4)=true:=decide_eq_true hk;have gy:decide (0<=t.kind)=true:=decide_eq_true (by omega);have o7:decide (t.kind<=4)=true:=decide_eq_true (by omega);rw[gy,o7,h3,h4];refine zf true 0 Tryz.func109 Tryz.ntmps109 ?_;dsimp only[Tmp,TypeId,slotsOf];refine az (ai ?_);refine az (ai ?_);refine bS (ai ?_);refine ah ?_;refine aG ?_;simp -dsimp only[simprocAttr,↓I,zp,h0];refine ai ?_;refine cP rfl ?_;refine aG ?_;simp -dsimp only[simprocAttr,↓I,zp,h1];refine ai ?_;refine cP rfl ?_;refine aG ?_;simp -dsimp only[simprocAttr,↓I,zp,h2];refine ai ?_;refine cP rfl ?_;refine aG ?_;simp -dsimp only[simprocAttr,↓I,zp,h3];refine ai ?_;refine cP rfl ?_;refine aG ?_;simp -dsimp only[simprocAttr,↓I,zp,h4];refine ai ?_;refine dS rfl ?_;refine dA (ai ?_);cases hA:decide ((t.to.length:Int)=0)<;>cases hB:decide (t.arg=0)<;>cases hC:decide (t.n=0)<;>cases hD:decide ((t.cases.length:Int)=0)
 all_goals
  refine aG ?_;simp -dsimp only[simprocAttr,↓I,zp,hA,hB,hC,hD];refine ai ?_;refine ak ?_;simp -dsimp only[simprocAttr,↓I,zp,zr,Tryz.results109,Bool.true_or,Bool.false_or,Bool.or_true,Bool.or_false,Bool.true_and,Bool.false_and,Bool.and_true,Bool.and_false]
theorem Bp(t:Term)(hk:¬(0<=t.kind∧t.kind<=4)):bw Tryz.prog 109 [t.enc] (.v (.bool (gD t))):=by
 have hr:gD t=false:=by
  unfold gD;have:(decide (0<=t.kind)&&decide (t.kind<=4))=false:=by
   by_cases h0:0<=t.kind<;>by_cases h4:t.kind<=4<;>simp[h0,h4]<;>omega
  rw[this];rfl
 rw[hr];have h0:decide (t.kind=0)=false:=decide_eq_false (by omega);have h1:decide (t.kind=1)=false:=decide_eq_false (by omega);have h2:decide (t.kind=2)=false:=decide_eq_false (by omega);have h3:decide (t.kind=3)=false:=decide_eq_false (by omega);have h4:decide (t.kind=4)=false:=decide_eq_false (by omega);refine zf true 0 Tryz.func109 Tryz.ntmps109 ?_;dsimp only[Tmp,TypeId,slotsOf];refine az (ai ?_);refine az (ai ?_);refine bS (ai ?_);refine ah ?_;refine aG ?_;simp -dsimp only[simprocAttr,↓I,zp,h0];refine ai ?_;refine cP rfl ?_;refine aG ?_;simp -dsimp only[simprocAttr,↓I,zp,h1];refine ai ?_;refine cP rfl ?_;refine aG ?_;simp -dsimp only[simprocAttr,↓I,zp,h2];refine ai ?_;refine cP rfl ?_;refine aG ?_;simp -dsimp only[simprocAttr,↓I,zp,h3];refine ai ?_;refine cP rfl ?_;refine aG ?_;simp -dsimp only[simprocAttr,↓I,zp,h4];refine ai ?_;refine cP rfl ?_;refine az (ai ?_);refine ak ?_;simp -dsimp only[simprocAttr,↓I,zp,zr,Tryz.results109]
theorem Dt(t:Term)(kB:t.cases.length<=2 ^ 60):bw Tryz.prog 109 [t.enc] (.v (.bool (gD t))):=by
 by_cases hk:0<=t.kind∧t.kind<=4
 ·rcases(show t.kind=0∨t.kind=1∨t.kind=2∨t.kind=3∨t.kind=4 by omega)with h|h|h|h|h
  ·exact LP t h kB
  ·exact LQ t h kB
  ·exact LR t h kB
  ·exact LS t h kB
  exact LU t h kB
 exact Bp t hk
def CE(l:List Int)(n:Int):Bool:=decide (l.findIdx (· == n)<l.length)
theorem pf(l:List Int)(n:Int):bw Tryz.prog 69 [bp l,aI n] (.v (.bool (CE l n))):=by
 have Lc:=pS l n;have hd:decide (0<=nU l n)=CE l n:=by
  unfold nU CE;by_cases h:l.findIdx (· == n)<l.length
  ·rw[if_pos h];simp[h]
  rw[if_neg h];simp[h]
 generalize nU l n=r at *;refine zf true 0 Tryz.func69 Tryz.ntmps69 ?_;dsimp only[Tmp,TypeId,slotsOf];refine az (ai ?_);refine az ?_;refine .inl ⟨_,Lc,by simp only[av,aa.upto,zt,zu,ay],ae ?_⟩;simp -dsimp only[simprocAttr,↓I,zp,hd];refine ai ?_;refine ak ?_;simp -dsimp only[simprocAttr,↓I,zp,zr,Tryz.results69]
theorem v8{u:cL}{m:Mach}{O:List aq}(aW:∀o∈O,o.upto O.length)(h0:O[2]?=some (.cells (aD u m)))(size fill:SV)(hs:SV.bj O.length size)(hf:SV.bj O.length fill)(h1:0<=m.left)(h2:m.left<=2 ^ 40)(vX:m.short=false)
  (da:∀x,((m.bU size fill).2.1).arr≠some x) :
  aK Tryz.prog 157 O [.mp 2 0,size.enc,fill.enc] (fun r O'=>r=.cN [(m.bU size fill).2.1.enc,aI (m.bU size fill).2.2]∧O'=O.set 2 (.cells (aD u (m.bU size fill).1))):=by
 have fQ:O.set 2 (.cells (aD u m))=O:=by
  obtain⟨bd,e⟩:=List.getElem?_eq_some_iff.1 h0;rw[<-e,List.set_getElem_self]
 by_cases hk:size.kind=0
 ·by_cases hn:size.n<0∨1024<size.n
  ·have hd:decide (size.kind=0)=true:=decide_eq_true hk;rcases(show size.n<0∨(¬size.n<0∧1024<size.n) by omega)with CN|⟨CN,Fk⟩
   ·have pN:decide (size.n<0)=true:=decide_eq_true CN;refine zf true O.length Tryz.func157 Tryz.ntmps157 ?_;dsimp only[Tmp,TypeId,slotsOf];refine az (ai ?_);refine aL (ah ?_);refine aG ?_;simp -dsimp only[simprocAttr,↓I,zp,hd];refine ai ?_;refine cP rfl ?_;refine aG ?_;simp -dsimp only[simprocAttr,↓I,zp,pN];refine ai ?_;refine dS rfl ?_;refine az (ai ?_);refine ak ?_;simp -dsimp only[simprocAttr,↓I,zp,zr,Tryz.results157,cC];refine⟨aW,fT,?_⟩;simp[Mach.bU,hk,hn,fQ]
   have pN:decide (size.n<0)=false:=decide_eq_false CN;have lA:decide (1024<size.n)=true:=decide_eq_true Fk;refine zf true O.length Tryz.func157 Tryz.ntmps157 ?_;dsimp only[Tmp,TypeId,slotsOf];refine az (ai ?_);refine aL (ah ?_);refine aG ?_;simp -dsimp only[simprocAttr,↓I,zp,hd];refine ai ?_;refine cP rfl ?_;refine aG ?_;simp -dsimp only[simprocAttr,↓I,zp,pN,lA];refine ai ?_;refine dS rfl ?_;refine az (ai ?_);refine ak ?_;simp -dsimp only[simprocAttr,↓I,zp,zr,Tryz.results157,cC];refine⟨aW,fT,?_⟩;simp[Mach.bU,hk,hn,fQ]
  have hd:decide (size.kind=0)=true:=decide_eq_true hk;have pN:decide (size.n<0)=false:=decide_eq_false (by omega);have lA:decide (1024<size.n)=false:=decide_eq_false (by omega);by_cases hp:m.left<size.n
  ·have lT:(m.gn size.n).short=true:=by simp[Mach.gn,hp]
   have wM:=aK.frame (vk aW h0 size.n h1 h2 (by omega)) (by simp) ⟨ag h0,trivial,trivial⟩ aW;have E8:=dF h0 (.cells (aD u (m.gn size.n)));have eX:=bx aW h0 (ds:=aD u (m.gn size.n)) (fun h=>cc h (oL m size.n));obtain⟨O1,eh⟩:∃O1,O1=O.set 2 (.cells (aD u (m.gn size.n))):=⟨_,rfl⟩
   have hlen:O.length=O1.length:=by rw[eh];simp
   have eK:(m.bU size fill)=(m.gn size.n,.zero,0):=by simp[Mach.bU,hk,hn,lT]
   rw[eK];simp only[<-eh]at wM E8 eX ⊢;have CD:∀X,(O1++X)[2]?=some (.cells (aD u (m.gn size.n))):=fun X=>dK E8;unfold aD at CD;rw[lT]at CD;rw[hlen]at eX;refine zf true O.length Tryz.func157 Tryz.ntmps157 ?_;dsimp only[Tmp,TypeId,slotsOf];refine az (ai ?_);refine aL (ah ?_);refine aG ?_;simp -dsimp only[simprocAttr,↓I,zp,hd];refine ai ?_;refine cP rfl ?_;refine aG ?_;simp -dsimp only[simprocAttr,↓I,zp,pN,lA];refine ai ?_;refine cP rfl ?_;refine k7 ?_;refine az ?_;refine .inr (.inl ⟨_,_,wM _,.inl (ae (zj ?_))⟩);refine ai ?_;refine bR ?_;simp -dsimp only[simprocAttr,↓I,zp,CD];refine ai ?_;refine dS rfl ?_;refine aG ?_;simp -dsimp only[simprocAttr,↓I,zp,hlen];refine ai ?_;refine ak ?_;simp -dsimp only[simprocAttr,↓I,zp,zr,Tryz.results157,cC,hlen];exact⟨eX,fT⟩
  exfalso;have lT:(m.gn size.n).short=false:=by simp[Mach.gn,hp,vX]
  refine da (m.next+8) ?_;simp[Mach.bU,hk,hn,lT,SV.arr]
 have hd:decide (size.kind=0)=false:=decide_eq_false hk;refine zf true O.length Tryz.func157 Tryz.ntmps157 ?_;dsimp only[Tmp,TypeId,slotsOf];refine az (ai ?_);refine aL (ah ?_);refine aG ?_;simp -dsimp only[simprocAttr,↓I,zp,hd];refine ai ?_;refine dS rfl ?_;refine az (ai ?_);refine ak ?_;simp -dsimp only[simprocAttr,↓I,zp,zr,Tryz.results157,cC];refine⟨aW,fT,?_⟩;simp[Mach.bU,hk,fQ]
theorem oQ{O X:List aq}{k:Nat}:(O++X).take (O.length+k)=O++X.take k:=by
 rw[List.take_append,List.take_of_length_le (by omega),Nat.add_sub_cancel_left]
def th(v:SV)(n k:Nat):List aa:=List.replicate k v.enc++List.replicate (n-k) (.agg [aI 0,aI 0,.aB 4 [] .ex,.v (.pointer none)])
theorem Bh{v:SV}{n k:Nat}(h:k<=n):(th v n k).length=n:=by
 simp[th];omega
theorem vw{v:SV}{n k:Nat}:∀x∈th v n k,x.cells.length=4:=fun x hx=>by
 simp only[th,List.mem_append,List.mem_replicate]at hx;rcases hx with⟨_,rfl⟩|⟨_,rfl⟩
 ·exact v.dj
 rfl
theorem FX(v:SV)(n:Nat):aw (th v n 0)=(List.replicate n [aI 0,aI 0,.aB 4 [] .ex,.v (.pointer none)]).flatten:=by
 simp[th,aw,List.flatMap,aa.cells]
theorem FW{v:SV}{n k:Nat}(h:k<n):(th v n k).set k v.enc=th v n (k+1):=by
 obtain⟨j,hj⟩:∃j,n-k=j+1:=⟨n-k-1,by omega⟩
 unfold th;rw[hj,show n-(k+1)=j by omega,List.set_append_right _ _ (by simp),List.replicate_succ' (n:=k)];simp[List.replicate_succ]
theorem Ix(v:SV)(n:Nat):th v n n=(List.replicate n v).map SV.enc:=by simp[th]
theorem zM{u:cL}{m:Mach}{O:List aq}(aW:∀o∈O,o.upto O.length)(h0:O[2]?=some (.cells (aD u m)))(size fill:SV)(hs:SV.bj O.length size)(hf:SV.bj O.length fill)(h1:0<=m.left)(h2:m.left<=2 ^ 40)(vX:m.short=false)
  (hk:size.kind=0) (CN:0<=size.n) (Fk:size.n<=1024) (hp:size.n<=m.left) :
  aK Tryz.prog 157 O [.mp 2 0,size.enc,fill.enc] (fun r O'=>r=.cN [.agg [aI 3,aI 0,.aB 4 [] .sh,.mp (O.length+4) 0],aI 0]∧O'=O.set 2 (.cells (aD u (m.gn size.n))) ++
   [.gone,.gone,.cells [aI 3,aI 0,.aB 4 [] .ex,.mp (O.length+4) 0],.cells (aw ((List.replicate size.n.toNat fill).map SV.enc)),.cells [.ms (O.length+3) 0 size.n.toNat size.n.toNat]]):=by
 have hd:decide (size.kind=0)=true:=decide_eq_true hk;have pN:decide (size.n<0)=false:=decide_eq_false (by omega);have lA:decide (1024<size.n)=false:=decide_eq_false (by omega);have lT:(m.gn size.n).short=false:=by simp[Mach.gn,vX,show ¬m.left<size.n by omega]
 have wM:=aK.frame (vk aW h0 size.n h1 h2 (by omega)) (by simp) ⟨ag h0,trivial,trivial⟩ aW;have E8:=dF h0 (.cells (aD u (m.gn size.n)));have eX:=bx aW h0 (ds:=aD u (m.gn size.n)) (fun h=>cc h (oL m size.n));obtain⟨O1,eh⟩:∃O1,O1=O.set 2 (.cells (aD u (m.gn size.n))):=⟨_,rfl⟩
 have hlen:O.length=O1.length:=by rw[eh];simp
 simp only[<-eh]at wM E8 eX ⊢;have CD:∀X,(O1++X)[2]?=some (.cells (aD u (m.gn size.n))):=fun X=>dK E8;unfold aD at CD;rw[lT]at CD;rw[hlen]at eX;obtain⟨n,hn⟩:∃n:Nat,size.n=n:=⟨size.n.toNat,by omega⟩
 refine zf true (O.length+5) Tryz.func157 Tryz.ntmps157 ?_;dsimp only[Tmp,TypeId,slotsOf];refine az (ai ?_);refine ck 4 0 ([aI size.kind,aI size.n,.aB 4 (size.list.map SV.enc) .sh,eP size.arr]) rfl rfl (by simp only[List.map_cons,List.map_nil,cT,cq,dQ,dR,dP,dN,dO,cz]) ?_;simp -dsimp only[simprocAttr,↓I,zp];refine ck 5 1 ([aI fill.kind,aI fill.n,.aB 4 (fill.list.map SV.enc) .sh,eP fill.arr]) rfl rfl (by simp only[List.map_cons,List.map_nil,cT,cq,dQ,dR,dP,dN,dO,cz]) ?_;simp -dsimp only[simprocAttr,↓I,zp];refine aL (ah ?_);refine aG ?_;simp -dsimp only[simprocAttr,↓I,zp,hd];refine ai ?_;apply aF rfl<;>intro h
 ·cases h
 refine aG ?_;simp -dsimp only[simprocAttr,↓I,zp,pN,lA];refine ai ?_;apply aF rfl<;>intro h
 ·cases h
 refine k7 ?_;refine az ?_;refine .inr (.inl ⟨_,_,wM _,.inl (ae (zj ?_))⟩);refine ai ?_;refine bR ?_;simp -dsimp only[simprocAttr,↓I,zp,CD];refine ai ?_;apply aF rfl<;>intro h
 ·cases h
 refine bZ ?_;refine aG ?_;simp -dsimp only[simprocAttr,↓I,zp,hlen,hn]
 repeat(refine⟨by omega,?_⟩)
 refine ai ?_;refine bR ?_;simp -dsimp only[simprocAttr,↓I,zp,hlen,hn];refine ai ?_;refine ah (a8 (ι:={j:Nat // j<=n}) (fun j=>⟨48,[(5,.ip none [aI fill.kind,aI fill.n,.aB 4 (fill.list.map SV.enc) .sh,eP fill.arr]),(6,.mp (O1.length+2) 0),(7,aI 0),(8,.mp (O1.length+4) 0),(38,aI n),(39,aI j.1)],O1++[.gone,.gone,.cells [aI 0,aI 0,.aB 4 [] .ex,.v (.pointer none)],.cells (aw (th fill n j.1)),.cells [.ms (O1.length+3) 0 n n]]⟩) (fun j=>n-j.1) ⟨0,by omega⟩ ?_ ?_)
 ·refine zq rfl ?_ ?_;simp -dsimp only[simprocAttr,↓I,zp,zc];rw[FX]
 rintro⟨j,hj⟩;refine az (ai ?_);apply fK rfl<;>intro h
 ·refine bZ ?_;have bd:j<n:=by simpa using h
  have di:=cj (vw (v:=fill) (n:=n) (k:=j));rw[Bh hj]at di;have fQ:=mH (vw (v:=fill) (n:=n) (k:=j)) (k:=j) (by rw[Bh hj];exact bd) fill.dj;rw[FW bd,SV.an]at fQ;refine aL (ah ?_);refine az (ai ?_);refine fE ?_;simp -dsimp only[simprocAttr,↓I,zp,di,fQ]
  repeat(refine⟨by omega,?_⟩)
  refine ai ?_;refine dA ?_
  repeat(refine⟨by omega,?_⟩)
  refine kv ?_;refine⟨⟨j+1,bd⟩,by simp;omega,?_⟩;refine zq rfl ?_ ?_;simp -dsimp only[simprocAttr,↓I,zp,zc]
  ·exact Sub.int (by simp)
  rfl
 refine aN ?_;simp -dsimp only[bH,ne_eq,Nat.reduceEqDiff,reduceCtorEq];have uR:j=n:=by simp at h;omega
 subst uR;refine az (ai ?_);refine ak ?_;simp -dsimp only[simprocAttr,↓I,zp,zr,Tryz.results157,hlen];have X0:size.n.toNat=j:=by omega
 have kC:∀v∈List.replicate j fill,SV.bj (O1.length+5) v:=fun v hv=>by
  rw[(List.mem_replicate.1 hv).2];exact hf.mono (by omega)
 rw[oQ,X0,Ix];refine⟨fun o ho=>?_,by simp[av,aa.upto],rfl⟩;rcases List.mem_append.1 ho with ho|ho
 ·exact aq.cR (by omega) (eX o ho)
 have hc:=SV.jy kC;simp only[List.take_succ_cons,List.take_zero,List.mem_cons,List.mem_nil_iff,or_false]at ho;rcases ho with rfl|rfl|rfl|rfl|rfl
 ·trivial
 ·trivial
 ·simp[aq.upto,av,aa.upto]
 ·exact hc
 simp[aq.upto,av,aa.upto]
theorem kX{O X:List aq}{k:Nat}{x y:aq}(h:O[k]?=some x):(O++X).set k y=O.set k y++X:=by
 rw[List.set_append_left _ _ (ag h)]
theorem mq{O:List aq}{k:Nat}{x:aq}(h:O[k]?=some x):O.set k x=O:=by
 obtain⟨bd,e⟩:=List.getElem?_eq_some_iff.1 h;rw[<-e,List.set_getElem_self]
theorem yr{u:cL}{m:Mach}{O:List aq}(aW:∀o∈O,o.upto O.length)(h0:O[2]?=some (.cells (aD u m)))(wP:O[3]?=some (.spare m.out.length))(i:bI)(args:List SV)(hl:∀v∈args,SV.bj O.length v)
  (gz:i.op=15) (x:SV) (hx:args[0]?=some x) (ho:m.out.length<=1000) :
  aK Tryz.prog 106 O [.mp 2 0,i.enc,.aB 4 (args.map SV.enc) .sh] (fun r O'=>r=.cN [(m.effect i args).2.1.enc,aI (m.effect i args).2.2]∧O'=(O.set 3 (.spare (m.effect i args).1.out.length)).set 2 (.cells (aD u (m.effect i args).1))):=by
 have uO:=gf hx;have kS:decide (i.op=15)=true:=decide_eq_true gz;have ir:(O.set 3 (.spare m.out.length)).set 2 (.cells (aD u m))=O:=by rw[mq wP,mq h0]
 have E7:∀X,(O++X)[2]?=some (.cells (aD u m)):=fun X=>dK h0;have KV:∀X,(O++X)[3]?=some (.spare m.out.length):=fun X=>dK wP;unfold aD at E7;by_cases hk:x.kind=0
 ·have hd:decide (x.kind=0)=true:=decide_eq_true hk;by_cases hf:m.out.length=1000
  ·have PK:decide ((m.out.length:Int)=1000)=true:=decide_eq_true (by omega);have eK:m.effect i args=(m,.zero,6):=by simp[Mach.effect,gz,uO,hk,hf]
   rw[eK];refine zf true O.length Tryz.func106 Tryz.ntmps106 ?_;dsimp only[Tmp,TypeId,slotsOf];refine az (ai ?_);refine ck 4 0 ([aI i.to,aI i.op,aI i.n,bp i.args]) rfl rfl (by rfl) ?_;simp -dsimp only[simprocAttr,↓I,zp];refine bR ?_;simp -dsimp only[simprocAttr,↓I,zp,kS];refine ai ?_;refine ah ?_;refine aG ?_;simp -dsimp only[simprocAttr,↓I,zp,kS];refine ai ?_;refine dS rfl ?_;refine bR ?_;simp -dsimp only[simprocAttr,↓I,zp,hx,hd];refine ai ?_;refine cP rfl ?_;refine bZ ?_;refine bR ?_;simp -dsimp only[simprocAttr,↓I,zp,E7,PK];refine ai ?_;refine dS rfl ?_;refine az (ai ?_);refine ak ?_;simp -dsimp only[simprocAttr,↓I,zp,zr,Tryz.results106,cC,ir];exact⟨aW,fT⟩
  have PK:decide ((m.out.length:Int)=1000)=false:=decide_eq_false (by omega);have eK:m.effect i args=({ m with out:=m.out++[x.n] },.word 0,0):=by simp[Mach.effect,gz,uO,hk,hf]
  rw[eK];obtain⟨m',eN⟩:∃m',m' = { m with out:=m.out++[x.n] }:=⟨_,rfl⟩
  have Kr:=bN (k:=2) (j:=3) (y:=.spare (m.out.length+1)) h0 (by omega);have hp:[cn u.fns,aI u.main,.os m.sid m.frames.length 1,aI m.left,.v (.bool m.short),.v (.bool m.over),.aB 1 (m.out.map aI++[aI x.n]) (.tok 3),aI m.fin,aI m.val]=aD u m':=by
   rw[eN];simp[aD]
  obtain⟨O2,tt⟩:∃O2,O2=(O.set 3 (.spare (m.out.length+1))).set 2 (.cells (aD u m')):=⟨_,rfl⟩
  have hlen:O.length=O2.length:=by rw[tt];simp
  have iz:∀o∈O2,o.upto O2.length:=by
   rw[<-hlen,tt];exact bx (bT aW trivial) Kr (fun h=>cc h (by rw[eN]))
  have e1:∀X,(O++X).set 3 (.spare (m.out.length+1))=O.set 3 (.spare (m.out.length+1))++X:=fun X=>kX wP;have e2:∀X y,(O.set 3 (.spare (m.out.length+1))++X).set 2 y=(O.set 3 (.spare (m.out.length+1))).set 2 y++X:=fun X y=>kX Kr;have e3:∀X,(O.set 3 (.spare (m.out.length+1))++X)[2]?=some (.cells (aD u m)):=fun X=>dK Kr;unfold aD at e3;have RZ:m'.out.length=m.out.length+1:=by rw[eN];simp
  rw[<-eN];simp only[RZ,<-tt];refine zf true O.length Tryz.func106 Tryz.ntmps106 ?_;dsimp only[Tmp,TypeId,slotsOf];refine az (ai ?_);refine ck 4 0 ([aI i.to,aI i.op,aI i.n,bp i.args]) rfl rfl (by rfl) ?_;simp -dsimp only[simprocAttr,↓I,zp];refine bR ?_;simp -dsimp only[simprocAttr,↓I,zp,kS];refine ai ?_;refine ah ?_;refine aG ?_;simp -dsimp only[simprocAttr,↓I,zp,kS];refine ai ?_;refine dS rfl ?_;refine bR ?_;simp -dsimp only[simprocAttr,↓I,zp,hx,hd];refine ai ?_;refine cP rfl ?_;refine bZ ?_;refine bR ?_;simp -dsimp only[simprocAttr,↓I,zp,E7,PK];refine ai ?_;refine cP rfl ?_;refine bZ ?_;refine aG ?_;simp -dsimp only[simprocAttr,↓I,zp,E7,hx,KV,e1,e2,e3,hp,<-tt]
  repeat(refine⟨by omega,?_⟩)
  refine⟨ob (by kernel_rfl),?_⟩;refine ai ?_;refine aG ?_;simp -dsimp only[simprocAttr,↓I,zp,hlen];refine .inl ⟨_,c9 0,by simp only[av,aa.upto,zt,zu,ay],ae ?_⟩;simp -dsimp only[simprocAttr,↓I,zp,dz];refine ai ?_;refine ak ?_;simp -dsimp only[simprocAttr,↓I,zp,zr,Tryz.results106,fu,hlen];exact⟨iz,lJ⟩
 have hd:decide (x.kind=0)=false:=decide_eq_false hk;have eK:m.effect i args=(m,.zero,5):=by simp[Mach.effect,gz,uO,hk]
 rw[eK];refine zf true O.length Tryz.func106 Tryz.ntmps106 ?_;dsimp only[Tmp,TypeId,slotsOf];refine az (ai ?_);refine ck 4 0 ([aI i.to,aI i.op,aI i.n,bp i.args]) rfl rfl (by rfl) ?_;simp -dsimp only[simprocAttr,↓I,zp];refine bR ?_;simp -dsimp only[simprocAttr,↓I,zp,kS];refine ai ?_;refine ah ?_;refine aG ?_;simp -dsimp only[simprocAttr,↓I,zp,kS];refine ai ?_;refine dS rfl ?_;refine bR ?_;simp -dsimp only[simprocAttr,↓I,zp,hx,hd];refine ai ?_;refine dS rfl ?_;refine az (ai ?_);refine ak ?_;simp -dsimp only[simprocAttr,↓I,zp,zr,Tryz.results106,cC,ir];exact⟨aW,fT⟩
theorem Ai{u:cL}{m:Mach}{O:List aq}(aW:∀o∈O,o.upto O.length)(h0:O[2]?=some (.cells (aD u m)))(i:bI)(size fill:SV)(hs:SV.bj O.length size)(hf:SV.bj O.length fill)
  (gz:i.op=16) (h1:0<=m.left) (h2:m.left<=2 ^ 40) (vX:m.short=false) (da:∀x,((m.bU size fill).2.1).arr≠some x) :
  aK Tryz.prog 106 O [.mp 2 0,i.enc,.aB 4 [size.enc,fill.enc] .sh] (fun r O'=>r=.cN [(m.bU size fill).2.1.enc,aI (m.bU size fill).2.2]∧O'=O.set 2 (.cells (aD u (m.bU size fill).1))):=by
 have kS:decide (i.op=15)=false:=decide_eq_false (by omega);have o5:decide (i.op=16)=true:=decide_eq_true (by omega);have dY:=aK.frame (v8 aW h0 size fill hs hf h1 h2 vX da) (by simp) ⟨ag h0,hs.aS,hf.aS,trivial⟩ aW;have VG:(m.bU size fill).1.sid=m.sid:=by
  unfold Mach.bU
  repeat' split
  all_goals first|rfl|exact oL _ _
 have eX:=bx aW h0 (ds:=aD u (m.bU size fill).1) (fun h=>cc h VG);have pR:SV.bj O.length (m.bU size fill).2.1:=by
  have:∀r:Mach×SV×Int,r=m.bU size fill->r.2.1=SV.zero∨∃x,r.2.1.arr=some x:=fun r hr=>by
   subst hr;unfold Mach.bU
   repeat' split
   all_goals first|exact .inl rfl|exact .inr ⟨_,rfl⟩
  rcases this _ rfl with e|⟨x,e⟩
  ·rw[e];exact qf _
  exact absurd e (da x)
 generalize m.bU size fill=R at *;obtain⟨O1,eh⟩:∃O1,O1=O.set 2 (.cells (aD u R.1)):=⟨_,rfl⟩
 have hlen:O.length=O1.length:=by rw[eh];simp
 simp only[<-eh]at dY eX ⊢;rw[hlen]at eX pR;refine zf true O.length Tryz.func106 Tryz.ntmps106 ?_;dsimp only[Tmp,TypeId,slotsOf];refine az (ai ?_);refine ck 4 0 ([aI i.to,aI i.op,aI i.n,bp i.args]) rfl rfl (by rfl) ?_;simp -dsimp only[simprocAttr,↓I,zp];refine bS (ai ?_);refine ah ?_;refine aG ?_;simp -dsimp only[simprocAttr,↓I,zp,kS];refine ai ?_;refine cP rfl ?_;refine aG ?_;simp -dsimp only[simprocAttr,↓I,zp,o5];refine ai ?_;refine dS rfl ?_;refine az ?_;refine .inr (.inl ⟨_,_,dY _,.inl (ae ?_)⟩);simp -dsimp only[simprocAttr,↓I,zp,hlen];refine⟨ob (by kernel_rfl),?_⟩;refine ai ?_;refine ak ?_;simp -dsimp only[simprocAttr,↓I,zp,zr,Tryz.results106,hlen];exact⟨eX,vv pR⟩
theorem E0{u:cL}{m:Mach}{O:List aq}(aW:∀o∈O,o.upto O.length)(h0:O[2]?=some (.cells (aD u m)))(i:bI)(size fill:SV)(hs:SV.bj O.length size)(hf:SV.bj O.length fill)
  (gz:i.op=16) (h1:0<=m.left) (h2:m.left<=2 ^ 40) (vX:m.short=false) (hk:size.kind=0) (CN:0<=size.n) (Fk:size.n<=1024) (hp:size.n<=m.left) :
  aK Tryz.prog 106 O [.mp 2 0,i.enc,.aB 4 [size.enc,fill.enc] .sh] (fun r O'=>r=.cN [.agg [aI 3,aI 0,.aB 4 [] .sh,.mp (O.length+6) 0],aI 0]∧O'=O.set 2 (.cells (aD u (m.gn size.n))) ++
   [.gone,.cells [aI 3,aI 0,.aB 4 [] .sh,.mp (O.length+6) 0],.gone,.gone,.cells [aI 3,aI 0,.aB 4 [] .ex,.mp (O.length+6) 0],.cells (aw ((List.replicate size.n.toNat fill).map SV.enc)),.cells [.ms (O.length+5) 0 size.n.toNat size.n.toNat]]):=by
 have kS:decide (i.op=15)=false:=decide_eq_false (by omega);have o5:decide (i.op=16)=true:=decide_eq_true (by omega);have Ft:∀o∈O++[.gone,.cells [aI 0,aI 0,.aB 4 [] .ex,.v (.pointer none)]],o.upto (O++[aq.gone,.cells [aI 0,aI 0,.aB 4 [] .ex,.v (.pointer none)]]).length:=fun o ho=>by
  rcases List.mem_append.1 ho with ho|ho
  ·exact aq.cR (by simp) (aW o ho)
  simp only[List.mem_cons,List.mem_nil_iff,or_false]at ho;rcases ho with rfl|rfl
  ·trivial
  simp[aq.upto,av,aa.upto]
 have Vk:(O++[aq.gone,.cells [aI 0,aI 0,.aB 4 [] .ex,.v (.pointer none)]]).length=O.length+2:=by simp
 have dY:=zM Ft (dK h0) size fill (hs.mono (by simp)) (hf.mono (by simp)) h1 h2 vX hk CN Fk hp;have E8:=dF h0 (.cells (aD u (m.gn size.n)));have eX:=bx aW h0 (ds:=aD u (m.gn size.n)) (fun h=>cc h (oL m size.n));rw[kX h0,Vk]at dY;obtain⟨O1,eh⟩:∃O1,O1=O.set 2 (.cells (aD u (m.gn size.n))):=⟨_,rfl⟩
 have hlen:O.length=O1.length:=by rw[eh];simp
 simp only[<-eh]at dY eX ⊢;rw[hlen]at eX;have kC:∀v∈List.replicate size.n.toNat fill,SV.bj (O1.length+7) v:=fun v hv=>by
  rw[(List.mem_replicate.1 hv).2];exact hf.mono (by omega)
 have hc:=SV.jy kC;generalize di:aw ((List.replicate size.n.toNat fill).map SV.enc)=row at *;refine zf true (O.length+7) Tryz.func106 Tryz.ntmps106 ?_;dsimp only[Tmp,TypeId,slotsOf];refine az (ai ?_);refine ck 4 0 ([aI i.to,aI i.op,aI i.n,bp i.args]) rfl rfl (by rfl) ?_;simp -dsimp only[simprocAttr,↓I,zp];refine bS (ai ?_);refine ah ?_;refine aG ?_;simp -dsimp only[simprocAttr,↓I,zp,kS];refine ai ?_;refine cP rfl ?_;refine aG ?_;simp -dsimp only[simprocAttr,↓I,zp,o5];refine ai ?_;refine dS rfl ?_;refine az ?_;refine .inr (.inl ⟨_,_,dY,.inl (ae ?_)⟩);simp -dsimp only[simprocAttr,↓I,zp,hlen];refine⟨ob (by kernel_rfl),?_⟩;refine ai ?_;refine ak ?_;simp -dsimp only[simprocAttr,↓I,zp,zr,Tryz.results106,hlen];rw[oQ];refine⟨fun o ho=>?_,by simp[av,aa.upto],rfl⟩;rcases List.mem_append.1 ho with ho|ho
 ·exact aq.cR (by omega) (eX o ho)
 simp only[List.take_succ_cons,List.take_zero,List.mem_cons,List.mem_nil_iff,or_false]at ho;rcases ho with rfl|rfl|rfl|rfl|rfl|rfl|rfl
 ·trivial
 ·simp[aq.upto,av,aa.upto]
 ·trivial
 ·trivial
 ·simp[aq.upto,av,aa.upto]
 ·exact hc
 simp[aq.upto,av,aa.upto]
theorem yq{u:cL}{m:Mach}{O:List aq}(aW:∀o∈O,o.upto O.length)(i:bI)(x y:SV)(hx:SV.bj O.length x)(hy:SV.bj O.length y)(nj:2<O.length)
  (gz:i.op=18):aK Tryz.prog 106 O [.mp 2 0,i.enc,.aB 4 [x.enc,y.enc] .sh] (fun r O'=>r=.cN [(m.effect i [x,y]).2.1.enc,aI (m.effect i [x,y]).2.2]∧O'=O):=by
 have hl:∀v∈[x,y],SV.bj O.length v:=fun v hv=>by
  simp only[List.mem_cons,List.mem_nil_iff,or_false]at hv;rcases hv with rfl|rfl
  ·exact hx
  exact hy
 have kS:decide (i.op=15)=false:=decide_eq_false (by omega);have o5:decide (i.op=16)=false:=decide_eq_false (by omega);have ta:decide (i.op=18)=true:=decide_eq_true (by omega);have dt:=x7 aW [x,y] hl 0;have ha:cJ [x,y] 0=x∧cJ [x,y] 1=y:=⟨rfl,rfl⟩
 cases hk:kN [x,y] 0 with
 | false =>
  simp only[hk,List.map_cons,List.map_nil]at dt;refine zf true O.length Tryz.func106 Tryz.ntmps106 ?_;dsimp only[Tmp,TypeId,slotsOf];refine az (ai ?_);refine ck 4 0 ([aI i.to,aI i.op,aI i.n,bp i.args]) rfl rfl (by rfl) ?_;simp -dsimp only[simprocAttr,↓I,zp];refine bS (ai ?_);refine ah ?_;refine aG ?_;simp -dsimp only[simprocAttr,↓I,zp,kS];refine ai ?_;refine cP rfl ?_;refine aG ?_;simp -dsimp only[simprocAttr,↓I,zp,o5];refine ai ?_;refine cP rfl ?_;refine aG ?_;simp -dsimp only[simprocAttr,↓I,zp,ta];refine ai ?_;refine dS rfl ?_;refine bS ?_;refine .inr (.inr ⟨_,dt _,ae (zj ?_)⟩);refine ai ?_;refine dS rfl ?_;refine az (ai ?_);refine ak ?_;simp -dsimp only[simprocAttr,↓I,zp,zr,Tryz.results106,cC];refine⟨aW,fT,?_⟩;simp[Mach.effect,gz,hk]
 | true =>
  simp only[hk,List.map_cons,List.map_nil]at dt;by_cases hb:x.n<0∨y.n<=x.n
  ·have vU:decide (x.n<0)=true∨(decide (x.n<0)=false∧decide (y.n<=x.n)=true):=by
    by_cases h1:x.n<0
    ·exact .inl (decide_eq_true h1)
    exact .inr ⟨decide_eq_false h1,decide_eq_true (by omega)⟩
   rcases vU with vU|⟨vU,AD⟩
   ·refine zf true O.length Tryz.func106 Tryz.ntmps106 ?_;dsimp only[Tmp,TypeId,slotsOf];refine az (ai ?_);refine ck 4 0 ([aI i.to,aI i.op,aI i.n,bp i.args]) rfl rfl (by rfl) ?_;simp -dsimp only[simprocAttr,↓I,zp];refine bS (ai ?_);refine ah ?_;refine aG ?_;simp -dsimp only[simprocAttr,↓I,zp,kS];refine ai ?_;refine cP rfl ?_;refine aG ?_;simp -dsimp only[simprocAttr,↓I,zp,o5];refine ai ?_;refine cP rfl ?_;refine aG ?_;simp -dsimp only[simprocAttr,↓I,zp,ta];refine ai ?_;refine dS rfl ?_;refine bS ?_;refine .inr (.inr ⟨_,dt _,ae (zj ?_)⟩);refine ai ?_;refine cP rfl ?_;refine bZ ?_;refine bR ?_;simp -dsimp only[simprocAttr,↓I,zp,vU];refine⟨ob (by kernel_rfl),?_⟩;refine ai ?_;refine dS rfl ?_;refine az (ai ?_);refine ak ?_;simp -dsimp only[simprocAttr,↓I,zp,zr,Tryz.results106,cC];refine⟨aW,fT,?_⟩;simp[Mach.effect,gz,hk,ha,hb]
   refine zf true O.length Tryz.func106 Tryz.ntmps106 ?_;dsimp only[Tmp,TypeId,slotsOf];refine az (ai ?_);refine ck 4 0 ([aI i.to,aI i.op,aI i.n,bp i.args]) rfl rfl (by rfl) ?_;simp -dsimp only[simprocAttr,↓I,zp];refine bS (ai ?_);refine ah ?_;refine aG ?_;simp -dsimp only[simprocAttr,↓I,zp,kS];refine ai ?_;refine cP rfl ?_;refine aG ?_;simp -dsimp only[simprocAttr,↓I,zp,o5];refine ai ?_;refine cP rfl ?_;refine aG ?_;simp -dsimp only[simprocAttr,↓I,zp,ta];refine ai ?_;refine dS rfl ?_;refine bS ?_;refine .inr (.inr ⟨_,dt _,ae (zj ?_)⟩);refine ai ?_;refine cP rfl ?_;refine bZ ?_;refine bR ?_;simp -dsimp only[simprocAttr,↓I,zp,vU,AD];refine⟨ob (by kernel_rfl),?_⟩;refine ai ?_;refine dS rfl ?_;refine az (ai ?_);refine ak ?_;simp -dsimp only[simprocAttr,↓I,zp,zr,Tryz.results106,cC];refine⟨aW,fT,?_⟩;simp[Mach.effect,gz,hk,ha,hb]
  have vU:decide (x.n<0)=false:=decide_eq_false (by omega);have AD:decide (y.n<=x.n)=false:=decide_eq_false (by omega);refine zf true O.length Tryz.func106 Tryz.ntmps106 ?_;dsimp only[Tmp,TypeId,slotsOf];refine az (ai ?_);refine ck 4 0 ([aI i.to,aI i.op,aI i.n,bp i.args]) rfl rfl (by rfl) ?_;simp -dsimp only[simprocAttr,↓I,zp];refine bS (ai ?_);refine ah ?_;refine aG ?_;simp -dsimp only[simprocAttr,↓I,zp,kS];refine ai ?_;refine cP rfl ?_;refine aG ?_;simp -dsimp only[simprocAttr,↓I,zp,o5];refine ai ?_;refine cP rfl ?_;refine aG ?_;simp -dsimp only[simprocAttr,↓I,zp,ta];refine ai ?_;refine dS rfl ?_;refine bS ?_;refine .inr (.inr ⟨_,dt _,ae (zj ?_)⟩);refine ai ?_;refine cP rfl ?_;refine bZ ?_;refine bR ?_;simp -dsimp only[simprocAttr,↓I,zp,vU,AD];refine⟨ob (by kernel_rfl),?_⟩;refine ai ?_;refine cP rfl ?_;refine bZ ?_;refine az ?_;refine .inl ⟨_,c9 0,by simp only[av,aa.upto,zt,zu,ay],ae ?_⟩;simp -dsimp only[simprocAttr,↓I,zp,dz];refine ai ?_;refine ak ?_;simp -dsimp only[simprocAttr,↓I,zp,zr,Tryz.results106,fu];refine⟨aW,lJ,?_⟩;simp[Mach.effect,gz,hk,ha,hb]
def Kv(m m':Mach)(a:Option Nat)(O O':List aq):Prop :=
 (O'=O∧m'=m)∨∃(lI nJ k:Nat) (z:SV) (l:List SV),a=some lI∧O[lI]?=some (.cells [.ms nJ 0 l.length l.length])∧O[nJ]?=some (.cells (aw (l.map SV.enc)))∧k<l.length∧l=Mach.jU m.heap a∧SV.bj O.length z ∧
  O'=O.set nJ (.cells (aw ((l.set k z).map SV.enc)))∧m' = { m with heap:=Mach.kk m.heap a (l.set k z) }
theorem Ct{m:Mach}{O:List aq}(aW:∀o∈O,o.upto O.length)(i:bI)(args:List SV)(hl:∀v∈args,SV.bj O.length v)(x:SV)(hx:args[0]?=some x)
  (Oi:i.op≠15) (KY:i.op≠16) (Oj:i.op≠18) (h1:i.op≠17->∃y,args[1]?=some y) (h2:i.op≠17->i.op≠19->∃z,args[2]?=some z)
  (hu:∀v∈Mach.jU m.heap x.arr,SV.bj O.length v) (ha:x.kind=3->∃lI nJ,x.arr=some lI∧O[lI]?=some (.cells [.ms nJ 0 (Mach.jU m.heap x.arr).length (Mach.jU m.heap x.arr).length])∧O[nJ]?=some (.cells (aw ((Mach.jU m.heap x.arr).map SV.enc)))) :
  ∃O',aK Tryz.prog 106 O [.mp 2 0,i.enc,.aB 4 (args.map SV.enc) .sh] (fun r O1=>r=.cN [(m.effect i args).2.1.enc,aI (m.effect i args).2.2]∧O1=O')∧Kv m (m.effect i args).1 x.arr O O':=by
 have uO:=gf hx;have kS:decide (i.op=15)=false:=decide_eq_false (by omega);have o5:decide (i.op=16)=false:=decide_eq_false (by omega);have ta:decide (i.op=18)=false:=decide_eq_false (by omega);by_cases hk:x.kind=3
 ·have Ow:decide (x.kind=3)=true:=decide_eq_true hk;obtain⟨lI,nJ,e1,e2,e3⟩:=ha hk;have SP:eP x.arr=.mp lI 0:=by rw[e1];rfl
  have Wm:=hu;generalize hL:Mach.jU m.heap x.arr=L at *;have Sm:∀X,(O++X)[lI]?=some (.cells [.ms nJ 0 L.length L.length]):=fun X=>dK e2;have We:∀X,(O++X)[nJ]?=some (.cells (aw (L.map SV.enc))):=fun X=>dK e3;by_cases KZ:i.op=17
  ·have s9:decide (i.op=17)=true:=decide_eq_true KZ;have eK:m.effect i args=(m,.word L.length,0):=by simp[Mach.effect,KZ,uO,hk,hL]
   rw[eK];refine⟨O,?_,.inl ⟨rfl,rfl⟩⟩;refine zf true O.length Tryz.func106 Tryz.ntmps106 ?_;dsimp only[Tmp,TypeId,slotsOf];refine az (ai ?_);refine ck 4 0 ([aI i.to,aI i.op,aI i.n,bp i.args]) rfl rfl (by rfl) ?_;simp -dsimp only[simprocAttr,↓I,zp];refine bS (ai ?_);refine ah ?_;refine aG ?_;simp -dsimp only[simprocAttr,↓I,zp,kS];refine ai ?_;refine cP rfl ?_;refine aG ?_;simp -dsimp only[simprocAttr,↓I,zp,o5];refine ai ?_;refine cP rfl ?_;refine aG ?_;simp -dsimp only[simprocAttr,↓I,zp,ta];refine ai ?_;refine cP rfl ?_;refine k7 ?_;refine bR ?_;simp -dsimp only[simprocAttr,↓I,zp,hx,Ow,s9];refine ai ?_;refine cP rfl ?_;refine bZ ?_;refine aG ?_;simp -dsimp only[simprocAttr,↓I,zp,hx,SP,Sm];refine ai ?_;refine bR ?_;simp -dsimp only[simprocAttr,↓I,zp,s9];refine ai ?_;refine dS rfl ?_;refine az ?_;refine .inl ⟨_,c9 L.length,by simp only[av,aa.upto,zt,zu,ay],ae ?_⟩;simp -dsimp only[simprocAttr,↓I,zp,dz];refine ai ?_;refine ak ?_;simp -dsimp only[simprocAttr,↓I,zp,zr,Tryz.results106,fu];exact⟨aW,lJ⟩
  have s9:decide (i.op=17)=false:=decide_eq_false KZ;obtain⟨y,hy⟩:=h1 KZ;have RR:=gf hy;by_cases Fv:y.kind=0
  ·have Gz:decide (y.kind=0)=true:=decide_eq_true Fv;by_cases hb:y.n<0∨(L.length:Int)<=y.n
   ·have eK:m.effect i args=(m,.zero,2):=by simp[Mach.effect,Oi,KY,Oj,KZ,uO,RR,hk,Fv,hL,hb]
    rw[eK];refine⟨O,?_,.inl ⟨rfl,rfl⟩⟩;rcases(show y.n<0∨(¬y.n<0∧(L.length:Int)<=y.n) by omega)with D4|⟨D4,rM⟩
    ·have vU:decide (y.n<0)=true:=decide_eq_true D4;refine zf true O.length Tryz.func106 Tryz.ntmps106 ?_;dsimp only[Tmp,TypeId,slotsOf];refine az (ai ?_);refine ck 4 0 ([aI i.to,aI i.op,aI i.n,bp i.args]) rfl rfl (by rfl) ?_;simp -dsimp only[simprocAttr,↓I,zp];refine bS (ai ?_);refine ah ?_;refine aG ?_;simp -dsimp only[simprocAttr,↓I,zp,kS];refine ai ?_;refine cP rfl ?_;refine aG ?_;simp -dsimp only[simprocAttr,↓I,zp,o5];refine ai ?_;refine cP rfl ?_;refine aG ?_;simp -dsimp only[simprocAttr,↓I,zp,ta];refine ai ?_;refine cP rfl ?_;refine k7 ?_;refine bR ?_;simp -dsimp only[simprocAttr,↓I,zp,hx,hy,Ow,s9,Gz];refine ai ?_;refine cP rfl ?_;refine bZ ?_;refine aG ?_;simp -dsimp only[simprocAttr,↓I,zp,hx,SP,Sm];refine ai ?_;refine bR ?_;simp -dsimp only[simprocAttr,↓I,zp,s9];refine ai ?_;refine cP rfl ?_;refine bZ ?_;refine aG ?_;simp -dsimp only[simprocAttr,↓I,zp,hy];refine ai ?_;refine bR ?_;simp -dsimp only[simprocAttr,↓I,zp,vU];refine ai ?_;refine dS rfl ?_;refine az (ai ?_);refine ak ?_;simp -dsimp only[simprocAttr,↓I,zp,zr,Tryz.results106,cC];exact⟨aW,fT⟩
    have vU:decide (y.n<0)=false:=decide_eq_false D4;have AD:decide ((L.length:Int)<=y.n)=true:=decide_eq_true rM;refine zf true O.length Tryz.func106 Tryz.ntmps106 ?_;dsimp only[Tmp,TypeId,slotsOf];refine az (ai ?_);refine ck 4 0 ([aI i.to,aI i.op,aI i.n,bp i.args]) rfl rfl (by rfl) ?_;simp -dsimp only[simprocAttr,↓I,zp];refine bS (ai ?_);refine ah ?_;refine aG ?_;simp -dsimp only[simprocAttr,↓I,zp,kS];refine ai ?_;refine cP rfl ?_;refine aG ?_;simp -dsimp only[simprocAttr,↓I,zp,o5];refine ai ?_;refine cP rfl ?_;refine aG ?_;simp -dsimp only[simprocAttr,↓I,zp,ta];refine ai ?_;refine cP rfl ?_;refine k7 ?_;refine bR ?_;simp -dsimp only[simprocAttr,↓I,zp,hx,hy,Ow,s9,Gz];refine ai ?_;refine cP rfl ?_;refine bZ ?_;refine aG ?_;simp -dsimp only[simprocAttr,↓I,zp,hx,SP,Sm];refine ai ?_;refine bR ?_;simp -dsimp only[simprocAttr,↓I,zp,s9];refine ai ?_;refine cP rfl ?_;refine bZ ?_;refine aG ?_;simp -dsimp only[simprocAttr,↓I,zp,hy];refine ai ?_;refine bR ?_;simp -dsimp only[simprocAttr,↓I,zp,vU,AD];refine ai ?_;refine dS rfl ?_;refine az (ai ?_);refine ak ?_;simp -dsimp only[simprocAttr,↓I,zp,zr,Tryz.results106,cC];exact⟨aW,fT⟩
   have vU:decide (y.n<0)=false:=decide_eq_false (by omega);have AD:decide ((L.length:Int)<=y.n)=false:=decide_eq_false (by omega);obtain⟨k,nD⟩:∃k:Nat,y.n=k:=⟨y.n.toNat,by omega⟩
   have RW:k<L.length:=by omega
   have di:=SV.LJ L;by_cases Sq:i.op=19
   ·have PI:decide (i.op=19)=true:=decide_eq_true Sq;obtain⟨z,hz⟩:∃z,L[k]?=some z:=⟨L[k],by simp[RW]⟩
    have Sz:=gf hz;have eo:=SV.Et hz;have Ls:SV.bj O.length z:=Wm z (List.mem_of_getElem? hz);have eK:m.effect i args=(m,z,0):=by simp[Mach.effect,KZ,Sq,uO,RR,hk,Fv,hL,hb,nD,Sz,RW]
    rw[eK];refine⟨O,?_,.inl ⟨rfl,rfl⟩⟩;refine zf true O.length Tryz.func106 Tryz.ntmps106 ?_;dsimp only[Tmp,TypeId,slotsOf];refine az (ai ?_);refine ck 4 0 ([aI i.to,aI i.op,aI i.n,bp i.args]) rfl rfl (by rfl) ?_;simp -dsimp only[simprocAttr,↓I,zp];refine bS (ai ?_);refine ah ?_;refine aG ?_;simp -dsimp only[simprocAttr,↓I,zp,kS];refine ai ?_;refine cP rfl ?_;refine aG ?_;simp -dsimp only[simprocAttr,↓I,zp,o5];refine ai ?_;refine cP rfl ?_;refine aG ?_;simp -dsimp only[simprocAttr,↓I,zp,ta];refine ai ?_;refine cP rfl ?_;refine k7 ?_;refine bR ?_;simp -dsimp only[simprocAttr,↓I,zp,hx,hy,Ow,s9,Gz];refine ai ?_;refine cP rfl ?_;refine bZ ?_;refine aG ?_;simp -dsimp only[simprocAttr,↓I,zp,hx,SP,Sm];refine ai ?_;refine bR ?_;simp -dsimp only[simprocAttr,↓I,zp,s9];refine ai ?_;refine cP rfl ?_;refine bZ ?_;refine aG ?_;simp -dsimp only[simprocAttr,↓I,zp,hy];refine ai ?_;refine bR ?_;simp -dsimp only[simprocAttr,↓I,zp,vU,AD];refine ai ?_;refine cP rfl ?_;refine bZ ?_;refine bR ?_;simp -dsimp only[simprocAttr,↓I,zp,PI];refine ai ?_;refine dS rfl ?_;refine aG ?_;simp -dsimp only[simprocAttr,↓I,zp,nD,We,di,eo]
    repeat(refine⟨by omega,?_⟩)
    refine ai ?_;refine ak ?_;simp -dsimp only[simprocAttr,↓I,zp,zr,Tryz.results106];exact⟨aW,vv Ls⟩
   have PI:decide (i.op=19)=false:=decide_eq_false Sq;obtain⟨z,hz⟩:=h2 KZ Sq;have Sz:=gf hz;have fQ:=SV.LK RW z;rw[SV.an]at fQ;have Ls:SV.bj O.length z:=hl z (List.mem_of_getElem? hz);have eK:m.effect i args=({ m with heap:=Mach.kk m.heap x.arr (L.set k z) },.word 0,0):=by simp[Mach.effect,Oi,KY,Oj,KZ,Sq,uO,RR,hk,Fv,hL,hb,nD,Sz,RW]
   rw[eK];obtain⟨O1,eh⟩:∃O1,O1=O.set nJ (.cells (aw ((L.set k z).map SV.enc))):=⟨_,rfl⟩
   have hlen:O.length=O1.length:=by rw[eh];simp
   have eX:∀o∈O1,o.upto O1.length:=by
    rw[<-hlen,eh];refine bT aW (SV.jy fun v hv=>?_);rcases List.mem_or_eq_of_mem_set hv with q|q
    ·exact Wm v q
    exact q ▸ Ls
   have wP:∀X y,(O++X).set nJ y=O.set nJ y++X:=fun X y=>kX e3;refine⟨O1,?_,.inr ⟨lI,nJ,k,z,L,e1,e2,e3,RW,hL.symm,Ls,eh,rfl⟩⟩;refine zf true O.length Tryz.func106 Tryz.ntmps106 ?_;dsimp only[Tmp,TypeId,slotsOf];refine az (ai ?_);refine ck 4 0 ([aI i.to,aI i.op,aI i.n,bp i.args]) rfl rfl (by rfl) ?_;simp -dsimp only[simprocAttr,↓I,zp];refine bS (ai ?_);refine ah ?_;refine aG ?_;simp -dsimp only[simprocAttr,↓I,zp,kS];refine ai ?_;refine cP rfl ?_;refine aG ?_;simp -dsimp only[simprocAttr,↓I,zp,o5];refine ai ?_;refine cP rfl ?_;refine aG ?_;simp -dsimp only[simprocAttr,↓I,zp,ta];refine ai ?_;refine cP rfl ?_;refine k7 ?_;refine bR ?_;simp -dsimp only[simprocAttr,↓I,zp,hx,hy,Ow,s9,Gz];refine ai ?_;refine cP rfl ?_;refine bZ ?_;refine aG ?_;simp -dsimp only[simprocAttr,↓I,zp,hx,SP,Sm];refine ai ?_;refine bR ?_;simp -dsimp only[simprocAttr,↓I,zp,s9];refine ai ?_;refine cP rfl ?_;refine bZ ?_;refine aG ?_;simp -dsimp only[simprocAttr,↓I,zp,hy];refine ai ?_;refine bR ?_;simp -dsimp only[simprocAttr,↓I,zp,vU,AD];refine ai ?_;refine cP rfl ?_;refine bZ ?_;refine bR ?_;simp -dsimp only[simprocAttr,↓I,zp,PI];refine ai ?_;refine cP rfl ?_;refine bZ ?_;refine aG ?_;simp -dsimp only[simprocAttr,↓I,zp,nD,hz,We,di,SV.dj,fQ,wP,<-eh]
   repeat(refine⟨by omega,?_⟩)
   refine ai ?_;refine aG ?_;simp -dsimp only[simprocAttr,↓I,zp,hlen];refine .inl ⟨_,c9 0,by simp only[av,aa.upto,zt,zu,ay],ae ?_⟩;simp -dsimp only[simprocAttr,↓I,zp,dz];refine ai ?_;refine ak ?_;simp -dsimp only[simprocAttr,↓I,zp,zr,Tryz.results106,fu,hlen];exact⟨eX,lJ⟩
  have Gz:decide (y.kind=0)=false:=decide_eq_false Fv;have eK:m.effect i args=(m,.zero,5):=by simp[Mach.effect,Oi,KY,Oj,KZ,uO,RR,hk,Fv]
  rw[eK];refine⟨O,?_,.inl ⟨rfl,rfl⟩⟩;refine zf true O.length Tryz.func106 Tryz.ntmps106 ?_;dsimp only[Tmp,TypeId,slotsOf];refine az (ai ?_);refine ck 4 0 ([aI i.to,aI i.op,aI i.n,bp i.args]) rfl rfl (by rfl) ?_;simp -dsimp only[simprocAttr,↓I,zp];refine bS (ai ?_);refine ah ?_;refine aG ?_;simp -dsimp only[simprocAttr,↓I,zp,kS];refine ai ?_;refine cP rfl ?_;refine aG ?_;simp -dsimp only[simprocAttr,↓I,zp,o5];refine ai ?_;refine cP rfl ?_;refine aG ?_;simp -dsimp only[simprocAttr,↓I,zp,ta];refine ai ?_;refine cP rfl ?_;refine k7 ?_;refine bR ?_;simp -dsimp only[simprocAttr,↓I,zp,hx,hy,Ow,s9,Gz];refine ai ?_;refine dS rfl ?_;refine az (ai ?_);refine ak ?_;simp -dsimp only[simprocAttr,↓I,zp,zr,Tryz.results106,cC];exact⟨aW,fT⟩
 have Ow:decide (x.kind=3)=false:=decide_eq_false hk;have eK:m.effect i args=(m,.zero,5):=by simp[Mach.effect,Oi,KY,Oj,uO,hk]
 rw[eK];refine⟨O,?_,.inl ⟨rfl,rfl⟩⟩;refine zf true O.length Tryz.func106 Tryz.ntmps106 ?_;dsimp only[Tmp,TypeId,slotsOf];refine az (ai ?_);refine ck 4 0 ([aI i.to,aI i.op,aI i.n,bp i.args]) rfl rfl (by rfl) ?_;simp -dsimp only[simprocAttr,↓I,zp];refine bS (ai ?_);refine ah ?_;refine aG ?_;simp -dsimp only[simprocAttr,↓I,zp,kS];refine ai ?_;refine cP rfl ?_;refine aG ?_;simp -dsimp only[simprocAttr,↓I,zp,o5];refine ai ?_;refine cP rfl ?_;refine aG ?_;simp -dsimp only[simprocAttr,↓I,zp,ta];refine ai ?_;refine cP rfl ?_;refine k7 ?_;refine bR ?_;simp -dsimp only[simprocAttr,↓I,zp,hx,Ow];refine ai ?_;refine dS rfl ?_;refine az (ai ?_);refine ak ?_;simp -dsimp only[simprocAttr,↓I,zp,zr,Tryz.results106,cC];exact⟨aW,fT⟩
theorem Hn{u:cL}{m:Mach}{O:List aq}(aW:∀o∈O,o.upto O.length)(i:bI)(args:List SV)(hl:∀v∈args,SV.bj O.length v)(gz:i.op=0):aK Tryz.prog 58 O [.mp 2 0,i.enc,.aB 4 (args.map SV.enc) .sh] (fun r O'=>r=.cN [(m.exec i args).2.1.enc,aI (m.exec i args).2.2]∧O'=O):=by
 refine zf true O.length Tryz.func58 Tryz.ntmps58 ?_;dsimp only[Tmp,TypeId,slotsOf];refine az (ai ?_);refine ck 4 0 ([aI i.to,aI i.op,aI i.n,bp i.args]) rfl rfl (by rfl) ?_;simp -dsimp only[simprocAttr,↓I,zp];refine bS (ai ?_);refine ah ?_;refine az (ai ?_);apply aF rfl<;>intro h
 ·refine az ?_;refine .inl ⟨_,c9 i.n,by simp only[av,aa.upto,zt,zu,ay],ae ?_⟩;simp -dsimp only[simprocAttr,↓I,zp,dz];refine ai ?_;refine ak ?_;simp -dsimp only[simprocAttr,↓I,zp,zr,Tryz.results58,fu];refine⟨aW,lJ,?_⟩;simp[Mach.exec,gz]
 exact af h (by omega)
theorem CA{u:cL}{m:Mach}{O:List aq}(aW:∀o∈O,o.upto O.length)(i:bI)(args:List SV)(hl:∀v∈args,SV.bj O.length v)(gz:1<=i.op∧i.op<=7)(x y:SV)(hx:args[0]?=some x)(hy:args[1]?=some y)(VO:x.kind=0->cu x.n)(VQ:y.kind=0->cu y.n):aK Tryz.prog 58 O [.mp 2 0,i.enc,.aB 4 (args.map SV.enc) .sh] (fun r O'=>r=.cN [(m.exec i args).2.1.enc,aI (m.exec i args).2.2]∧O'=O):=by
 have uO:=gf hx;have RR:=gf hy;have dt:=x7 aW args hl 0;have h0:i.op≠0:=by omega
 cases hk:kN args 0 with
 | false =>
  rw[hk]at dt;refine zf true O.length Tryz.func58 Tryz.ntmps58 ?_;dsimp only[Tmp,TypeId,slotsOf];refine az (ai ?_);refine ck 4 0 ([aI i.to,aI i.op,aI i.n,bp i.args]) rfl rfl (by rfl) ?_;simp -dsimp only[simprocAttr,↓I,zp];refine bS (ai ?_);refine ah ?_;refine az (ai ?_);apply aF rfl<;>intro h
  ·exact ab h (by omega)
  refine bS (ai ?_);refine jV (⟨82,[(0,.mp 2 0),(2,.aB 4 (args.map SV.enc) .sh),(4,.ip none [aI i.to,aI i.op,aI i.n,bp i.args]),(6,.mp (O.length+1) 0),(7,aI 0),(9,aI i.op),(15,.v (.bool true))],O++[.gone,.cells [aI 0,aI 0,.aB 4 [] .ex,.v (.pointer none)]]⟩) ?_ ?_
  ·apply aF rfl<;>intro h
   ·refine bc ?_;show bn _ _;refine zq rfl ?_ ?_;simp -dsimp only[simprocAttr,↓I,zp,zc]
    ·exact Sub.of_eq (by rw[h])
    rfl
   refine az (ai ?_);apply aF rfl<;>intro h
   ·refine bc ?_;show bn _ _;refine zq rfl ?_ ?_;simp -dsimp only[simprocAttr,↓I,zp,zc]
    ·exact Sub.of_eq (by rw[h])
    rfl
   refine az (ai ?_);apply aF rfl<;>intro h
   ·refine bc ?_;show bn _ _;refine zq rfl ?_ ?_;simp -dsimp only[simprocAttr,↓I,zp,zc]
    ·exact Sub.of_eq (by rw[h])
    rfl
   refine az (ai ?_);apply aF rfl<;>intro h
   ·refine bc ?_;show bn _ _;refine zq rfl ?_ ?_;simp -dsimp only[simprocAttr,↓I,zp,zc]
    ·exact Sub.of_eq (by rw[h])
    rfl
   refine az (ai ?_);apply aF rfl<;>intro h
   ·refine bc ?_;show bn _ _;refine zq rfl ?_ ?_;simp -dsimp only[simprocAttr,↓I,zp,zc]
    ·exact Sub.of_eq (by rw[h])
    rfl
   refine az (ai ?_);apply aF rfl<;>intro h
   ·refine bc ?_;show bn _ _;refine zq rfl ?_ ?_;simp -dsimp only[simprocAttr,↓I,zp,zc]
    ·exact Sub.of_eq (by rw[h])
    rfl
   refine dA ?_;refine aY ?_;show bn _ _;refine zq rfl ?_ ?_;simp -dsimp only[simprocAttr,↓I,zp,zc]
   ·exact Sub.of_eq (by rw[decide_eq_true (show i.op=7 by simp only[decide_eq_false_iff_not]at *;omega)])
   rfl
  refine dS rfl ?_;refine bS ?_;refine .inr (.inr ⟨_,dt _,ae (zj ?_)⟩);refine ai ?_;refine dS rfl ?_;refine az (ai ?_);refine ak ?_;simp -dsimp only[simprocAttr,↓I,zp,zr,Tryz.results58,cC];refine⟨aW,fT,?_⟩;simp[Mach.exec,gz,h0,hk]
 | true =>
  rw[hk]at dt;have X3:x.kind=0:=by
   simp only[kN,List.all_eq_true,decide_eq_true_eq]at hk;exact hk x (List.mem_of_getElem? hx)
  have X4:y.kind=0:=by
   simp only[kN,List.all_eq_true,decide_eq_true_eq]at hk;exact hk y (List.mem_of_getElem? hy)
  have UX:=si i.op x.n y.n (VO X3) (VQ X4);have PF:=pd O.length i.op x.n y.n;have eK:m.exec i args=(m,dp i.op x.n y.n):=by simp[Mach.exec,gz,h0,hk,uO,RR]
  rw[eK];generalize dp i.op x.n y.n=B at *;refine zf true O.length Tryz.func58 Tryz.ntmps58 ?_;dsimp only[Tmp,TypeId,slotsOf];refine az (ai ?_);refine ck 4 0 ([aI i.to,aI i.op,aI i.n,bp i.args]) rfl rfl (by rfl) ?_;simp -dsimp only[simprocAttr,↓I,zp];refine bS (ai ?_);refine ah ?_;refine az (ai ?_);apply aF rfl<;>intro h
  ·exact ab h (by omega)
  refine bS (ai ?_);refine jV (⟨82,[(0,.mp 2 0),(2,.aB 4 (args.map SV.enc) .sh),(4,.ip none [aI i.to,aI i.op,aI i.n,bp i.args]),(6,.mp (O.length+1) 0),(7,aI 0),(9,aI i.op),(15,.v (.bool true))],O++[.gone,.cells [aI 0,aI 0,.aB 4 [] .ex,.v (.pointer none)]]⟩) ?_ ?_
  ·apply aF rfl<;>intro h
   ·refine bc ?_;show bn _ _;refine zq rfl ?_ ?_;simp -dsimp only[simprocAttr,↓I,zp,zc]
    ·exact Sub.of_eq (by rw[h])
    rfl
   refine az (ai ?_);apply aF rfl<;>intro h
   ·refine bc ?_;show bn _ _;refine zq rfl ?_ ?_;simp -dsimp only[simprocAttr,↓I,zp,zc]
    ·exact Sub.of_eq (by rw[h])
    rfl
   refine az (ai ?_);apply aF rfl<;>intro h
   ·refine bc ?_;show bn _ _;refine zq rfl ?_ ?_;simp -dsimp only[simprocAttr,↓I,zp,zc]
    ·exact Sub.of_eq (by rw[h])
    rfl
   refine az (ai ?_);apply aF rfl<;>intro h
   ·refine bc ?_;show bn _ _;refine zq rfl ?_ ?_;simp -dsimp only[simprocAttr,↓I,zp,zc]
    ·exact Sub.of_eq (by rw[h])
    rfl
   refine az (ai ?_);apply aF rfl<;>intro h
   ·refine bc ?_;show bn _ _;refine zq rfl ?_ ?_;simp -dsimp only[simprocAttr,↓I,zp,zc]
    ·exact Sub.of_eq (by rw[h])
    rfl
   refine az (ai ?_);apply aF rfl<;>intro h
   ·refine bc ?_;show bn _ _;refine zq rfl ?_ ?_;simp -dsimp only[simprocAttr,↓I,zp,zc]
    ·exact Sub.of_eq (by rw[h])
    rfl
   refine dA ?_;refine aY ?_;show bn _ _;refine zq rfl ?_ ?_;simp -dsimp only[simprocAttr,↓I,zp,zc]
   ·exact Sub.of_eq (by rw[decide_eq_true (show i.op=7 by simp only[decide_eq_false_iff_not]at *;omega)])
   rfl
  refine dS rfl ?_;refine bS ?_;refine .inr (.inr ⟨_,dt _,ae (zj ?_)⟩);refine ai ?_;refine cP rfl ?_;refine bZ ?_;refine aG ?_;simp -dsimp only[simprocAttr,↓I,zp,hx,hy];refine zi UX ?_;refine⟨ob (by kernel_rfl),?_⟩;refine ai ?_;refine ak ?_;simp -dsimp only[simprocAttr,↓I,zp,zr,Tryz.results58];exact⟨aW,vv PF⟩
theorem Hm{u:cL}{m:Mach}{O:List aq}(aW:∀o∈O,o.upto O.length)(i:bI)(args:List SV)(hl:∀v∈args,SV.bj O.length v)(gz:i.op=8):aK Tryz.prog 58 O [.mp 2 0,i.enc,.aB 4 (args.map SV.enc) .sh] (fun r O'=>r=.cN [(m.exec i args).2.1.enc,aI (m.exec i args).2.2]∧O'=O):=by
 have hz:=(SV.bj.mk (k:=1) (m:=i.n) (a:=none) (by simp) hl).aS;rw[SV.jz]at hz;refine zf true O.length Tryz.func58 Tryz.ntmps58 ?_;dsimp only[Tmp,TypeId,slotsOf];refine az (ai ?_);refine ck 4 0 ([aI i.to,aI i.op,aI i.n,bp i.args]) rfl rfl (by rfl) ?_;simp -dsimp only[simprocAttr,↓I,zp];refine bS (ai ?_);refine ah ?_;refine az (ai ?_);apply aF rfl<;>intro h
 ·exact ab h (by omega)
 refine bS (ai ?_);apply aF rfl<;>intro h
 ·exact ab h (by omega)
 refine az (ai ?_);apply aF rfl<;>intro h
 ·exact ab h (by omega)
 refine az (ai ?_);apply aF rfl<;>intro h
 ·exact ab h (by omega)
 refine az (ai ?_);apply aF rfl<;>intro h
 ·exact ab h (by omega)
 refine az (ai ?_);apply aF rfl<;>intro h
 ·exact ab h (by omega)
 refine az (ai ?_);apply aF rfl<;>intro h
 ·exact ab h (by omega)
 refine dA (ai ?_);apply aF rfl<;>intro h
 ·exact ab h (by omega)
 refine az (ai ?_);apply aF rfl<;>intro h
 ·refine az (ai ?_);refine ak ?_;simp -dsimp only[simprocAttr,↓I,zp,zr,Tryz.results58];refine⟨aW,⟨hz,trivial,trivial⟩,?_⟩;simp[Mach.exec,gz,SV.jz,eP]
 exact af h (by omega)
theorem E3{u:cL}{m:Mach}{O:List aq}(aW:∀o∈O,o.upto O.length)(i:bI)(args:List SV)(hl:∀v∈args,SV.bj O.length v)(gz:i.op=9):aK Tryz.prog 58 O [.mp 2 0,i.enc,.aB 4 (args.map SV.enc) .sh] (fun r O'=>r=.cN [(m.exec i args).2.1.enc,aI (m.exec i args).2.2]∧O'=O):=by
 have hz:=(SV.bj.mk (k:=2) (m:=i.n) (a:=none) (by simp) hl).aS;rw[SV.jz]at hz;refine zf true O.length Tryz.func58 Tryz.ntmps58 ?_;dsimp only[Tmp,TypeId,slotsOf];refine az (ai ?_);refine ck 4 0 ([aI i.to,aI i.op,aI i.n,bp i.args]) rfl rfl (by rfl) ?_;simp -dsimp only[simprocAttr,↓I,zp];refine bS (ai ?_);refine ah ?_;refine az (ai ?_);apply aF rfl<;>intro h
 ·exact ab h (by omega)
 refine bS (ai ?_);apply aF rfl<;>intro h
 ·exact ab h (by omega)
 refine az (ai ?_);apply aF rfl<;>intro h
 ·exact ab h (by omega)
 refine az (ai ?_);apply aF rfl<;>intro h
 ·exact ab h (by omega)
 refine az (ai ?_);apply aF rfl<;>intro h
 ·exact ab h (by omega)
 refine az (ai ?_);apply aF rfl<;>intro h
 ·exact ab h (by omega)
 refine az (ai ?_);apply aF rfl<;>intro h
 ·exact ab h (by omega)
 refine dA (ai ?_);apply aF rfl<;>intro h
 ·exact ab h (by omega)
 refine az (ai ?_);apply aF rfl<;>intro h
 ·exact ab h (by omega)
 refine az (ai ?_);apply aF rfl<;>intro h
 ·refine az (ai ?_);refine ak ?_;simp -dsimp only[simprocAttr,↓I,zp,zr,Tryz.results58];refine⟨aW,⟨hz,trivial,trivial⟩,?_⟩;simp[Mach.exec,gz,SV.jz,eP]
 exact af h (by omega)
theorem Ho{u:cL}{m:Mach}{O:List aq}(aW:∀o∈O,o.upto O.length)(i:bI)(args:List SV)(hl:∀v∈args,SV.bj O.length v)(gz:i.op=10∨i.op=11∨i.op=12∨i.op=21)(hC:aK Tryz.prog 104 O [i.enc,.aB 4 (args.map SV.enc) .sh] (fun r O'=>r=.cN [(c8 i args).1.enc,aI (c8 i args).2]∧O'=O))(hR:SV.bj O.length (c8 i args).1):aK Tryz.prog 58 O [.mp 2 0,i.enc,.aB 4 (args.map SV.enc) .sh] (fun r O'=>r=.cN [(m.exec i args).2.1.enc,aI (m.exec i args).2.2]∧O'=O):=by
 have dY:=aK.frame hC rfl ⟨i.aS _,⟨SV.aj hl,trivial⟩,trivial⟩ aW;have eK:m.exec i args=(m,c8 i args):=by
  unfold Mach.exec;rw[if_neg (by omega),if_neg (by omega),if_neg (by omega),if_neg (by omega),if_pos gz]
 rw[eK];generalize c8 i args=B at *;refine zf true O.length Tryz.func58 Tryz.ntmps58 ?_;dsimp only[Tmp,TypeId,slotsOf];refine az (ai ?_);refine ck 4 0 ([aI i.to,aI i.op,aI i.n,bp i.args]) rfl rfl (by rfl) ?_;simp -dsimp only[simprocAttr,↓I,zp];refine bS (ai ?_);refine ah ?_;refine az (ai ?_);apply aF rfl<;>intro h
 ·exact ab h (by omega)
 refine bS (ai ?_);apply aF rfl<;>intro h
 ·exact ab h (by omega)
 refine az (ai ?_);apply aF rfl<;>intro h
 ·exact ab h (by omega)
 refine az (ai ?_);apply aF rfl<;>intro h
 ·exact ab h (by omega)
 refine az (ai ?_);apply aF rfl<;>intro h
 ·exact ab h (by omega)
 refine az (ai ?_);apply aF rfl<;>intro h
 ·exact ab h (by omega)
 refine az (ai ?_);apply aF rfl<;>intro h
 ·exact ab h (by omega)
 refine dA (ai ?_);apply aF rfl<;>intro h
 ·exact ab h (by omega)
 refine az (ai ?_);apply aF rfl<;>intro h
 ·exact ab h (by omega)
 refine az (ai ?_);apply aF rfl<;>intro h
 ·exact ab h (by omega)
 refine bS (ai ?_);refine jV (⟨82,[(0,.mp 2 0),(2,.aB 4 (args.map SV.enc) .sh),(4,.ip none [aI i.to,aI i.op,aI i.n,bp i.args]),(6,.mp (O.length+1) 0),(7,aI 0),(9,aI i.op),(52,.v (.bool true))],O++[.gone,.cells [aI 0,aI 0,.aB 4 [] .ex,.v (.pointer none)]]⟩) ?_ ?_
 ·apply aF rfl<;>intro h
  ·refine bc ?_;show bn _ _;refine zq rfl ?_ ?_;simp -dsimp only[simprocAttr,↓I,zp,zc]
   ·exact Sub.of_eq (by rw[h])
   rfl
  refine az (ai ?_);apply aF rfl<;>intro h
  ·refine bc ?_;show bn _ _;refine zq rfl ?_ ?_;simp -dsimp only[simprocAttr,↓I,zp,zc]
   ·exact Sub.of_eq (by rw[h])
   rfl
  refine az (ai ?_);apply aF rfl<;>intro h
  ·refine bc ?_;show bn _ _;refine zq rfl ?_ ?_;simp -dsimp only[simprocAttr,↓I,zp,zc]
   ·exact Sub.of_eq (by rw[h])
   rfl
  refine dA ?_;refine aY ?_;show bn _ _;refine zq rfl ?_ ?_;simp -dsimp only[simprocAttr,↓I,zp,zc]
  ·exact Sub.of_eq (by rw[decide_eq_true (show i.op=21 by simp only[decide_eq_false_iff_not]at *;omega)])
  rfl
 refine dS rfl ?_;refine az ?_;refine .inr (.inr ⟨_,dY _,ae (zj ?_)⟩);refine ai ?_;refine ak ?_;simp -dsimp only[simprocAttr,↓I,zp,zr,Tryz.results58];exact⟨aW,vv hR⟩
theorem Hp{u:cL}{m:Mach}{O:List aq}(aW:∀o∈O,o.upto O.length)(i:bI)(args:List SV)(hl:∀v∈args,SV.bj O.length v)(gz:i.op=22∨i.op=23∨i.op=24)(hC:aK Tryz.prog 105 O [i.enc,.aB 4 (args.map SV.enc) .sh] (fun r O'=>r=.cN [(dr i args).1.enc,aI (dr i args).2]∧O'=O))(hR:SV.bj O.length (dr i args).1):aK Tryz.prog 58 O [.mp 2 0,i.enc,.aB 4 (args.map SV.enc) .sh] (fun r O'=>r=.cN [(m.exec i args).2.1.enc,aI (m.exec i args).2.2]∧O'=O):=by
 have dY:=aK.frame hC rfl ⟨i.aS _,⟨SV.aj hl,trivial⟩,trivial⟩ aW;have eK:m.exec i args=(m,dr i args):=by
  unfold Mach.exec;rw[if_neg (by omega),if_neg (by omega),if_neg (by omega),if_neg (by omega),if_neg (by omega),if_pos gz]
 rw[eK];generalize dr i args=B at *;refine zf true O.length Tryz.func58 Tryz.ntmps58 ?_;dsimp only[Tmp,TypeId,slotsOf];refine az (ai ?_);refine ck 4 0 ([aI i.to,aI i.op,aI i.n,bp i.args]) rfl rfl (by rfl) ?_;simp -dsimp only[simprocAttr,↓I,zp];refine bS (ai ?_);refine ah ?_;refine az (ai ?_);apply aF rfl<;>intro h
 ·exact ab h (by omega)
 refine bS (ai ?_);apply aF rfl<;>intro h
 ·exact ab h (by omega)
 refine az (ai ?_);apply aF rfl<;>intro h
 ·exact ab h (by omega)
 refine az (ai ?_);apply aF rfl<;>intro h
 ·exact ab h (by omega)
 refine az (ai ?_);apply aF rfl<;>intro h
 ·exact ab h (by omega)
 refine az (ai ?_);apply aF rfl<;>intro h
 ·exact ab h (by omega)
 refine az (ai ?_);apply aF rfl<;>intro h
 ·exact ab h (by omega)
 refine dA (ai ?_);apply aF rfl<;>intro h
 ·exact ab h (by omega)
 refine az (ai ?_);apply aF rfl<;>intro h
 ·exact ab h (by omega)
 refine az (ai ?_);apply aF rfl<;>intro h
 ·exact ab h (by omega)
 refine bS (ai ?_);apply aF rfl<;>intro h
 ·exact ab h (by omega)
 refine az (ai ?_);apply aF rfl<;>intro h
 ·exact ab h (by omega)
 refine az (ai ?_);apply aF rfl<;>intro h
 ·exact ab h (by omega)
 refine dA (ai ?_);apply aF rfl<;>intro h
 ·exact ab h (by omega)
 refine bS (ai ?_);refine jV (⟨82,[(0,.mp 2 0),(2,.aB 4 (args.map SV.enc) .sh),(4,.ip none [aI i.to,aI i.op,aI i.n,bp i.args]),(6,.mp (O.length+1) 0),(7,aI 0),(9,aI i.op),(62,.v (.bool true))],O++[.gone,.cells [aI 0,aI 0,.aB 4 [] .ex,.v (.pointer none)]]⟩) ?_ ?_
 ·apply aF rfl<;>intro h
  ·refine bc ?_;show bn _ _;refine zq rfl ?_ ?_;simp -dsimp only[simprocAttr,↓I,zp,zc]
   ·exact Sub.of_eq (by rw[h])
   rfl
  refine az (ai ?_);apply aF rfl<;>intro h
  ·refine bc ?_;show bn _ _;refine zq rfl ?_ ?_;simp -dsimp only[simprocAttr,↓I,zp,zc]
   ·exact Sub.of_eq (by rw[h])
   rfl
  refine dA ?_;refine aY ?_;show bn _ _;refine zq rfl ?_ ?_;simp -dsimp only[simprocAttr,↓I,zp,zc]
  ·exact Sub.of_eq (by rw[decide_eq_true (show i.op=24 by simp only[decide_eq_false_iff_not]at *;omega)])
  rfl
 refine dS rfl ?_;refine az ?_;refine .inr (.inr ⟨_,dY _,ae (zj ?_)⟩);refine ai ?_;refine ak ?_;simp -dsimp only[simprocAttr,↓I,zp,zr,Tryz.results58];exact⟨aW,vv hR⟩
theorem E4{u:cL}{m:Mach}{O:List aq}(aW:∀o∈O,o.upto O.length)(i:bI)(args:List SV)(hl:∀v∈args,SV.bj O.length v)(gz:i.op=100)(x:SV)(hx:args[0]?=some x):aK Tryz.prog 58 O [.mp 2 0,i.enc,.aB 4 (args.map SV.enc) .sh] (fun r O'=>r=.cN [(m.exec i args).2.1.enc,aI (m.exec i args).2.2]∧O'=O):=by
 have uO:=gf hx;have Ee:=hl x (List.mem_of_getElem? hx);refine zf true O.length Tryz.func58 Tryz.ntmps58 ?_;dsimp only[Tmp,TypeId,slotsOf];refine az (ai ?_);refine ck 4 0 ([aI i.to,aI i.op,aI i.n,bp i.args]) rfl rfl (by rfl) ?_;simp -dsimp only[simprocAttr,↓I,zp];refine bS (ai ?_);refine ah ?_;refine az (ai ?_);apply aF rfl<;>intro h
 ·exact ab h (by omega)
 refine bS (ai ?_);apply aF rfl<;>intro h
 ·exact ab h (by omega)
 refine az (ai ?_);apply aF rfl<;>intro h
 ·exact ab h (by omega)
 refine az (ai ?_);apply aF rfl<;>intro h
 ·exact ab h (by omega)
 refine az (ai ?_);apply aF rfl<;>intro h
 ·exact ab h (by omega)
 refine az (ai ?_);apply aF rfl<;>intro h
 ·exact ab h (by omega)
 refine az (ai ?_);apply aF rfl<;>intro h
 ·exact ab h (by omega)
 refine dA (ai ?_);apply aF rfl<;>intro h
 ·exact ab h (by omega)
 refine az (ai ?_);apply aF rfl<;>intro h
 ·exact ab h (by omega)
 refine az (ai ?_);apply aF rfl<;>intro h
 ·exact ab h (by omega)
 refine bS (ai ?_);apply aF rfl<;>intro h
 ·exact ab h (by omega)
 refine az (ai ?_);apply aF rfl<;>intro h
 ·exact ab h (by omega)
 refine az (ai ?_);apply aF rfl<;>intro h
 ·exact ab h (by omega)
 refine dA (ai ?_);apply aF rfl<;>intro h
 ·exact ab h (by omega)
 refine bS (ai ?_);apply aF rfl<;>intro h
 ·exact ab h (by omega)
 refine az (ai ?_);apply aF rfl<;>intro h
 ·exact ab h (by omega)
 refine dA (ai ?_);apply aF rfl<;>intro h
 ·exact ab h (by omega)
 refine az (ai ?_);apply aF rfl<;>intro h
 ·refine aG ?_;simp -dsimp only[simprocAttr,↓I,zp,hx];refine ai ?_;refine ak ?_;simp -dsimp only[simprocAttr,↓I,zp,zr,Tryz.results58];refine⟨aW,vv Ee,?_⟩;simp[Mach.exec,gz,uO]
 exact af h (by omega)
theorem Ar(m:Mach)(i:bI)(args:List SV)(h0:i.op≠0)(h1:¬(1<=i.op∧i.op<=7))(h8:i.op≠8)(h9:i.op≠9)(KW:i.op≠10∧i.op≠11∧i.op≠12∧i.op≠21)(RM:i.op≠22∧i.op≠23∧i.op≠24)(uN:i.op≠100):m.exec i args=m.effect i args:=by
 unfold Mach.exec;rw[if_neg h0,if_neg h1,if_neg h8,if_neg h9,if_neg (by omega),if_neg (by omega),if_neg uN]
theorem nN{O O':List aq}(aW:∀o∈O,o.upto O.length)(i:bI)(args:List SV)(hl:∀v∈args,SV.bj O.length v)(h0:i.op≠0)(h1:¬(1<=i.op∧i.op<=7))(h8:i.op≠8)(h9:i.op≠9)(KW:i.op≠10∧i.op≠11∧i.op≠12∧i.op≠21)(RM:i.op≠22∧i.op≠23∧i.op≠24)(uN:i.op≠100)(nj:2<O.length)(v:SV)(t:Int)(hv:SV.bj O.length v)
  (hC:aK Tryz.prog 106 O [.mp 2 0,i.enc,.aB 4 (args.map SV.enc) .sh] (fun r O1=>r=.cN [v.enc,aI t]∧O1=O')) (hlen:O.length=O'.length) (nw:∀o∈O',o.upto O'.length) :
  aK Tryz.prog 58 O [.mp 2 0,i.enc,.aB 4 (args.map SV.enc) .sh] (fun r O1=>r=.cN [v.enc,aI t]∧O1=O'):=by
 have dY:=aK.frame hC hlen.symm ⟨nj,i.aS _,⟨SV.aj hl,trivial⟩,trivial⟩ aW;rw[hlen]at hv;refine zf true O.length Tryz.func58 Tryz.ntmps58 ?_;dsimp only[Tmp,TypeId,slotsOf];refine az (ai ?_);refine ck 4 0 ([aI i.to,aI i.op,aI i.n,bp i.args]) rfl rfl (by rfl) ?_;simp -dsimp only[simprocAttr,↓I,zp];refine bS (ai ?_);refine ah ?_;refine az (ai ?_);apply aF rfl<;>intro h
 ·exact ab h (by omega)
 refine bS (ai ?_);apply aF rfl<;>intro h
 ·exact ab h (by omega)
 refine az (ai ?_);apply aF rfl<;>intro h
 ·exact ab h (by omega)
 refine az (ai ?_);apply aF rfl<;>intro h
 ·exact ab h (by omega)
 refine az (ai ?_);apply aF rfl<;>intro h
 ·exact ab h (by omega)
 refine az (ai ?_);apply aF rfl<;>intro h
 ·exact ab h (by omega)
 refine az (ai ?_);apply aF rfl<;>intro h
 ·exact ab h (by omega)
 refine dA (ai ?_);apply aF rfl<;>intro h
 ·exact ab h (by omega)
 refine az (ai ?_);apply aF rfl<;>intro h
 ·exact ab h (by omega)
 refine az (ai ?_);apply aF rfl<;>intro h
 ·exact ab h (by omega)
 refine bS (ai ?_);apply aF rfl<;>intro h
 ·exact ab h (by omega)
 refine az (ai ?_);apply aF rfl<;>intro h
 ·exact ab h (by omega)
 refine az (ai ?_);apply aF rfl<;>intro h
 ·exact ab h (by omega)
 refine dA (ai ?_);apply aF rfl<;>intro h
 ·exact ab h (by omega)
 refine bS (ai ?_);apply aF rfl<;>intro h
 ·exact ab h (by omega)
 refine az (ai ?_);apply aF rfl<;>intro h
 ·exact ab h (by omega)
 refine dA (ai ?_);apply aF rfl<;>intro h
 ·exact ab h (by omega)
 refine az (ai ?_);apply aF rfl<;>intro h
 ·exact ab h (by omega)
 refine k7 ?_;refine az ?_;refine .inr (.inl ⟨_,_,dY _,.inl (ae ?_)⟩);simp -dsimp only[simprocAttr,↓I,zp,hlen];refine ai ?_;refine ak ?_;simp -dsimp only[simprocAttr,↓I,zp,zr,Tryz.results58,hlen];exact⟨nw,vv hv⟩
theorem KM{u:cL}{m:Mach}{O:List aq}(aW:∀o∈O,o.upto O.length)(E7:O[2]?=some (.cells (aD u m)))(i:bI)(size fill:SV)(hs:SV.bj O.length size)(hf:SV.bj O.length fill)
  (gz:i.op=16) (KV:0<=m.left) (h2:m.left<=2 ^ 40) (vX:m.short=false) (hk:size.kind=0) (CN:0<=size.n) (Fk:size.n<=1024) (hp:size.n<=m.left) :
  aK Tryz.prog 58 O [.mp 2 0,i.enc,.aB 4 [size.enc,fill.enc] .sh] (fun r O'=>r=.cN [.agg [aI 3,aI 0,.aB 4 [] .sh,.mp (O.length+8) 0],aI 0]∧O'=O.set 2 (.cells (aD u (m.gn size.n))) ++
   [.gone,.cells [aI 3,aI 0,.aB 4 [] .sh,.mp (O.length+8) 0],.gone,.cells [aI 3,aI 0,.aB 4 [] .sh,.mp (O.length+8) 0],.gone,.gone,.cells [aI 3,aI 0,.aB 4 [] .ex,.mp (O.length+8) 0],.cells (aw ((List.replicate size.n.toNat fill).map SV.enc)),.cells [.ms (O.length+7) 0 size.n.toNat size.n.toNat]]):=by
 have Ft:∀o∈O++[.gone,.cells [aI 0,aI 0,.aB 4 [] .ex,.v (.pointer none)]],o.upto (O++[aq.gone,.cells [aI 0,aI 0,.aB 4 [] .ex,.v (.pointer none)]]).length:=fun o ho=>by
  rcases List.mem_append.1 ho with ho|ho
  ·exact aq.cR (by simp) (aW o ho)
  simp only[List.mem_cons,List.mem_nil_iff,or_false]at ho;rcases ho with rfl|rfl
  ·trivial
  simp[aq.upto,av,aa.upto]
 have Vk:(O++[aq.gone,.cells [aI 0,aI 0,.aB 4 [] .ex,.v (.pointer none)]]).length=O.length+2:=by simp
 have dY:=E0 Ft (dK E7) i size fill (hs.mono (by simp)) (hf.mono (by simp)) gz KV h2 vX hk CN Fk hp;have eX:=bx aW E7 (ds:=aD u (m.gn size.n)) (fun h=>cc h (oL m size.n));rw[kX E7,Vk]at dY;obtain⟨O1,eh⟩:∃O1,O1=O.set 2 (.cells (aD u (m.gn size.n))):=⟨_,rfl⟩
 have hlen:O.length=O1.length:=by rw[eh];simp
 simp only[<-eh]at dY eX ⊢;rw[hlen]at eX;have kC:∀v∈List.replicate size.n.toNat fill,SV.bj (O1.length+9) v:=fun v hv=>by
  rw[(List.mem_replicate.1 hv).2];exact hf.mono (by omega)
 have hc:=SV.jy kC;have h0:i.op≠0:=by omega
 generalize di:aw ((List.replicate size.n.toNat fill).map SV.enc)=row at *;refine zf true (O.length+9) Tryz.func58 Tryz.ntmps58 ?_;dsimp only[Tmp,TypeId,slotsOf];refine az (ai ?_);refine ck 4 0 ([aI i.to,aI i.op,aI i.n,bp i.args]) rfl rfl (by rfl) ?_;simp -dsimp only[simprocAttr,↓I,zp];refine bS (ai ?_);refine ah ?_;refine az (ai ?_);apply aF rfl<;>intro h
 ·exact ab h (by omega)
 refine bS (ai ?_);apply aF rfl<;>intro h
 ·exact ab h (by omega)
 refine az (ai ?_);apply aF rfl<;>intro h
 ·exact ab h (by omega)
 refine az (ai ?_);apply aF rfl<;>intro h
 ·exact ab h (by omega)
 refine az (ai ?_);apply aF rfl<;>intro h
 ·exact ab h (by omega)
 refine az (ai ?_);apply aF rfl<;>intro h
 ·exact ab h (by omega)
 refine az (ai ?_);apply aF rfl<;>intro h
 ·exact ab h (by omega)
 refine dA (ai ?_);apply aF rfl<;>intro h
 ·exact ab h (by omega)
 refine az (ai ?_);apply aF rfl<;>intro h
 ·exact ab h (by omega)
 refine az (ai ?_);apply aF rfl<;>intro h
 ·exact ab h (by omega)
 refine bS (ai ?_);apply aF rfl<;>intro h
 ·exact ab h (by omega)
 refine az (ai ?_);apply aF rfl<;>intro h
 ·exact ab h (by omega)
 refine az (ai ?_);apply aF rfl<;>intro h
 ·exact ab h (by omega)
 refine dA (ai ?_);apply aF rfl<;>intro h
 ·exact ab h (by omega)
 refine bS (ai ?_);apply aF rfl<;>intro h
 ·exact ab h (by omega)
 refine az (ai ?_);apply aF rfl<;>intro h
 ·exact ab h (by omega)
 refine dA (ai ?_);apply aF rfl<;>intro h
 ·exact ab h (by omega)
 refine az (ai ?_);apply aF rfl<;>intro h
 ·exact ab h (by omega)
 refine k7 ?_;refine az ?_;refine .inr (.inl ⟨_,_,dY,.inl (ae ?_)⟩);simp -dsimp only[simprocAttr,↓I,zp,hlen];refine ai ?_;refine ak ?_;simp -dsimp only[simprocAttr,↓I,zp,zr,Tryz.results58,hlen];rw[oQ];refine⟨fun o ho=>?_,by simp[av,aa.upto],rfl⟩;rcases List.mem_append.1 ho with ho|ho
 ·exact aq.cR (by omega) (eX o ho)
 simp only[List.take_succ_cons,List.take_zero,List.mem_cons,List.mem_nil_iff,or_false]at ho;rcases ho with rfl|rfl|rfl|rfl|rfl|rfl|rfl|rfl|rfl
 ·trivial
 ·simp[aq.upto,av,aa.upto]
 ·trivial
 ·simp[aq.upto,av,aa.upto]
 ·trivial
 ·trivial
 ·simp[aq.upto,av,aa.upto]
 ·exact hc
 simp[aq.upto,av,aa.upto]
theorem py:∀{es:List (Int×SV)} {ps:List Int} {l:List SV} {j:Nat} {p:Int} {a:SV},ps[j]?=some p->l[j]?=some a->gL es (ps.take (j+1)) (l.take (j+1))=fR (gL es (ps.take j) (l.take j)) p a
 | es,q::ps,b::l,0,p,a,h1,h2=>by
  simp only[List.getElem?_cons_zero,Option.some.injEq]at h1 h2;subst h1;subst h2;simp[gL]
 | es,q::ps,b::l,j+1,p,a,h1,h2=>by
  have ih:=py (es:=fR es q b) (ps:=ps) (l:=l) (j:=j) (by simpa using h1) (by simpa using h2);simp only[List.take_succ_cons,gL];exact ih
 | _,[],_,_,_,_,h1,_=>by simp at h1
 | _,_::_,[],_,_,_,_,h2=>by simp at h2
theorem ua(es:List (Int×SV))(ps:List Int)(l:List SV):gL es (ps.take 0) (l.take 0)=es:=by simp[gL]
theorem kL:∀{es:List (Int×SV)} {ps:List Int} {l:List SV} {e:Int×SV},e∈gL es ps l->e∈es∨e.2∈l
 | es,[],_,e,h=>.inl (by simpa[gL]using h)
 | es,_::_,[],e,h=>.inl (by simpa[gL]using h)
 | es,p::ps,a::l,e,h=>by
  simp only[gL]at h;rcases kL h with h|h
  ·rcases jF h with h|h
   ·exact .inl h
   exact .inr (by simp[h])
  exact .inr (by simp[h])
theorem lz{u:cL}{k:Int}(h0:0<=k)(h1:k<u.fns.length):u.fns[k.toNat]?=some (dc u k):=by
 have bd:k.toNat<u.fns.length:=by omega
 simp[dc,bd]
theorem fg{f:Func}{k:Int}(h0:0<=k)(h1:k<f.blocks.length):f.blocks[k.toNat]?=some (bQ f k):=by
 have bd:k.toNat<f.blocks.length:=by omega
 simp[bQ,bd]
theorem Ak{es:List (Int×SV)}{n:Nat}(h:∀e∈es,SV.bj n e.2):ba n (es.map gU):=by
 induction es with
 | nil=>trivial
 | cons e r ih=>exact⟨(h e (by simp)).aS,ih fun x hx=>h x (by simp[hx])⟩
theorem Az{u:cL}{m:Mach}{O:List aq}(aW:∀o∈O,o.upto O.length)(h0:O[2]?=some (.cells (aD u m)))(f:Fr)(hf:O[f.b9]?=some (.cells (aX f)))(hv:O[f.dJ]?=some (.map (.int .i64) (f.vals.map gU)))
  (hu:∀e∈f.vals,SV.bj O.length e.2) (Yx:2≠f.b9) (Yy:2≠f.dJ) (tE:f.b9≠f.dJ) (pP:0<=f.fn∧f.fn<u.fns.length) (e:Edge) (he:xU (dc u f.fn) e) (f':Fr)
  (ga:f' = { f with blk:=e.block,pos:=0,vals:=gL f.vals (bQ (dc u f.fn) e.block).params (gH f.vals e.args) }) :
  aK Tryz.prog 98 O [.mp 2 0,.mp f.b9 0,e.enc] (fun r O'=>r=.cN []∧O'=(O.set f.b9 (.cells (aX f'))).set f.dJ (.map (.int .i64) (f'.vals.map gU))):=by
 have gb:=jJ aW hf hv hu e.args he.len;have hF:=lz pP.1 pP.2;have hB:=fg he.lo he.hi;have mA:=he.args;have gy:=he.lo;have Ws:=he.len;have ix:=ag hf;have RZ:=ag hv;have eW:=ag h0;have WZ:=om hu e.args;have nk:(gH f.vals e.args).length=e.args.length:=by simp[gH]
 generalize Y3:gH f.vals e.args=T at *;generalize bQ (dc u f.fn) e.block=B at *;generalize dc u f.fn=F at *;have Y5:=SV.aj WZ;have hc:[aI f.fn,aI e.block,aI 0,aI f.to,.mm f.dJ]=aX f':=by
  rw[ga];rfl
 obtain⟨O1,eh⟩:∃O1,O1=O.set f.b9 (.cells (aX f')):=⟨_,rfl⟩
 have hlen:O.length=O1.length:=by rw[eh];simp
 have hs:=dF hf;have sy:O1[2]?=some (.cells (aD u m)):=by rw[eh];exact bN h0 Yx.symm
 have nC:O1[f.b9]?=some (.cells (aX f')):=by rw[eh];exact hs _
 have uZ:O1[f.dJ]?=some (.map (.int .i64) (f.vals.map gU)):=by rw[eh];exact bN hv tE
 have eX:∀o∈O1,o.upto O1.length:=by
  rw[<-hlen,eh];refine bx aW hf fun h=>?_;simp only[aX,av,aa.upto,true_and,and_true]at h ⊢;rw[ga];exact h
 rw[<-eh];have X8:∀x,(O1.set f.dJ x)[2]?=some (.cells (aD u m)):=fun x=>bN sy Yy.symm;have HF:∀x,(O1.set f.dJ x)[f.b9]?=some (.cells (aX f')):=fun x=>bN nC tE.symm;have TI:∀x,(O1.set f.dJ x)[f.dJ]?=some x:=dF uZ;unfold aD at sy X8;have eR:=hf;unfold aX at eR;have S5:aX f'=[aI f.fn,aI e.block,aI 0,aI f.to,.mm f.dJ]:=hc.symm;have SZ:=nC;have S2:=HF;rw[S5]at SZ S2;have wP:O1.set f.dJ (.map (.int .i64) (f.vals.map gU))=O1:=mq uZ;have mL:∀x,(O1.set f.dJ x).take O1.length=O1.set f.dJ x:=fun x=>cM;refine zf true O.length Tryz.func98 Tryz.ntmps98 ?_;dsimp only[Tmp,TypeId,slotsOf];refine az (ai ?_);refine aZ 5 ([aI e.block,bp e.args]) [(0,.mp 2 0),(1,.mp f.b9 0),(5,.ip none [aI e.block,bp e.args])] rfl (by rfl) (by omega) (by simp[cd,bG,Go.Av.look]) ?_ ?_ ?_
 ·exact aW
 ·simp[av,aa.upto,ay,ix,eW]
 refine az ?_;refine .inr (.inr ⟨_,gb,ae (zj ?_)⟩);refine ai ?_;refine aG ?_;simp -dsimp only[simprocAttr,↓I,zp,eR,hs,List.set_set,hc,<-eh];refine ai ?_;refine aG ?_;simp -dsimp only[simprocAttr,↓I,zp,sy,SZ,hF,hB]
 repeat(refine⟨by omega,?_⟩)
 refine⟨ob (by kernel_rfl),?_⟩;refine ai ?_;refine ah (a8 (ι:={j:Nat // j<=B.params.length}) (fun j=>⟨54,[(0,.mp 2 0),(1,.mp f.b9 0),(5,.ip none [aI e.block,bp e.args]),(6,.aB 4 (T.map SV.enc) .sh),(37,bp B.params),(38,aI B.params.length),(39,aI j.1)],O1.set f.dJ (.map (.int .i64) ((gL f.vals (B.params.take j.1) (T.take j.1)).map gU))⟩) (fun j=>B.params.length-j.1) ⟨0,by omega⟩ ?_ ?_)
 ·refine zq rfl ?_ ?_;simp -dsimp only[simprocAttr,↓I,zp,zc];rw[ua,wP]
 rintro⟨j,hj⟩;refine az (ai ?_);apply fK rfl<;>intro h
 ·refine bZ ?_;have bd:j<B.params.length:=by simpa using h
  obtain⟨p,hp⟩:∃p,B.params[j]?=some p:=⟨B.params[j],by simp[bd]⟩
  obtain⟨a,ha⟩:∃a,T[j]?=some a:=⟨T[j]'(by omega),List.getElem?_eq_getElem _⟩
  refine aL (ah ?_);refine aG ?_;simp -dsimp only[simprocAttr,↓I,zp,hp];refine ai ?_;refine fE ?_;simp -dsimp only[simprocAttr,↓I,zp,S2,ha,TI,qX,<-py hp ha,List.set_set]
  repeat(refine⟨by omega,?_⟩)
  refine⟨ob (by kernel_rfl),?_⟩;refine ai ?_;refine dA ?_
  repeat(refine⟨by omega,?_⟩)
  refine kv ?_;refine⟨⟨j+1,bd⟩,by simp;omega,?_⟩;refine zq rfl ?_ ?_;simp -dsimp only[simprocAttr,↓I,zp,zc]
  ·exact Sub.int (by simp)
  rfl
 refine aN ?_;simp -dsimp only[bH,ne_eq,Nat.reduceEqDiff,reduceCtorEq];have uR:j=B.params.length:=by simp at h;omega
 subst uR;have Sv:T.take B.params.length=T:=List.take_of_length_le (by omega)
 skip
 simp -dsimp only[simprocAttr,↓I,zp,zr,Tryz.results98,hlen,Sv,List.take_length,mL,List.length_set];refine⟨bT eX (Ak fun x hx=>?_),trivial,by rw[ga]⟩;rw[<-hlen];rcases kL hx with q|q
 ·exact hu x q
 exact WZ _ q
def mF(l:List Int):Nat->Int
 | 0=>0
 | k+1 =>
  match l[l.length-(k+1)]? with
  | none=>0
  | some c=>if !decide (cu c)then 4 else if CE (l.take (l.length-(k+1))) c then 7 else mF l k
def pH(f:Func):List Edge->Int
 | []=>0
 | e::r=>if !within e.block 1 ((f.blocks.length:Int)-1)then 4 else if e.args.length≠(bQ f e.block).params.length then 3 else pH f r
def yt(f:Func)(t:Term):Int :=
 if !gD t then 3
 else if 256<t.cases.length then 2
 else if t.kind=4∧within t.n 1 6=false then 4
 else if mF t.cases t.cases.length≠0 then mF t.cases t.cases.length
 else pH f t.to
theorem zV{l:List Int}{j:Nat}{c:Int}(h:l[j]?=some c):mF l (l.length-j)=if !decide (cu c)then 4 else if CE (l.take j) c then 7 else mF l (l.length-(j+1)):=by
 have bd:=ag h;obtain⟨k,hk⟩:∃k,l.length-j=k+1:=⟨l.length-j-1,by omega⟩
 have hj:l.length-(k+1)=j:=by omega
 rw[hk];simp only[mF,hj,h];rw[show l.length-(j+1)=k by omega]
theorem Ah{f:Func}{l:List Edge}{j:Nat}{e:Edge}(h:l[j]?=some e):pH f (l.drop j)=if !within e.block 1 ((f.blocks.length:Int)-1)then 4 else if e.args.length≠(bQ f e.block).params.length then 3 else pH f (l.drop (j+1)):=by
 have bd:=ag h;rw[List.getElem?_eq_getElem bd]at h;simp only[Option.some.injEq]at h;rw[List.drop_eq_getElem_cons bd,h];rfl
theorem within_iff{n lo hi:Int}:within n lo hi=true↔lo<=n∧n<=hi:=by
 simp[within]
theorem Hj(f:Func)(t:Term)(kB:t.cases.length<=2 ^ 60)(ru:f.blocks.length<=2 ^ 60):bw Tryz.prog 61 [f.enc,t.enc] (aI (yt f t)):=by
 have lT:=Dt t kB;have hw:=dX t.n 1 6;obtain⟨R,hR⟩:∃R,R=yt f t:=⟨_,rfl⟩
 rw[<-hR];unfold yt at hR;generalize gD t=sh at *;have SQ:∀e:Edge,bw Tryz.prog 16 [aI e.block,aI 1,aI ((f.blocks.length:Int)-1)] (.v (.bool (within e.block 1 ((f.blocks.length:Int)-1)))):=fun e=>dX _ _ _;have X2:(t.kind=4∧within t.n 1 6=false)∨(¬(t.kind=4∧within t.n 1 6=false)∧((decide (t.kind=4)=false)∨(decide (t.kind=4)=true∧within t.n 1 6=true))):=by
  by_cases h4:t.kind=4
  ·cases W3:within t.n 1 6
   ·exact .inl ⟨h4,rfl⟩
   exact .inr ⟨by simp,.inr ⟨decide_eq_true h4,rfl⟩⟩
  exact .inr ⟨fun q=>h4 q.1,.inl (decide_eq_false h4)⟩
 refine zf true 0 Tryz.func61 Tryz.ntmps61 ?_;dsimp only[Tmp,TypeId,slotsOf];refine az (ai ?_);refine aR 2 0 (.ip none [aI f.name,aM f.blocks]) rfl (by simp[aq.aJ]) trivial rfl ?_ ?_;rotate_left;simp -dsimp only[simprocAttr,↓I,zp]
 ·refine aR 3 1 (.ip none [aI t.kind,aI t.arg,aI t.n,bp t.cases,bq t.to]) rfl (by simp[aq.aJ]) trivial rfl ?_ ?_;rotate_left;simp -dsimp only[simprocAttr,↓I,zp]
  ·by_cases yD:sh=false∨256<t.cases.length∨(t.kind=4∧within t.n 1 6=false)
   ·refine aL (ah ?_);refine az ?_;refine zi lT ?_;refine ai ?_;cases sh with
    | false =>
     refine dS rfl ?_;refine az (ai ?_);refine ak ?_;simp -dsimp only[simprocAttr,↓I,zp,zr,Tryz.results61];simp[hR]
    | true =>
     refine cP rfl ?_;by_cases hc:256<t.cases.length
     ·have hd:decide ((256:Int)<t.cases.length)=true:=decide_eq_true (by omega);refine aG ?_;simp -dsimp only[simprocAttr,↓I,zp,hd];refine ai ?_;refine dS rfl ?_;refine az (ai ?_);refine ak ?_;simp -dsimp only[simprocAttr,↓I,zp,zr,Tryz.results61];simp[hR,hc]
     have hd:decide ((256:Int)<t.cases.length)=false:=decide_eq_false (by omega);have hk:t.kind=4∧within t.n 1 6=false:=by
      rcases yD with q|q|q
      ·cases q
      ·exact absurd q hc
      exact q
     have K5:decide (t.kind=4)=true:=decide_eq_true hk.1;rw[hk.2]at hw;refine aG ?_;simp -dsimp only[simprocAttr,↓I,zp,hd];refine ai ?_;refine cP rfl ?_;refine aG ?_;simp -dsimp only[simprocAttr,↓I,zp,K5];refine zi hw ?_;refine ai ?_;refine dS rfl ?_;refine az (ai ?_);refine ak ?_;simp -dsimp only[simprocAttr,↓I,zp,zr,Tryz.results61];simp[hR,hc,hk]
   have VE:sh=true:=by
    cases sh
    ·exact absurd (.inl rfl) yD
    rfl
   subst VE;have hc:¬256<t.cases.length:=fun q=>yD (.inr (.inl q));have hk:¬(t.kind=4∧within t.n 1 6=false):=fun q=>yD (.inr (.inr q));have hd:decide ((256:Int)<t.cases.length)=false:=decide_eq_false (by omega);rw[if_neg (by simp),if_neg hc,if_neg hk]at hR;have Vj:=X2.resolve_left hk;refine jb (⟨78,[(2,.ip none [aI f.name,aM f.blocks]),(3,.ip none [aI t.kind,aI t.arg,aI t.n,bp t.cases,bq t.to]),(4,aI 0)],[.gone,.gone]⟩) ?_ ?_
   ·refine ah ?_;refine az ?_;refine zi lT ?_;refine ai ?_;refine cP rfl ?_;refine aG ?_;simp -dsimp only[simprocAttr,↓I,zp,hd];refine ai ?_;refine cP rfl ?_;rcases Vj.2 with K5|⟨K5,lD⟩
    ·refine aG ?_;simp -dsimp only[simprocAttr,↓I,zp,K5];refine ai ?_;refine cP rfl ?_;refine bc ?_;show bn _ _;refine zq rfl ?_ ?_;simp -dsimp only[simprocAttr,↓I,zp,zc];rfl
    rw[lD]at hw;refine aG ?_;simp -dsimp only[simprocAttr,↓I,zp,K5];refine zi hw ?_;refine ai ?_;refine cP rfl ?_;refine bc ?_;show bn _ _;refine zq rfl ?_ ?_;simp -dsimp only[simprocAttr,↓I,zp,zc];rfl
   refine bS (ai ?_);refine ah (a8 (ι:={j:Nat // j<=t.cases.length∧mF t.cases t.cases.length=mF t.cases (t.cases.length-j)}) (fun j=>⟨78,[(2,.ip none [aI f.name,aM f.blocks]),(3,.ip none [aI t.kind,aI t.arg,aI t.n,bp t.cases,bq t.to]),(4,aI 0),(29,bp t.cases),(30,aI t.cases.length),(31,aI j.1)],[.gone,.gone]⟩) (fun j=>t.cases.length-j.1) ⟨0,by omega,rfl⟩ ?_ ?_)
   ·refine zq rfl ?_ ?_;simp -dsimp only[simprocAttr,↓I,zp,zc];rfl
   rintro⟨j,hj,k9⟩;refine az (ai ?_);apply fK rfl<;>intro h
   ·refine bZ ?_;have bd:j<t.cases.length:=by simpa using h
    obtain⟨c,Wx⟩:∃c,t.cases[j]?=some c:=⟨t.cases[j],by simp[bd]⟩
    have cE:=zV Wx;rw[<-k9]at cE;have Vf:=sD c;have U3:=pf (t.cases.take j) c;refine aL (ah ?_);refine aG ?_;simp -dsimp only[simprocAttr,↓I,zp,Wx];refine ai ?_;refine ah ?_;refine az ?_;refine zi Vf ?_;refine ai ?_;cases hw:decide (cu c)with
    | false =>
     rw[hw]at cE;refine dS rfl ?_;refine az (ai ?_);refine ak ?_;simp -dsimp only[simprocAttr,↓I,zp,zr,Tryz.results61];simp[hR,cE]
    | true =>
     rw[hw]at cE;refine cP rfl ?_;refine aG ?_;simp -dsimp only[simprocAttr,↓I,zp,Int.toNat_natCast,List.drop_zero,<-List.map_take]
     repeat(refine⟨by omega,?_⟩)
     refine zi U3 ?_;refine ai ?_;cases hh:CE (t.cases.take j) c with
     | true =>
      rw[hh]at cE;refine dS rfl ?_;refine az (ai ?_);refine ak ?_;simp -dsimp only[simprocAttr,↓I,zp,zr,Tryz.results61];simp[hR,cE]
     | false =>
      rw[hh]at cE;refine cP rfl ?_;refine Xe ?_;refine dA ?_
      repeat(refine⟨by omega,?_⟩)
      refine kv ?_;refine⟨⟨j+1,bd,by rw[cE];simp⟩,by simp;omega,?_⟩;refine zq rfl ?_ ?_;simp -dsimp only[simprocAttr,↓I,zp,zc]
      ·exact Sub.int (by simp)
      rfl
   refine aN ?_;simp -dsimp only[bH,ne_eq,Nat.reduceEqDiff,reduceCtorEq];have uR:j=t.cases.length:=by simp at h;omega
   subst uR;have hz:mF t.cases t.cases.length=0:=by rw[k9,Nat.sub_self];rfl
   rw[hz,if_neg (by simp)]at hR;refine bS (ai ?_);refine gF 49 rfl (fun nk=>?_);simp only[List.length_map]at nk;refine ah (a8 (ι:={j:Nat // j<=t.to.length∧R=pH f (t.to.drop j)}) (fun j=>⟨78,[(2,.ip none [aI f.name,aM f.blocks]),(4,aI 0),(49,bq t.to),(50,aI t.to.length),(51,aI j.1)],[.gone,.gone]⟩) (fun j=>t.to.length-j.1) ⟨0,by omega,hR⟩ ?_ ?_)
   ·refine zq rfl ?_ ?_;simp -dsimp only[simprocAttr,↓I,zp,zc];rfl
   rintro⟨j,hj,k9⟩;refine az (ai ?_);apply fK rfl<;>intro h
   ·refine bZ ?_;have bd:j<t.to.length:=by simpa using h
    obtain⟨e,Kf⟩:∃e,t.to[j]?=some e:=⟨t.to[j],by simp[bd]⟩
    have cE:=Ah (f:=f) Kf;rw[<-k9]at cE;have Gu:=SQ e;refine aL (ah ?_);refine aG ?_;simp -dsimp only[simprocAttr,↓I,zp,Kf];refine ai ?_;refine aR 8 2 (.ip none [aI e.block,bp e.args]) rfl (by simp[aq.aJ]) trivial rfl ?_ ?_;rotate_left;simp -dsimp only[simprocAttr,↓I,zp]
    ·refine cK 2 [(2,.ip none [aI f.name,aM f.blocks]),(4,aI 0),(8,.ip none [aI e.block,bp e.args]),(49,bq t.to),(50,aI t.to.length),(51,aI j)] (by simp) (by omega) [.gone,.gone] ?_ ?_ ?_ ?_ ?_
     ·rfl
     ·simp[aq.upto]
     ·simp[jw,St.get,cd,bG,Go.Av.look,Sub.refl]
     ·simp[av,aa.upto,ay,Block.aj,Edge.aj]
     cases hw:within e.block 1 ((f.blocks.length:Int)-1)with
     | false =>
      rw[hw]at cE Gu;refine ah ?_;refine az ?_
      repeat(refine⟨by omega,?_⟩)
      refine zi Gu ?_;refine ai ?_;refine dS rfl ?_;refine az (ai ?_);refine ak ?_;simp -dsimp only[simprocAttr,↓I,zp,zr,Tryz.results61];simp[cE]
     | true =>
      rw[hw]at cE Gu;have Zi:=within_iff.1 hw;have hB:=fg (f:=f) (k:=e.block) (by omega) (by omega);generalize bQ f e.block=B at *;by_cases hl:e.args.length=B.params.length
      ·have nu:decide ((e.args.length:Int)=B.params.length)=true:=decide_eq_true (by omega);refine ah ?_;refine az ?_
       repeat(refine⟨by omega,?_⟩)
       refine zi Gu ?_;refine ai ?_;refine cP rfl ?_;refine aG ?_;simp -dsimp only[simprocAttr,↓I,zp,hB,nu]
       repeat(refine⟨by omega,?_⟩)
       refine⟨ob (by kernel_rfl),?_⟩;refine ai ?_;refine cP rfl ?_;refine Xe ?_;refine dA ?_
       repeat(refine⟨by omega,?_⟩)
       refine kv ?_;refine⟨⟨j+1,bd,by rw[cE];simp[hl]⟩,by simp;omega,?_⟩;refine zq rfl ?_ ?_;simp -dsimp only[simprocAttr,↓I,zp,zc]
       ·exact Sub.int (by simp)
       rfl
      have nu:decide ((e.args.length:Int)=B.params.length)=false:=decide_eq_false (by omega);refine ah ?_;refine az ?_
      repeat(refine⟨by omega,?_⟩)
      refine zi Gu ?_;refine ai ?_;refine cP rfl ?_;refine aG ?_;simp -dsimp only[simprocAttr,↓I,zp,hB,nu]
      repeat(refine⟨by omega,?_⟩)
      refine⟨ob (by kernel_rfl),?_⟩;refine ai ?_;refine dS rfl ?_;refine az (ai ?_);refine ak ?_;simp -dsimp only[simprocAttr,↓I,zp,zr,Tryz.results61];simp[cE,hl]
    exact cw.mp rfl rfl
   refine aN ?_;simp -dsimp only[bH,ne_eq,Nat.reduceEqDiff,reduceCtorEq];have uR:j=t.to.length:=by simp at h;omega
   subst uR;rw[List.drop_length]at k9;refine az (ai ?_);refine ak ?_;simp -dsimp only[simprocAttr,↓I,zp,zr,Tryz.results61];simp[k9,pH]
  exact cw.mp rfl rfl
 exact cw.mp rfl rfl
abbrev Defs:=List (Int×Int×Int)
def eD(p:Int×Int):aa:=.agg [aI p.1,aI p.2]
def fD(e:Int×Int×Int):Value×aa:=(.int .i64 e.1,eD e.2)
def gN:Defs->Int->Option (Int×Int)
 | [],_=>none
 | (k,p)::r,key=>if k=key then some p else gN r key
theorem jE(es:Defs)(k:Int):bC (es.map fD) (.int .i64 k)=(gN es k).map eD:=by
 induction es with
 | nil=>rfl
 | cons p r ih =>
  obtain⟨a,v⟩:=p;simp only[List.map_cons,fD,bC,gN,oC,decide_eq_true_eq];split
  ·rfl
  exact ih
theorem Iv{es:Defs}{k:Int}(p:Int×Int)(h:gN es k=none):cB (es.map fD) (.int .i64 k) (.agg [aI p.1,aI p.2])=(es++[(k,p)]).map fD:=by
 induction es with
 | nil=>rfl
 | cons q r ih =>
  obtain⟨a,v⟩:=q;simp only[gN]at h;split at h
  ·cases h
  rename_i da;simp only[List.map_cons,fD,cB,oC,decide_eq_true_eq,if_neg da,List.cons_append];rw[<-ih h]
theorem fN(n:Nat)(es:Defs):ba n (es.map fD):=by
 induction es with
 | nil=>trivial
 | cons p r ih=>exact⟨⟨trivial,trivial,trivial⟩,ih⟩
def dq(ds:Defs)(v:Int)(p:Int×Int):Int×Defs :=
 if !within v 0 4095 then(4,ds)else if(gN ds v).isSome then(7,ds)else(0,ds++[(v,p)])
theorem Ad{O:List aq}(aW:∀o∈O,o.upto O.length){c d:Nat}{f:Func}{ds:Defs}(hc:O[c]?=some (.cells [aI f.name,aM f.blocks,.mm d]))(hd:O[d]?=some (.map (.int .i64) (ds.map fD)))(v:Int)(p:Int×Int) :
  aK Tryz.prog 59 O [.mp c 0,aI v,.agg [aI p.1,aI p.2]] (fun r O'=>r=aI (dq ds v p).1∧O'=O.set d (.map (.int .i64) ((dq ds v p).2.map fD))):=by
 have hw:=dX v 0 4095;have kB:=ag hc;have ir:O.set d (.map (.int .i64) (ds.map fD))=O:=mq hd;unfold dq;cases hv:within v 0 4095 with
 | false =>
  rw[hv]at hw;refine zf true O.length Tryz.func59 Tryz.ntmps59 ?_;dsimp only[Tmp,TypeId,slotsOf];refine az (ai ?_);refine aZ 5 ([aI p.1,aI p.2]) [(0,.mp c 0),(1,aI v),(5,.ip none [aI p.1,aI p.2]),(6,aI 0)] rfl (by rfl) (by omega) (by simp[cd,bG,Go.Av.look]) ?_ ?_ ?_
  ·exact aW
  ·simp[aa.upto,av,kB]
  refine bS ?_;refine zi hw ?_;refine ai ?_;refine dS rfl ?_;refine az (ai ?_);refine ak ?_;simp -dsimp only[simprocAttr,↓I,zp,zr,Tryz.results59];exact⟨aW,ir.symm⟩
 | true =>
  rw[hv]at hw;cases hl:gN ds v with
  | some q =>
   have hq:eD q=.agg [aI q.1,aI q.2]:=rfl;refine zf true O.length Tryz.func59 Tryz.ntmps59 ?_;dsimp only[Tmp,TypeId,slotsOf];refine az (ai ?_);refine aZ 5 ([aI p.1,aI p.2]) [(0,.mp c 0),(1,aI v),(5,.ip none [aI p.1,aI p.2]),(6,aI 0)] rfl (by rfl) (by omega) (by simp[cd,bG,Go.Av.look]) ?_ ?_ ?_
   ·exact aW
   ·simp[aa.upto,av,kB]
   refine bS ?_;refine zi hw ?_;refine ai ?_;refine cP rfl ?_;refine bZ ?_;refine bR ?_;simp -dsimp only[simprocAttr,↓I,zp,hc,hd,jE,hl,hq,Option.map_some,Option.getD_some,Option.isSome_some];refine ai ?_;refine az (ai ?_);refine dS rfl ?_;refine az (ai ?_);refine ak ?_;simp -dsimp only[simprocAttr,↓I,zp,zr,Tryz.results59];exact⟨aW,ir.symm⟩
  | none =>
   have wN:=Iv p hl;have iz:=bT (k:=d) (x:=.map (.int .i64) ((ds++[(v,p)]).map fD)) aW (fN _ _);have mL:=cM (O:=O) (k:=d) (x:=.map (.int .i64) ((ds++[(v,p)]).map fD));refine zf true O.length Tryz.func59 Tryz.ntmps59 ?_;dsimp only[Tmp,TypeId,slotsOf];refine az (ai ?_);refine aZ 5 ([aI p.1,aI p.2]) [(0,.mp c 0),(1,aI v),(5,.ip none [aI p.1,aI p.2]),(6,aI 0)] rfl (by rfl) (by omega) (by simp[cd,bG,Go.Av.look]) ?_ ?_ ?_
   ·exact aW
   ·simp[aa.upto,av,kB]
   refine bS ?_;refine zi hw ?_;refine ai ?_;refine cP rfl ?_;refine bZ ?_;refine bR ?_;simp -dsimp only[simprocAttr,↓I,zp,hc,hd,jE,hl,Option.map_none,Option.getD_none,Option.isSome_none];refine ai ?_;refine aZ 7 ([aI 0,aI 0]) [(0,.mp c 0),(1,aI v),(5,.ip none [aI p.1,aI p.2]),(6,aI 0),(8,.v (.bool false))] rfl (by rfl) (by omega) (by simp[cd,bG,Go.Av.look]) ?_ ?_ ?_
   ·exact aW
   ·simp[aa.upto,av,kB]
   refine az (ai ?_);refine cP rfl ?_;refine bZ ?_;refine aG ?_;simp -dsimp only[simprocAttr,↓I,zp,hc,hd,wN];refine⟨ob (by kernel_rfl),?_⟩;refine ai ?_;refine az (ai ?_);refine ak ?_;simp -dsimp only[simprocAttr,↓I,zp,zr,Tryz.results59,mL,List.length_set];exact iz
def fI(k:Int):Defs->List Int->Int×Defs
 | ds,[]=>(0,ds)
 | ds,p::r=>if(dq ds p (k,0)).1≠0 then dq ds p (k,0)else fI k (dq ds p (k,0)).2 r
def kE(k:Int):Int->Defs->List bI->Int×Defs
 | _,ds,[]=>(0,ds)
 | n,ds,i::r=>if(dq ds i.to (k,n+1)).1≠0 then dq ds i.to (k,n+1)else if fi i≠0 then(fi i,(dq ds i.to (k,n+1)).2)else kE k (n+1) (dq ds i.to (k,n+1)).2 r
def iT(f:Func)(ds:Defs)(k:Int):Int×Defs :=
 if(fI k ds (bQ f k).params).1≠0 then fI k ds (bQ f k).params
 else if(kE k 0 (fI k ds (bQ f k).params).2 (bQ f k).ins).1≠0 then kE k 0 (fI k ds (bQ f k).params).2 (bQ f k).ins
 else(yt f (bQ f k).term,(kE k 0 (fI k ds (bQ f k).params).2 (bQ f k).ins).2)
theorem dL{α:Type}{l:List α}{j:Nat}{x:α}(h:l[j]?=some x):l.drop j=x::l.drop (j+1):=by
 have bd:=ag h;rw[List.getElem?_eq_getElem bd]at h;simp only[Option.some.injEq]at h;rw[List.drop_eq_getElem_cons bd,h]
theorem B7{O:List aq}(aW:∀o∈O,o.upto O.length){c d:Nat}(XI:c≠d){f:Func}{ds:Defs}(hc:O[c]?=some (.cells [aI f.name,aM f.blocks,.mm d]))(hd:O[d]?=some (.map (.int .i64) (ds.map fD)))(k:Int)(Kk:0<=k)(Kl:k<f.blocks.length)
  (ru:f.blocks.length<=2 ^ 60) (kB:(bQ f k).term.cases.length<=2 ^ 60) :
  aK Tryz.prog 33 O [.mp c 0,aI k] (fun r O'=>r=aI (iT f ds k).1∧O'=O.set d (.map (.int .i64) ((iT f ds k).2.map fD))):=by
 have hB:=fg Kk Kl;have SG:=ag hc;obtain⟨R,hR⟩:∃R,R=iT f ds k:=⟨_,rfl⟩
 rw[<-hR];unfold iT at hR;have lf:=Hj f (bQ f k).term kB ru;generalize bQ f k=B at *;have Wv:∀x,(O.set d x)[c]?=some (.cells [aI f.name,aM f.blocks,.mm d]):=fun x=>bN hc XI.symm;have XK:=dF hd;have Ft:∀(es:Defs),∀o∈O.set d (.map (.int .i64) (es.map fD)),o.upto (O.set d (.map (.int .i64) (es.map fD))).length:=fun es=>by
  rw[List.length_set];exact bT aW (fN _ _)
 have SI:∀(es:Defs) (v:Int) (p:Int×Int),aK Tryz.prog 59 (O.set d (.map (.int .i64) (es.map fD))) [.mp c 0,aI v,.agg [aI p.1,aI p.2]] (fun r O'=>r=aI (dq es v p).1∧O'=O.set d (.map (.int .i64) ((dq es v p).2.map fD))):=fun es v p=>by
  have h:=Ad (Ft es) (Wv _) (XK (.map (.int .i64) (es.map fD))) v p;rw[List.set_set]at h;exact h
 have ir:O.set d (.map (.int .i64) (ds.map fD))=O:=mq hd;have mL:∀es:Defs,(O.set d (.map (.int .i64) (es.map fD))).take O.length=O.set d (.map (.int .i64) (es.map fD)):=fun es=>cM;have AQ:∀es:Defs,∀o∈O.set d (.map (.int .i64) (es.map fD)),o.upto O.length:=fun es=>bT aW (fN _ _);refine zf true O.length Tryz.func33 Tryz.ntmps33 ?_;dsimp only[Tmp,TypeId,slotsOf];refine az (ai ?_);refine aG ?_;simp -dsimp only[simprocAttr,↓I,zp,hc,hB]
 repeat(refine⟨by omega,?_⟩)
 refine ai ?_;refine aZ 5 ([bp B.params,cS B.ins,aI B.term.kind,aI B.term.arg,aI B.term.n,bp B.term.cases,bq B.term.to]) [(0,.mp c 0),(1,aI k),(4,aI 0),(5,.ip none [bp B.params,cS B.ins,aI B.term.kind,aI B.term.arg,aI B.term.n,bp B.term.cases,bq B.term.to])] rfl (by rfl) (by omega) (by simp[cd,bG,Go.Av.look]) ?_ ?_ ?_
 ·exact aW
 ·simp[aa.upto,av,SG,ay,Edge.aj,bI.aj]
 refine bS (ai ?_);refine gF 22 rfl (fun uW=>?_);simp only[List.length_map]at uW;refine ah (a8 (ι:={x:Nat×Defs // x.1<=B.params.length∧fI k ds B.params=fI k x.2 (B.params.drop x.1)}) (fun x=>⟨69,[(0,.mp c 0),(1,aI k),(4,aI 0),(5,.ip none [bp B.params,cS B.ins,aI B.term.kind,aI B.term.arg,aI B.term.n,bp B.term.cases,bq B.term.to]),(22,bp B.params),(23,aI B.params.length),(24,aI x.1.1)],O.set d (.map (.int .i64) (x.1.2.map fD))⟩) (fun x=>B.params.length-x.1.1) ⟨(0,ds),by simp,rfl⟩ ?_ ?_)
 ·refine zq rfl ?_ ?_;simp -dsimp only[simprocAttr,↓I,zp,zc];rw[ir]
 rintro⟨⟨j,es⟩,hj,k9⟩;simp only at hj k9;refine az (ai ?_);apply fK rfl<;>intro h
 ·refine bZ ?_;have bd:j<B.params.length:=by simpa using h
  obtain⟨p,hp⟩:∃p,B.params[j]?=some p:=⟨B.params[j],by simp[bd]⟩
  have cE:=k9;rw[dL hp]at cE;simp only[fI]at cE;have PK:=SI es p (k,0);generalize dq es p (k,0)=X at *;refine aL (ah ?_);refine aG ?_;simp -dsimp only[simprocAttr,↓I,zp,hp];refine ai ?_;refine az ?_;refine .inr (.inl ⟨_,_,PK,.inl (ae (zj ?_))⟩);refine ai ?_;by_cases hX:X.1=0
  ·have HE:decide (X.1=0)=true:=decide_eq_true hX;rw[if_neg (by simp[hX])]at cE;refine aG ?_;simp -dsimp only[simprocAttr,↓I,zp,HE];refine ai ?_;refine cP rfl ?_;refine k7 ?_;refine dA ?_
   repeat(refine⟨by omega,?_⟩)
   refine kv ?_;refine⟨⟨(j+1,X.2),by simp only;omega,cE⟩,by simp;omega,?_⟩;refine zq rfl ?_ ?_;simp -dsimp only[simprocAttr,↓I,zp,zc]
   ·exact Sub.int (by simp)
   rfl
  have HE:decide (X.1=0)=false:=decide_eq_false hX;rw[if_pos hX]at cE;rw[cE,if_pos hX]at hR;refine aG ?_;simp -dsimp only[simprocAttr,↓I,zp,HE];refine ai ?_;refine dS rfl ?_;refine az (ai ?_);refine ak ?_;simp -dsimp only[simprocAttr,↓I,zp,zr,Tryz.results33,mL,List.length_set];rw[hR];exact⟨AQ X.2,rfl,rfl⟩
 refine aN ?_;simp -dsimp only[bH,ne_eq,Nat.reduceEqDiff,reduceCtorEq];have uR:j=B.params.length:=by simp at h;omega
 subst uR;rw[List.drop_length]at k9;simp only[fI]at k9;rw[k9,if_neg (by simp)]at hR;simp only at hR;refine bS (ai ?_);refine gF 38 rfl (fun sx=>?_);simp only[List.length_map]at sx;refine ah (a8 (ι:={x:Nat×Defs // x.1<=B.ins.length∧kE k 0 es B.ins=kE k x.1 x.2 (B.ins.drop x.1)}) (fun x=>⟨69,[(0,.mp c 0),(1,aI k),(4,aI 0),(5,.ip none [bp B.params,cS B.ins,aI B.term.kind,aI B.term.arg,aI B.term.n,bp B.term.cases,bq B.term.to]),(38,cS B.ins),(39,aI B.ins.length),(40,aI x.1.1)],O.set d (.map (.int .i64) (x.1.2.map fD))⟩) (fun x=>B.ins.length-x.1.1) ⟨(0,es),by simp,rfl⟩ ?_ ?_)
 ·refine zq rfl ?_ ?_;simp -dsimp only[simprocAttr,↓I,zp,zc];rfl
 rintro⟨⟨j,J'⟩,hj,k9⟩;simp only at hj k9;refine az (ai ?_);apply fK rfl<;>intro h
 ·refine bZ ?_;have bd:j<B.ins.length:=by simpa using h
  obtain⟨i,hi⟩:∃i,B.ins[j]?=some i:=⟨B.ins[j],by simp[bd]⟩
  have cE:=k9;rw[dL hi]at cE;simp only[kE]at cE;have PK:=SI J' i.to (k,(j:Int)+1);have S3:=E6 i;generalize fi i=e at *;generalize dq J' i.to (k,(j:Int)+1)=X at *;refine aL (ah ?_);refine aG ?_;simp -dsimp only[simprocAttr,↓I,zp,hi];refine ai ?_;refine aZ 10 ([aI i.to,aI i.op,aI i.n,bp i.args]) [(0,.mp c 0),(1,aI k),(4,aI 0),(5,.ip none [bp B.params,cS B.ins,aI B.term.kind,aI B.term.arg,aI B.term.n,bp B.term.cases,bq B.term.to]),(38,cS B.ins),(39,aI B.ins.length),(40,aI j),(9,aI j),(10,.ip none [aI i.to,aI i.op,aI i.n,bp i.args])] (by simp[cd,bG,Go.Av.look]) (by rfl) (by simp) (by simp[cd,bG,Go.Av.look]) ?_ ?_ ?_
  ·exact Ft J'
  ·simp[aa.upto,av,SG,ay,Edge.aj,bI.aj]
  refine bS ?_
  repeat(refine⟨by omega,?_⟩)
  refine .inr (.inl ⟨_,_,PK,.inl (ae (zj ?_))⟩);refine ai ?_;by_cases hX:X.1=0
  ·have HE:decide (X.1=0)=true:=decide_eq_true hX;rw[if_neg (by simp[hX])]at cE;refine aG ?_;simp -dsimp only[simprocAttr,↓I,zp,HE];refine ai ?_;refine cP rfl ?_;refine bZ ?_;refine az ?_;refine zi S3 ?_;refine ai ?_;by_cases he:e=0
   ·have tv:decide (e=0)=true:=decide_eq_true he;rw[if_neg (by simp[he])]at cE;refine aG ?_;simp -dsimp only[simprocAttr,↓I,zp,tv];refine ai ?_;refine cP rfl ?_;refine k7 ?_;refine dA ?_
    repeat(refine⟨by omega,?_⟩)
    refine kv ?_;refine⟨⟨(j+1,X.2),by simp only;omega,cE⟩,by simp;omega,?_⟩;refine zq rfl ?_ ?_;simp -dsimp only[simprocAttr,↓I,zp,zc]
    ·exact Sub.int (by simp)
    rfl
   have tv:decide (e=0)=false:=decide_eq_false he;rw[if_pos he]at cE;rw[cE,if_pos he]at hR;refine aG ?_;simp -dsimp only[simprocAttr,↓I,zp,tv];refine ai ?_;refine dS rfl ?_;refine az (ai ?_);refine ak ?_;simp -dsimp only[simprocAttr,↓I,zp,zr,Tryz.results33,mL,List.length_set];rw[hR];exact⟨AQ X.2,rfl,rfl⟩
  have HE:decide (X.1=0)=false:=decide_eq_false hX;rw[if_pos hX]at cE;rw[cE,if_pos hX]at hR;refine aG ?_;simp -dsimp only[simprocAttr,↓I,zp,HE];refine ai ?_;refine dS rfl ?_;refine az (ai ?_);refine ak ?_;simp -dsimp only[simprocAttr,↓I,zp,zr,Tryz.results33,mL,List.length_set];rw[hR];exact⟨AQ X.2,rfl,rfl⟩
 refine aN ?_;simp -dsimp only[bH,ne_eq,Nat.reduceEqDiff,reduceCtorEq];have uR:j=B.ins.length:=by simp at h;omega
 subst uR;rw[List.drop_length]at k9;simp only[kE]at k9;rw[k9,if_neg (by simp)]at hR;simp only at hR;refine aG ?_;simp -dsimp only[simprocAttr,↓I,zp,Wv];refine zi lf ?_;refine⟨ob (by kernel_rfl),?_⟩;refine ai ?_;refine ak ?_;simp -dsimp only[simprocAttr,↓I,zp,zr,Tryz.results33,mL,List.length_set];rw[hR];exact⟨AQ J',rfl,rfl⟩
theorem LB:pv Tryz.prog 160 .u64:=by
 obtain⟨⟨i,z,q1,q2,_⟩,_⟩:=hT 158 _ Ex;exact qU ⟨158,i,Tryz.underlying160,q1,q2,Tryz.underlying158,by kernel_rfl⟩
theorem Pj(N V:Bs):(decide ((N.a:Int)=V.a)&&decide ((N.b:Int)=V.b))=decide (N=V):=by
 obtain⟨n1,n2⟩:=N;obtain⟨v1,v2⟩:=V;simp only[Bs.mk.injEq,Int.natCast_inj];by_cases q1:n1=v1<;>by_cases q2:n2=v2<;>simp[q1,q2]
theorem vL(N V:Bs)(K:fC):pq Tryz.prog .neq 160 N.enc V.enc K=K (.v (.bool (!decide (N=V)))) .pure:=by
 show((IntKind.u64=IntKind.u64∧IntKind.u64=IntKind.u64∧IntKind.u64=IntKind.u64∧pv Tryz.prog 160 .u64)∧on (jO .neq (decide ((N.a:Int)=V.a)&&decide ((N.b:Int)=V.b))) fun r=>K (.v (.bool r)) .pure)=_;rw[Pj];simp only[LB,jO,yR,and_self,true_and]
theorem qt{sz:Nat}:∀{xs:List aa} {k:Nat} {x:aa},(∀y∈xs,y.cells.length=sz)->xs[k]?=some x->((aw xs).drop (k*sz)).take sz=x.cells
 | q::r,0,x,c7,h=>by
  simp only[List.getElem?_cons_zero,Option.some.injEq]at h;subst h;have hq:=c7 q (by simp);simp only[aw,List.flatMap_cons,Nat.zero_mul,List.drop_zero];rw[List.take_append_of_le_length (by omega),List.take_of_length_le (by omega)]
 | q::r,k+1,x,c7,h=>by
  have ih:=qt (xs:=r) (k:=k) (x:=x) (fun y hy=>c7 y (by simp[hy])) (by simpa using h);have hq:=c7 q (by simp);have e1:(k+1)*sz-sz=k*sz:=by rw[Nat.succ_mul];omega
  have e3:sz<=(k+1)*sz:=by rw[Nat.succ_mul];omega
  simp only[aw,List.flatMap_cons]at ih ⊢;rw[List.drop_append,List.drop_of_length_le (by omega),hq,e1,List.nil_append];exact ih
theorem DR(l:List Bs):∀y∈l.map Bs.enc,y.cells.length=2:=fun y hy=>by
 obtain⟨s,_,rfl⟩:=List.mem_map.1 hy;rfl
theorem yd(l:List Bs):(aw (l.map Bs.enc)).length=l.length*2:=by
 rw[cj (DR l),List.length_map]
theorem GK{l:List Bs}{k:Nat}{s:Bs}(h:l[k]?=some s):((aw (l.map Bs.enc)).drop (k*2)).take 2=[.v (.int .u64 s.a),.v (.int .u64 s.b)]:=qt (DR l) (x:=s.enc) (by simp[h])
theorem B9{l:List Bs}{k:Nat}(h:k<l.length)(s:Bs):bz (aw (l.map Bs.enc)) (k*2) [.v (.int .u64 s.a),.v (.int .u64 s.b)]=aw ((l.set k s).map Bs.enc):=by
 have:=mH (DR l) (k:=k) (by simpa using h) (y:=s.enc) rfl;rw[<-List.map_set]at this;exact this
theorem iH(n:Nat)(l:List Bs):av n (l.map Bs.enc):=by
 rw[a6];intro x hx;obtain⟨s,_,rfl⟩:=List.mem_map.1 hx;exact s.aS n
theorem jc(n:Nat)(l:List Bs):av n (aw (l.map Bs.enc)):=by
 rw[a6];intro c hc;simp only[aw,List.mem_flatMap,List.mem_map]at hc;obtain⟨_,⟨p,_,rfl⟩,hc⟩:=hc;simp only[Bs.an,List.mem_cons,List.mem_nil_iff,or_false]at hc;rcases hc with rfl|rfl<;>trivial
theorem aA(s:Bs):aa.agg [.v (.int .u64 s.a),.v (.int .u64 s.b)]=s.enc:=rfl
theorem tK:∀n,n<=128->(zK n).fit
 | 0,_=>Bs.nO
 | n+1,h=>Bs.oF (tK n (by omega)) (by omega)
theorem zL:∀n,n<=128->∀k,k<n->(zK n).has k=true
 | n+1,h,k,hk=>by
  simp only[zK];rw[Bs.has_add _ _ _ (by omega) (by omega)];by_cases e:k=n
  ·simp[e]
  rw[zL n (by omega) k (by omega)];rfl
theorem DX{f:Func}(h0:f.blocks≠[])(h1:f.blocks.length<=128):nr f.blocks.length (uF f) where
 oX:=h1
 len:=by simp[uF]
 fit:=fun s hs=>by
  rcases List.mem_or_eq_of_mem_set hs with q|q
  ·rw[(List.mem_replicate.1 q).2];exact tK _ h1
  rw[q];exact Bs.oF Bs.nO (by omega)
 seen:=Bs.oF Bs.nO (by omega)
 self:=fun k hk=>by
  unfold Ds.at_ uF;by_cases e:k=0
  ·subst e;rw[List.getElem?_set_self (by simpa using hk)];decide
  rw[List.getElem?_set_ne (Ne.symm e)];simp only[List.getElem?_replicate,hk,if_true,Option.getD_some];exact zL _ h1 k hk
theorem IP{l:List Nat}{b:Nat}(h:∀x∈l,x<=b):l.sum<=l.length*b:=by
 induction l with
 | nil=>simp
 | cons a r ih =>
  have:=h a (by simp);have:=ih fun x hx=>h x (by simp[hx]);simp only[List.sum_cons,List.length_cons,Nat.succ_mul];omega
theorem Gi{n:Nat}{S:Ds}(h:nr n S):S.weight<=16512:=by
 have h1:(S.over.map Bs.size).sum<=(S.over.map Bs.size).length*128:=IP fun x hx=>by
  obtain⟨s,_,rfl⟩:=List.mem_map.1 hx;exact s.sM
 have h2:=h.oX;have h3:=h.len;simp only[List.length_map]at h1;have h4:S.over.length*128<=128*128:=Nat.mul_le_mul_right _ (by omega);simp only[Ds.weight];omega
theorem EW{f:Func}{S:Ds}(h:S.again=false)(n:Nat):oW f n S=S:=by
 cases n with
 | zero=>rfl
 | succ n=>simp[oW,h]
theorem s7(f:Func)(h0:f.blocks≠[])(h1:f.blocks.length<=128)(he:∀b∈f.blocks,∀e∈b.term.to,0<=e.block∧e.block.toNat<f.blocks.length) :
  bw Tryz.prog 62 [f.enc] (.cN [.aB 2 ((uE f).1.map Bs.enc) .sh,(uE f).2.enc]):=by
 have hS:=DX h0 h1;have Kn:=List.length_pos_iff.2 h0;have Eb:∀(s:Bs) (k:Nat),s.fit->k<128->bw Tryz.prog 111 [s.enc,aI k] (s.add k).enc:=fun s k hs hk=>Gj s hs k hk;obtain⟨R,hR⟩:∃R,R=oW f 20000 (uF f):=⟨_,rfl⟩
 have hM:uE f=(R.over,R.seen):=by rw[hR];rfl
 rw[hM];obtain⟨n,hn⟩:∃n,n=f.blocks.length:=⟨_,rfl⟩
 rw[<-hn]at hS Kn h1 he;have D':aa.agg [.v (.int .u64 0),.v (.int .u64 0)]=Bs.none.enc:=rfl;refine zf true 0 Tryz.func62 Tryz.ntmps62 ?_;dsimp only[Tmp,TypeId,slotsOf];refine aG ?_;simp -dsimp only[simprocAttr,↓I,zp,Bs.an,Bs.ax,Bs.ar,aA];refine ai ?_;refine aR 1 0 (.ip none [aI f.name,aM f.blocks]) rfl (by simp[aq.aJ]) trivial rfl ?_ ?_;rotate_left;simp -dsimp only[simprocAttr,↓I,zp,Bs.an,Bs.ax,Bs.ar,aA]
 ·refine aG ?_;simp -dsimp only[simprocAttr,↓I,zp,Bs.an,Bs.ax,Bs.ar,aA];refine ai ?_;refine bR ?_;simp -dsimp only[simprocAttr,↓I,zp,Bs.an,Bs.ax,Bs.ar,aA,<-hn];refine ai ?_;refine ah (a8 (ι:={j:Nat // j<=n}) (fun j=>⟨106,[(1,.ip none [aI f.name,aM f.blocks]),(3,.mp 1 0),(4,.mp 2 0),(17,aI n),(18,aI j.1)],[.gone,.cells [.v (.int .u64 0),.v (.int .u64 0)],.cells (zK j.1).enc.cells]⟩) (fun j=>n-j.1) ⟨0,by omega⟩ ?_ ?_)
  ·refine zq rfl ?_ ?_;simp -dsimp only[simprocAttr,↓I,zp,Bs.an,Bs.ax,Bs.ar,aA,zc]
   all_goals rfl
  rintro⟨j,hj⟩;have Yq:=fun h=>Eb (zK j) j (tK j (by omega)) h;refine aG ?_;simp -dsimp only[simprocAttr,↓I,zp,Bs.an,Bs.ax,Bs.ar,aA];refine ai ?_;apply fK rfl<;>intro h
  ·refine bZ ?_;have bd:j<n:=by simpa using h
   refine aL (ah ?_);refine aG ?_;simp -dsimp only[simprocAttr,↓I,zp,Bs.an,Bs.ax,Bs.ar,aA];refine ai ?_;refine fE ?_;simp -dsimp only[simprocAttr,↓I,zp,Bs.an,Bs.ax,Bs.ar,aA];refine .inl ⟨_,(Yq (by omega)),by simp only[av,aa.upto,zt,zu,ay,Bs.aS,Bs.ar],ae ?_⟩;simp -dsimp only[simprocAttr,↓I,zp,Bs.an,Bs.ax,Bs.ar,aA];refine ai ?_;refine fE ?_;simp -dsimp only[simprocAttr,↓I,zp,Bs.an,Bs.ax,Bs.ar,aA]
   repeat(refine⟨by omega,?_⟩)
   refine kv ?_;refine⟨⟨j+1,bd⟩,by simp;omega,?_⟩;refine zq rfl ?_ ?_;simp -dsimp only[simprocAttr,↓I,zp,Bs.an,Bs.ax,Bs.ar,aA,zc]
   all_goals first|rfl|exact Sub.refl _
  refine aN ?_;simp -dsimp only[bH,ne_eq,Nat.reduceEqDiff,reduceCtorEq];have uR:j=n:=by simp at h;omega
  subst uR;refine aG ?_;simp -dsimp only[simprocAttr,↓I,zp,Bs.an,Bs.ax,Bs.ar,aA,<-hn]
  repeat(refine⟨by omega,?_⟩)
  refine ai ?_;refine bR ?_;simp -dsimp only[simprocAttr,↓I,zp,Bs.an,Bs.ax,Bs.ar,aA,<-hn];refine ai ?_;obtain⟨A,hA⟩:∃A,A=zK j:=⟨_,rfl⟩
  rw[<-hA];refine ah (a8 (ι:={i:Nat // i<=j}) (fun i=>⟨106,[(1,.ip none [aI f.name,aM f.blocks]),(3,.mp 1 0),(4,.mp 2 0),(6,.ms 3 0 j j),(30,aI j),(31,aI i.1)],[.gone,.cells [.v (.int .u64 0),.v (.int .u64 0)],.cells A.enc.cells,.cells (aw ((List.replicate i.1 A++List.replicate (j-i.1) Bs.none).map Bs.enc))]⟩) (fun i=>j-i.1) ⟨0,by omega⟩ ?_ ?_)
  ·refine zq rfl ?_ ?_;simp -dsimp only[simprocAttr,↓I,zp,Bs.an,Bs.ax,Bs.ar,aA,zc];simp[aw,List.flatMap,Bs.an,Bs.none]
  rintro⟨i,hi⟩;have di:(List.replicate i A++List.replicate (j-i) Bs.none).length=j:=by simp;omega
  refine aG ?_;simp -dsimp only[simprocAttr,↓I,zp,Bs.an,Bs.ax,Bs.ar,aA];refine ai ?_;apply fK rfl<;>intro h
  ·refine bZ ?_;have bd:i<j:=by simpa using h
   have fQ:=B9 (l:=List.replicate i A++List.replicate (j-i) Bs.none) (k:=i) (by rw[di];exact bd) A;have xz:(List.replicate i A++List.replicate (j-i) Bs.none).set i A=List.replicate (i+1) A++List.replicate (j-(i+1)) Bs.none:=by
    obtain⟨q,hq⟩:∃q,j-i=q+1:=⟨j-i-1,by omega⟩
    rw[hq,show j-(i+1)=q by omega,List.set_append_right _ _ (by simp),List.replicate_succ' (n:=i)];simp[List.replicate_succ]
   rw[xz]at fQ;have hlen:=yd (List.replicate i A++List.replicate (j-i) Bs.none);rw[di]at hlen;refine aL (ah ?_);refine aG ?_;simp -dsimp only[simprocAttr,↓I,zp,Bs.an,Bs.ax,Bs.ar,aA];refine ai ?_;refine fE ?_;simp -dsimp only[simprocAttr,↓I,zp,Bs.an,Bs.ax,Bs.ar,aA,fQ,hlen]
   repeat(refine⟨by omega,?_⟩)
   refine ai ?_;refine fE ?_;simp -dsimp only[simprocAttr,↓I,zp,Bs.an,Bs.ax,Bs.ar,aA]
   repeat(refine⟨by omega,?_⟩)
   refine kv ?_;refine⟨⟨i+1,bd⟩,by simp;omega,?_⟩;refine zq rfl ?_ ?_;simp -dsimp only[simprocAttr,↓I,zp,Bs.an,Bs.ax,Bs.ar,aA,zc]
   all_goals first|rfl|exact Sub.refl _
  refine aN ?_;simp -dsimp only[bH,ne_eq,Nat.reduceEqDiff,reduceCtorEq];have Kj:i=j:=by simp at h;omega
  subst Kj;have UI:=Eb Bs.none 0 Bs.nO (by omega);have hlen:=yd (List.replicate i A++List.replicate (i-i) Bs.none);rw[di]at hlen;have fQ:=B9 (l:=List.replicate i A++List.replicate (i-i) Bs.none) (k:=0) (by rw[di];exact Kn) (Bs.none.add 0);have vX:(List.replicate i A++List.replicate (i-i) Bs.none).set 0 (Bs.none.add 0)=(uF f).over:=by
   simp[uF,<-hn,hA]
  rw[vX,Nat.zero_mul]at fQ;have SD:aI ((0:Nat):Int)=aI 0:=rfl;rw[SD]at UI;refine aG ?_;simp -dsimp only[simprocAttr,↓I,zp,Bs.an,Bs.ax,Bs.ar,aA,D'];refine .inl ⟨_,UI,by simp only[av,aa.upto,zt,zu,ay,Bs.aS,Bs.ar],ae ?_⟩;simp -dsimp only[simprocAttr,↓I,zp,Bs.an,Bs.ax,Bs.ar,aA,fQ,hlen];refine⟨by omega,by omega,?_⟩;refine ai ?_;refine aG ?_;simp -dsimp only[simprocAttr,↓I,zp,Bs.an,Bs.ax,Bs.ar,aA,D'];refine .inl ⟨_,UI,by simp only[av,aa.upto,zt,zu,ay,Bs.aS,Bs.ar],ae ?_⟩;simp -dsimp only[simprocAttr,↓I,zp,Bs.an,Bs.ax,Bs.ar,aA];refine ai ?_;refine bR ?_;simp -dsimp only[simprocAttr,↓I,zp,Bs.an,Bs.ax,Bs.ar,aA];refine ai ?_;have Zh:=Gi hS;refine ah (a8 (ι:={x:Ds×Nat // nr i x.1∧R=oW f x.2 x.1∧(x.1.again=true->x.1.weight<x.2)}) (fun x=>⟨106,[(1,.ip none [aI f.name,aM f.blocks]),(3,.mp 1 0),(6,.ms 3 0 i i),(8,.mp 4 0),(9,.v (.bool x.1.1.again))],[.gone,.cells [.v (.int .u64 0),.v (.int .u64 0)],.cells A.enc.cells,.cells (aw (x.1.1.over.map Bs.enc)),.cells x.1.1.seen.enc.cells]⟩) (fun x=>x.1.1.weight+if x.1.1.again then 1 else 0) ⟨(uF f,20000),hS,hR,fun _=>by simp only;omega⟩ ?_ ?_)
  ·refine zq rfl ?_ ?_;simp -dsimp only[simprocAttr,↓I,zp,Bs.an,Bs.ax,Bs.ar,aA,zc]
   all_goals first|rfl|exact Sub.refl _
  rintro⟨⟨S,q⟩,Hx,K1,Qn⟩;simp only at Hx K1 Qn;refine bR ?_;simp -dsimp only[simprocAttr,↓I,zp,Bs.an,Bs.ax,Bs.ar,aA];refine ai ?_;apply aF rfl<;>intro h
  ·refine bZ ?_;have nB:S.again=true:=h;have Qn:=Qn nB;obtain⟨q,rfl⟩:∃q',q=q'+1:=⟨q-1,by omega⟩
   have Hw:R=oW f q (rJ 0 ⟨S.over,S.seen,false⟩ f.blocks):=by
    rw[K1];simp[oW,nB]
   have Ud:nr i ⟨S.over,S.seen,false⟩:=⟨Hx.oX,Hx.len,Hx.fit,Hx.seen,Hx.self⟩
   have Tw:=yp f.blocks (k:=0) Ud he;obtain⟨S1,Px⟩:∃S1,S1=rJ 0 ⟨S.over,S.seen,false⟩ f.blocks:=⟨_,rfl⟩
   rw[<-Px]at Hw Tw;obtain⟨V1,V2,Qz⟩:=Tw;have TL:(⟨S.over,S.seen,false⟩:Ds).weight=S.weight:=rfl;rw[TL]at V2 Qz;refine ah ?_;refine aG ?_;simp -dsimp only[simprocAttr,↓I,zp,Bs.an,Bs.ax,Bs.ar,aA];refine ai ?_;refine aG ?_;simp -dsimp only[simprocAttr,↓I,zp,Bs.an,Bs.ax,Bs.ar,aA,<-hn];refine ai ?_;refine ah (a8 (ι:={y:Nat×Ds // y.1<=i∧nr i y.2∧S1=rJ y.1 y.2 (f.blocks.drop y.1)}) (fun y=>⟨106,[(1,.ip none [aI f.name,aM f.blocks]),(3,.mp 1 0),(6,.ms 3 0 i i),(8,.mp 4 0),(47,aM f.blocks),(48,aI i),(9,.v (.bool y.1.2.again)),(49,aI y.1.1)],[.gone,.cells [.v (.int .u64 0),.v (.int .u64 0)],.cells A.enc.cells,.cells (aw (y.1.2.over.map Bs.enc)),.cells y.1.2.seen.enc.cells]⟩) (fun y=>i-y.1.1) ⟨(0,⟨S.over,S.seen,false⟩),by simp,Ud,Px⟩ ?_ ?_)
   ·refine zq rfl ?_ ?_;simp -dsimp only[simprocAttr,↓I,zp,Bs.an,Bs.ax,Bs.ar,aA,zc]
    all_goals rfl
   rintro⟨⟨k,T⟩,hk,Fa,xp⟩;simp only at hk Fa xp;refine aG ?_;simp -dsimp only[simprocAttr,↓I,zp,Bs.an,Bs.ax,Bs.ar,aA];refine ai ?_;apply fK rfl<;>intro h
   ·refine bZ ?_;have bd:k<i:=by simpa using h
    obtain⟨b,hb⟩:∃b,f.blocks[k]?=some b:=⟨f.blocks[k]'(by omega),List.getElem?_eq_getElem _⟩
    have Gr:=List.mem_of_getElem? hb;rw[dL hb]at xp;simp only[rJ]at xp;have Wz:=DU (k:=k) Fa (he b Gr);have La:=qK T.seen Fa.seen k (by omega);refine aL (ah ?_);refine aG ?_;simp -dsimp only[simprocAttr,↓I,zp,Bs.an,Bs.ax,Bs.ar,aA,hb];refine ai ?_;refine aR 11 5 (.ip none [bp b.params,cS b.ins,aI b.term.kind,aI b.term.arg,aI b.term.n,bp b.term.cases,bq b.term.to]) rfl (by simp[aq.aJ]) trivial rfl ?_ ?_;rotate_left;simp -dsimp only[simprocAttr,↓I,zp,Bs.an,Bs.ax,Bs.ar,aA]
    ·refine cK 5 [(1,.ip none [aI f.name,aM f.blocks]),(3,.mp 1 0),(6,.ms 3 0 i i),(8,.mp 4 0),(47,aM f.blocks),(48,aI i),(9,.v (.bool T.again)),(10,aI k),(11,.ip none [bp b.params,cS b.ins,aI b.term.kind,aI b.term.arg,aI b.term.n,bp b.term.cases,bq b.term.to]),(49,aI k)] (by simp) (by omega) [.gone,.cells [.v (.int .u64 0),.v (.int .u64 0)],.cells A.enc.cells,.cells (aw (T.over.map Bs.enc)),.cells T.seen.enc.cells] ?_ ?_ ?_ ?_ ?_
     ·rfl
     ·simp[aq.upto,av,aa.upto,ay,Block.aj,Edge.aj,bI.aj,jc,Bs.an]
     ·simp[jw,St.get,cd,bG,Go.Av.look,Sub.refl]
     ·simp[aq.upto,av,aa.upto,ay,Block.aj,Edge.aj,bI.aj,jc,Bs.an]
     cases OO:T.seen.has k with
     | false =>
      rw[OO]at La;have U6:wH k T b=T:=by simp[wH,OO]
      rw[U6]at xp;refine bR ?_;simp -dsimp only[simprocAttr,↓I,zp,Bs.an,Bs.ax,Bs.ar,aA];refine .inl ⟨_,La,by simp only[av,aa.upto,zt,zu,ay,Bs.aS,Bs.ar],ae ?_⟩;simp -dsimp only[simprocAttr,↓I,zp,Bs.an,Bs.ax,Bs.ar,aA];refine ai ?_;refine dS rfl ?_;refine aN ?_;simp -dsimp only[bH,ne_eq,Nat.reduceEqDiff,reduceCtorEq];refine fE ?_;simp -dsimp only[simprocAttr,↓I,zp,Bs.an,Bs.ax,Bs.ar,aA]
      repeat(refine⟨by omega,?_⟩)
      refine kv ?_;refine⟨⟨(k+1,T),by simp only;omega,Fa,xp⟩,by simp;omega,?_⟩;refine zq rfl ?_ ?_;simp -dsimp only[simprocAttr,↓I,zp,Bs.an,Bs.ax,Bs.ar,aA,zc]
      all_goals first|rfl|exact Sub.refl _
     | true =>
      rw[OO]at La;have U6:wH k T b=b.term.to.foldl (nt k) T:=by simp[wH,OO]
      rw[U6]at xp Wz;refine bR ?_;simp -dsimp only[simprocAttr,↓I,zp,Bs.an,Bs.ax,Bs.ar,aA];refine .inl ⟨_,La,by simp only[av,aa.upto,zt,zu,ay,Bs.aS,Bs.ar],ae ?_⟩;simp -dsimp only[simprocAttr,↓I,zp,Bs.an,Bs.ax,Bs.ar,aA];refine ai ?_;apply aF rfl<;>intro h
      ·cases h
      refine bZ ?_;refine aG ?_;simp -dsimp only[simprocAttr,↓I,zp,Bs.an,Bs.ax,Bs.ar,aA];refine ai ?_;refine gF 60 rfl (fun nk=>?_);simp only[List.length_map]at nk;obtain⟨T1,Wo⟩:∃T1,T1=b.term.to.foldl (nt k) T:=⟨_,rfl⟩
      rw[<-Wo]at xp Wz;refine ah (a8 (ι:={y:Nat×Ds // y.1<=b.term.to.length∧nr i y.2∧T1=(b.term.to.drop y.1).foldl (nt k) y.2}) (fun y=>⟨106,[(1,.ip none [aI f.name,aM f.blocks]),(3,.mp 1 0),(6,.ms 3 0 i i),(8,.mp 4 0),(47,aM f.blocks),(48,aI i),(9,.v (.bool y.1.2.again)),(10,aI k),(49,aI k),(60,bq b.term.to),(61,aI b.term.to.length),(62,aI y.1.1)],[.gone,.cells [.v (.int .u64 0),.v (.int .u64 0)],.cells A.enc.cells,.cells (aw (y.1.2.over.map Bs.enc)),.cells y.1.2.seen.enc.cells]⟩) (fun y=>b.term.to.length-y.1.1) ⟨(0,T),by simp,Fa,Wo⟩ ?_ ?_)
      ·refine zq rfl ?_ ?_;simp -dsimp only[simprocAttr,↓I,zp,Bs.an,Bs.ax,Bs.ar,aA,zc]
       all_goals rfl
      rintro⟨⟨z,U⟩,hz,Fb,K2⟩;simp only at hz Fb K2;refine aG ?_;simp -dsimp only[simprocAttr,↓I,zp,Bs.an,Bs.ax,Bs.ar,aA];refine ai ?_;apply fK rfl<;>intro h
      ·refine bZ ?_;have Lj:z<b.term.to.length:=by simpa using h
       obtain⟨e,Kf⟩:∃e,b.term.to[z]?=some e:=⟨b.term.to[z],by simp[Lj]⟩
       obtain⟨RS,o6⟩:=he b Gr e (List.mem_of_getElem? Kf);rw[dL Kf]at K2;simp only[List.foldl_cons]at K2;have tv:=DV (k:=k) Fb RS o6;obtain⟨ej,RT⟩:∃ej:Nat,e.block=ej:=⟨e.block.toNat,by omega⟩
       have SR:e.block.toNat=ej:=by omega
       rw[SR]at o6;have OG:U.over[ej]?=some (U.at_ ej):=by
        have:ej<U.over.length:=by rw[Fb.len];exact o6
        simp[Ds.at_,this]
       have iy:U.over[k]?=some (U.at_ k):=by
        have:k<U.over.length:=by rw[Fb.len];exact bd
        simp[Ds.at_,this]
       have SC:=EJ (U.at_ ej) (U.at_ k) (Fb.yb ej) (Fb.yb k);have RU:=Bs.Ay (t:=U.at_ k) (Fb.yb ej);have K3:=Eb ((U.at_ ej).meet (U.at_ k)) ej RU (by omega);have pP:=Bs.oF RU (k:=ej) (by omega);have uY:=qK U.seen Fb.seen ej (by omega);have ON:=Eb U.seen ej Fb.seen (by omega);have qj:=GK OG;have S6:=GK iy;have AN:=yd U.over;rw[Fb.len]at AN;have U5:nt k U e=if((U.at_ ej).meet (U.at_ k)).add ej≠U.at_ ej∨U.seen.has ej=false then⟨U.over.set ej (((U.at_ ej).meet (U.at_ k)).add ej),U.seen.add ej,true⟩else U:=by
        simp only[nt,SR]
       generalize UQ:(U.at_ ej).meet (U.at_ k)=M1 at *;generalize hN:M1.add ej=N at *;generalize hV:U.at_ ej=V at *;have fQ:=B9 (l:=U.over) (k:=ej) (by rw[Fb.len];exact o6) N;refine aL (ah ?_);refine aG ?_;simp -dsimp only[simprocAttr,↓I,zp,Bs.an,Bs.ax,Bs.ar,aA,Kf];refine ai ?_;refine aR 13 5 (.ip none [aI e.block,bp e.args]) rfl (by simp[aq.aJ]) trivial rfl ?_ ?_;rotate_left;simp -dsimp only[simprocAttr,↓I,zp,Bs.an,Bs.ax,Bs.ar,aA]
       ·refine cK 5 [(1,.ip none [aI f.name,aM f.blocks]),(3,.mp 1 0),(6,.ms 3 0 i i),(8,.mp 4 0),(47,aM f.blocks),(48,aI i),(9,.v (.bool U.again)),(10,aI k),(13,.ip none [aI e.block,bp e.args]),(49,aI k),(60,bq b.term.to),(61,aI b.term.to.length),(62,aI z)] (by simp) (by omega) [.gone,.cells [.v (.int .u64 0),.v (.int .u64 0)],.cells A.enc.cells,.cells (aw (U.over.map Bs.enc)),.cells U.seen.enc.cells] ?_ ?_ ?_ ?_ ?_
        ·rfl
        ·simp[aq.upto,av,aa.upto,ay,Block.aj,Edge.aj,bI.aj,jc,Bs.an]
        ·simp[jw,St.get,cd,bG,Go.Av.look,Sub.refl]
        ·simp[aq.upto,av,aa.upto,ay,Block.aj,Edge.aj,bI.aj,jc,Bs.an]
        refine aG ?_;simp -dsimp only[simprocAttr,↓I,zp,Bs.an,Bs.ax,Bs.ar,aA,RT,Int.toNat_natCast,qj,S6,AN];refine⟨by omega,by omega,by omega,by omega,?_⟩;refine .inl ⟨_,SC,by simp only[av,aa.upto,zt,zu,ay,Bs.aS,Bs.ar],ae ?_⟩;simp -dsimp only[simprocAttr,↓I,zp,Bs.an,Bs.ax,Bs.ar,aA];refine .inl ⟨_,K3,by simp only[av,aa.upto,zt,zu,ay,Bs.aS,Bs.ar],ae ?_⟩;simp -dsimp only[simprocAttr,↓I,zp,Bs.an,Bs.ax,Bs.ar,aA];refine⟨ob (by kernel_rfl),?_⟩;refine ai ?_;have PF:=jc 5 (U.over.set ej N);rw[List.map_set]at PF;by_cases Uc:N=V
        ·have Ug:decide (N=V)=true:=decide_eq_true Uc;cases Us:U.seen.has ej with
         | true =>
          rw[Us]at uY;have CJ:nt k U e=U:=by rw[U5,if_neg (by simp[Uc,Us])]
          refine aG ?_;simp -dsimp only[simprocAttr,↓I,zp,Bs.an,Bs.ax,Bs.ar,aA,RT,Int.toNat_natCast,qj,AN,vL,Ug]
          repeat(refine⟨by omega,?_⟩)
          refine .inl ⟨_,uY,by simp only[av,aa.upto,zt,zu,ay,Bs.aS,Bs.ar],ae ?_⟩;simp -dsimp only[simprocAttr,↓I,zp,Bs.an,Bs.ax,Bs.ar,aA];refine⟨ob (by kernel_rfl),?_⟩;refine ai ?_;refine cP rfl ?_;refine k7 ?_;refine cK 5 [(1,.ip none [aI f.name,aM f.blocks]),(3,.mp 1 0),(6,.ms 3 0 i i),(8,.mp 4 0),(47,aM f.blocks),(48,aI i),(9,.v (.bool U.again)),(10,aI k),(49,aI k),(60,bq b.term.to),(61,aI b.term.to.length),(62,aI z)] (by simp) (by omega) [.gone,.cells [.v (.int .u64 0),.v (.int .u64 0)],.cells A.enc.cells,.cells (aw ((U.over).map Bs.enc)),.cells (U.seen).enc.cells] ?_ ?_ ?_ ?_ ?_
          ·rfl
          ·simp[aq.upto,av,aa.upto,ay,Block.aj,Edge.aj,bI.aj,jc,Bs.an]
          ·simp[jw,St.get,cd,bG,Go.Av.look,Sub.refl]
          ·simp[aq.upto,av,aa.upto,ay,Block.aj,Edge.aj,bI.aj,jc,Bs.an]
          refine fE ?_;simp -dsimp only[simprocAttr,↓I,zp,Bs.an,Bs.ax,Bs.ar,aA]
          repeat(refine⟨by omega,?_⟩)
          refine kv ?_;refine⟨⟨(z+1,U),by simp only;omega,Fb,by rw[K2,CJ]⟩,by simp;omega,?_⟩;refine zq rfl ?_ ?_;simp -dsimp only[simprocAttr,↓I,zp,Bs.an,Bs.ax,Bs.ar,aA,zc]
          all_goals first|rfl|exact Sub.refl _
         | false =>
          rw[Us]at uY;have CJ:nt k U e=⟨U.over.set ej N,U.seen.add ej,true⟩:=by rw[U5,if_pos (.inr Us)]
          refine aG ?_;simp -dsimp only[simprocAttr,↓I,zp,Bs.an,Bs.ax,Bs.ar,aA,RT,Int.toNat_natCast,qj,AN,vL,Ug]
          repeat(refine⟨by omega,?_⟩)
          refine .inl ⟨_,uY,by simp only[av,aa.upto,zt,zu,ay,Bs.aS,Bs.ar],ae ?_⟩;simp -dsimp only[simprocAttr,↓I,zp,Bs.an,Bs.ax,Bs.ar,aA];refine⟨ob (by kernel_rfl),?_⟩;refine ai ?_;refine dS rfl ?_;refine fE ?_;simp -dsimp only[simprocAttr,↓I,zp,Bs.an,Bs.ax,Bs.ar,aA,RT,Int.toNat_natCast,fQ,AN]
          repeat(refine⟨by omega,?_⟩)
          refine .inl ⟨_,ON,by simp only[av,aa.upto,zt,zu,ay,Bs.aS,Bs.ar],ae ?_⟩;simp -dsimp only[simprocAttr,↓I,zp,Bs.an,Bs.ax,Bs.ar,aA,fQ,AN]
          repeat(refine⟨by omega,?_⟩)
          refine⟨ob (by kernel_rfl),?_⟩;refine ai ?_;refine cK 5 [(1,.ip none [aI f.name,aM f.blocks]),(3,.mp 1 0),(6,.ms 3 0 i i),(8,.mp 4 0),(47,aM f.blocks),(48,aI i),(9,.v (.bool true)),(10,aI k),(49,aI k),(60,bq b.term.to),(61,aI b.term.to.length),(62,aI z)] (by simp) (by omega) [.gone,.cells [.v (.int .u64 0),.v (.int .u64 0)],.cells A.enc.cells,.cells (aw ((U.over.set ej N).map Bs.enc)),.cells (U.seen.add ej).enc.cells] ?_ ?_ ?_ ?_ ?_
          ·rfl
          ·simp[aq.upto,av,aa.upto,ay,Block.aj,Edge.aj,bI.aj,jc,Bs.an,PF]
          ·simp[jw,St.get,cd,bG,Go.Av.look,Sub.refl]
          ·simp[aq.upto,av,aa.upto,ay,Block.aj,Edge.aj,bI.aj,jc,Bs.an]
          refine fE ?_;simp -dsimp only[simprocAttr,↓I,zp,Bs.an,Bs.ax,Bs.ar,aA]
          repeat(refine⟨by omega,?_⟩)
          refine kv ?_;refine⟨⟨(z+1,⟨U.over.set ej N,U.seen.add ej,true⟩),by simp only;omega,by rw[<-CJ];exact tv.1,by rw[K2,CJ]⟩,by simp;omega,?_⟩;refine zq rfl ?_ ?_;simp -dsimp only[simprocAttr,↓I,zp,Bs.an,Bs.ax,Bs.ar,aA,zc]
          all_goals first|rfl|exact Sub.refl _
        have Ug:decide (N=V)=false:=decide_eq_false Uc;have CJ:nt k U e=⟨U.over.set ej N,U.seen.add ej,true⟩:=by rw[U5,if_pos (.inl Uc)]
        refine aG ?_;simp -dsimp only[simprocAttr,↓I,zp,Bs.an,Bs.ax,Bs.ar,aA,RT,Int.toNat_natCast,qj,AN,vL,Ug]
        repeat(refine⟨by omega,?_⟩)
        refine⟨ob (by kernel_rfl),?_⟩;refine ai ?_;refine dS rfl ?_;refine fE ?_;simp -dsimp only[simprocAttr,↓I,zp,Bs.an,Bs.ax,Bs.ar,aA,RT,Int.toNat_natCast,fQ,AN]
        repeat(refine⟨by omega,?_⟩)
        refine .inl ⟨_,ON,by simp only[av,aa.upto,zt,zu,ay,Bs.aS,Bs.ar],ae ?_⟩;simp -dsimp only[simprocAttr,↓I,zp,Bs.an,Bs.ax,Bs.ar,aA,fQ,AN]
        repeat(refine⟨by omega,?_⟩)
        refine⟨ob (by kernel_rfl),?_⟩;refine ai ?_;refine cK 5 [(1,.ip none [aI f.name,aM f.blocks]),(3,.mp 1 0),(6,.ms 3 0 i i),(8,.mp 4 0),(47,aM f.blocks),(48,aI i),(9,.v (.bool true)),(10,aI k),(49,aI k),(60,bq b.term.to),(61,aI b.term.to.length),(62,aI z)] (by simp) (by omega) [.gone,.cells [.v (.int .u64 0),.v (.int .u64 0)],.cells A.enc.cells,.cells (aw ((U.over.set ej N).map Bs.enc)),.cells (U.seen.add ej).enc.cells] ?_ ?_ ?_ ?_ ?_
        ·rfl
        ·simp[aq.upto,av,aa.upto,ay,Block.aj,Edge.aj,bI.aj,jc,Bs.an,PF]
        ·simp[jw,St.get,cd,bG,Go.Av.look,Sub.refl]
        ·simp[aq.upto,av,aa.upto,ay,Block.aj,Edge.aj,bI.aj,jc,Bs.an]
        refine fE ?_;simp -dsimp only[simprocAttr,↓I,zp,Bs.an,Bs.ax,Bs.ar,aA]
        repeat(refine⟨by omega,?_⟩)
        refine kv ?_;refine⟨⟨(z+1,⟨U.over.set ej N,U.seen.add ej,true⟩),by simp only;omega,by rw[<-CJ];exact tv.1,by rw[K2,CJ]⟩,by simp;omega,?_⟩;refine zq rfl ?_ ?_;simp -dsimp only[simprocAttr,↓I,zp,Bs.an,Bs.ax,Bs.ar,aA,zc]
        all_goals first|rfl|exact Sub.refl _
       exact cw.mp rfl rfl
      refine aN ?_;simp -dsimp only[bH,ne_eq,Nat.reduceEqDiff,reduceCtorEq];have ql:z=b.term.to.length:=by simp at h;omega
      subst ql;rw[List.drop_length]at K2;simp only[List.foldl_nil]at K2;refine fE ?_;simp -dsimp only[simprocAttr,↓I,zp,Bs.an,Bs.ax,Bs.ar,aA]
      repeat(refine⟨by omega,?_⟩)
      refine kv ?_;refine⟨⟨(k+1,U),by simp only;omega,Fb,by rw[xp,K2]⟩,by simp;omega,?_⟩;refine zq rfl ?_ ?_;simp -dsimp only[simprocAttr,↓I,zp,Bs.an,Bs.ax,Bs.ar,aA,zc]
      all_goals first|rfl|exact Sub.refl _
    exact cw.mp rfl rfl
   refine aN ?_;simp -dsimp only[bH,ne_eq,Nat.reduceEqDiff,reduceCtorEq];have Vh:k=i:=by simp at h;omega
   subst Vh;rw[hn,List.drop_length]at xp;simp only[rJ]at xp;subst xp;have HL:S1.again=true->S1.weight<q:=fun hh=>by
    rcases Qz hh with r|r
    ·cases r
    omega
   refine⟨⟨(S1,q),V1,Hw,HL⟩,?_,?_⟩
   ·simp only[nB,if_true];cases wP:S1.again
    ·simp;omega
    rcases Qz wP with r|r
    ·cases r
    simp;omega
   refine zq rfl ?_ ?_;simp -dsimp only[simprocAttr,↓I,zp,Bs.an,Bs.ax,Bs.ar,aA,zc]
   all_goals rfl
  refine aN ?_;simp -dsimp only[bH,ne_eq,Nat.reduceEqDiff,reduceCtorEq];have nB:S.again=false:=h;rw[EW nB]at K1;subst K1;have c7:=Hx.len;refine aR 6 3 (.aB 2 (R.over.map Bs.enc) .sh) rfl (by simp[aq.aJ]) trivial rfl ?_ ?_;rotate_left;simp -dsimp only[simprocAttr,↓I,zp,Bs.an,Bs.ax,Bs.ar,aA]
  ·refine aG ?_;simp -dsimp only[simprocAttr,↓I,zp,Bs.an,Bs.ax,Bs.ar,aA];refine⟨ob (by kernel_rfl),?_⟩;refine ai ?_;refine ak ?_;simp -dsimp only[simprocAttr,↓I,zp,Bs.an,Bs.ax,Bs.ar,aA,zr,Tryz.results62];exact⟨⟨iH _ _,trivial⟩,Bs.aS _ _,trivial⟩
  refine cw.ms rfl (DR R.over) (by simp[c7]) ?_;rw[List.drop_zero,List.take_of_length_le (by rw[yd,c7];exact Nat.le_refl _),<-fM];simp[List.map_map,Function.comp_def,Bs.ar]
 exact cw.mp rfl rfl
abbrev GO(f:Func)(ds:Defs)(over:List Bs)(seen:Bs)(k:Nat)(A:Nat):List aa:=[.ip none [.ip none [aI f.name,aM f.blocks,.im (.int .i64) (ds.map fD)]],.ip none [aI (k:Int)],.mp A 0,.ip none [.aB 2 (over.map Bs.enc) .sh],.ip none [.v (.int .u64 seen.a),.v (.int .u64 seen.b)]]
def ly(ds:Defs)(over:List Bs)(seen:Bs)(k:Nat)(at_:Int)(v:Int):Bool :=
 match gN ds v with
 | none=>false
 | some p=>(decide (p.1=k)&&decide (p.2<=at_)) || ((!decide (p.1=k)&&(over[k]?.getD .none).has p.1.toNat) || !seen.has k)
def BQ(n:Nat)(ds:Defs):Prop:=∀v p,gN ds v=some p->0<=p.1∧p.1.toNat<n
theorem E5{O:List aq}(aW:∀o∈O,o.upto O.length){f:Func}{ds:Defs}{over:List Bs}{seen:Bs}{k A:Nat}{at_:Int}(hA:O[A]?=some (.cells [aI at_]))(hn:over.length<=128)(hk:k<over.length)(fU:∀s∈over,s.fit)(Va:seen.fit)(tw:BQ over.length ds)(v:Int) :
  aK Tryz.prog 63 O (aI v::GO f ds over seen k A) (fun r O'=>r=.v (.bool (ly ds over seen k at_ v))∧O'=O):=by
 have RN:=ag hA;have iy:over[k]?=some over[k]:=List.getElem?_eq_getElem hk;have WG:=fU _ (List.getElem_mem hk);obtain⟨s,hs⟩:∃s,s=over[k]:=⟨_,rfl⟩
 rw[<-hs]at iy WG;have uY:=qK seen Va k (by omega);unfold ly;have YT:∀X,(O++X)[A]?=some (.cells [aI at_]):=fun X=>dK hA;have Y':=fN O.length ds;rw[iy];simp only[Option.getD_some];generalize OO:seen.has k=sk at *;cases hl:gN ds v with
 | none =>
  refine zf true O.length Tryz.func63 Tryz.ntmps63 ?_;dsimp only[Tmp,TypeId,slotsOf];refine aG ?_;simp -dsimp only[simprocAttr,↓I,zp,Bs.an,Bs.ax,Bs.ar,aA];refine ai ?_;refine aG ?_;simp -dsimp only[simprocAttr,↓I,zp,Bs.an,Bs.ax,Bs.ar,aA,jE,hl,Option.map_none,Option.getD_none,Option.isSome_none];refine ai ?_;refine aZ 8 ([aI 0,aI 0]) [(9,.v (.bool false))] rfl (by rfl) (by omega) (by simp[cd,bG,Go.Av.look]) ?_ ?_ ?_
  ·exact aW
  ·simp[aa.upto]
  refine aG ?_;simp -dsimp only[simprocAttr,↓I,zp,Bs.an,Bs.ax,Bs.ar,aA];refine⟨ob (by kernel_rfl),?_⟩;refine ai ?_;refine ak ?_;simp -dsimp only[simprocAttr,↓I,zp,Bs.an,Bs.ax,Bs.ar,aA,zr,Tryz.results63];exact aW
 | some p =>
  have hq:eD p=.agg [aI p.1,aI p.2]:=rfl;obtain⟨b0,b1⟩:=tw v p hl;have vX:=qK s WG p.1.toNat (by omega)
  rw[show((p.1.toNat:Nat):Int)=p.1 by omega]at vX;simp only;generalize s.has p.1.toNat=sv at *;by_cases AL:p.1=k
  ·have hd:decide (p.1=(k:Int))=true:=decide_eq_true AL;by_cases uV:p.2<=at_
   ·have lA:decide (p.2<=at_)=true:=decide_eq_true uV;rw[hd,lA];refine zf true O.length Tryz.func63 Tryz.ntmps63 ?_;dsimp only[Tmp,TypeId,slotsOf];refine aG ?_;simp -dsimp only[simprocAttr,↓I,zp,Bs.an,Bs.ax,Bs.ar,aA];refine ai ?_;refine aG ?_;simp -dsimp only[simprocAttr,↓I,zp,Bs.an,Bs.ax,Bs.ar,aA,jE,hl,hq,Option.map_some,Option.getD_some,Option.isSome_some];refine ai ?_;refine aZ 8 ([aI p.1,aI p.2]) [(2,.ip none [aI k]),(3,.mp A 0),(4,.ip none [.aB 2 (over.map Bs.enc) .sh]),(5,.ip none [.v (.int .u64 seen.a),.v (.int .u64 seen.b)]),(8,.ip none [aI p.1,aI p.2]),(9,.v (.bool true))] rfl (by rfl) (by omega) (by simp[cd,bG,Go.Av.look]) ?_ ?_ ?_
    ·exact aW
    ·simp[aa.upto,av,RN,iH]
    refine aG ?_;simp -dsimp only[simprocAttr,↓I,zp,Bs.an,Bs.ax,Bs.ar,aA,hA,iy,Int.toNat_natCast,hd,lA];refine⟨ob (by kernel_rfl),?_⟩;refine ai ?_;refine ak ?_;simp -dsimp only[simprocAttr,↓I,zp,Bs.an,Bs.ax,Bs.ar,aA,zr,Tryz.results63];exact⟨aW,by simp⟩
   have lA:decide (p.2<=at_)=false:=decide_eq_false uV;rw[hd,lA];refine zf true O.length Tryz.func63 Tryz.ntmps63 ?_;dsimp only[Tmp,TypeId,slotsOf];refine aG ?_;simp -dsimp only[simprocAttr,↓I,zp,Bs.an,Bs.ax,Bs.ar,aA];refine ai ?_;refine aG ?_;simp -dsimp only[simprocAttr,↓I,zp,Bs.an,Bs.ax,Bs.ar,aA,jE,hl,hq,Option.map_some,Option.getD_some,Option.isSome_some];refine ai ?_;refine aZ 8 ([aI p.1,aI p.2]) [(2,.ip none [aI k]),(3,.mp A 0),(4,.ip none [.aB 2 (over.map Bs.enc) .sh]),(5,.ip none [.v (.int .u64 seen.a),.v (.int .u64 seen.b)]),(8,.ip none [aI p.1,aI p.2]),(9,.v (.bool true))] rfl (by rfl) (by omega) (by simp[cd,bG,Go.Av.look]) ?_ ?_ ?_
   ·exact aW
   ·simp[aa.upto,av,RN,iH]
   refine aG ?_;simp -dsimp only[simprocAttr,↓I,zp,Bs.an,Bs.ax,Bs.ar,aA,hA,iy,Int.toNat_natCast,hd,lA];refine .inl ⟨_,uY,by simp only[av,aa.upto,zt,zu,ay,Bs.aS,Bs.ar],ae ?_⟩;simp -dsimp only[simprocAttr,↓I,zp,Bs.an,Bs.ax,Bs.ar,aA,hd,lA,hA,iy,Int.toNat_natCast];refine⟨ob (by kernel_rfl),?_⟩;refine ai ?_;refine ak ?_;simp -dsimp only[simprocAttr,↓I,zp,Bs.an,Bs.ax,Bs.ar,aA,zr,Tryz.results63];exact⟨aW,by simp⟩
  have hd:decide (p.1=(k:Int))=false:=decide_eq_false AL;rw[hd];cases sv with
  | true =>
   refine zf true O.length Tryz.func63 Tryz.ntmps63 ?_;dsimp only[Tmp,TypeId,slotsOf];refine aG ?_;simp -dsimp only[simprocAttr,↓I,zp,Bs.an,Bs.ax,Bs.ar,aA];refine ai ?_;refine aG ?_;simp -dsimp only[simprocAttr,↓I,zp,Bs.an,Bs.ax,Bs.ar,aA,jE,hl,hq,Option.map_some,Option.getD_some,Option.isSome_some];refine ai ?_;refine aZ 8 ([aI p.1,aI p.2]) [(2,.ip none [aI k]),(3,.mp A 0),(4,.ip none [.aB 2 (over.map Bs.enc) .sh]),(5,.ip none [.v (.int .u64 seen.a),.v (.int .u64 seen.b)]),(8,.ip none [aI p.1,aI p.2]),(9,.v (.bool true))] rfl (by rfl) (by omega) (by simp[cd,bG,Go.Av.look]) ?_ ?_ ?_
   ·exact aW
   ·simp[aa.upto,av,RN,iH]
   refine aG ?_;simp -dsimp only[simprocAttr,↓I,zp,Bs.an,Bs.ax,Bs.ar,aA,hA,iy,Int.toNat_natCast,hd];refine .inl ⟨_,vX,by simp only[av,aa.upto,zt,zu,ay,Bs.aS,Bs.ar],ae ?_⟩;simp -dsimp only[simprocAttr,↓I,zp,Bs.an,Bs.ax,Bs.ar,aA,hd,hA,iy,Int.toNat_natCast];refine⟨ob (by kernel_rfl),?_⟩;refine ai ?_;refine ak ?_;simp -dsimp only[simprocAttr,↓I,zp,Bs.an,Bs.ax,Bs.ar,aA,zr,Tryz.results63];exact⟨aW,by simp⟩
  | false =>
   refine zf true O.length Tryz.func63 Tryz.ntmps63 ?_;dsimp only[Tmp,TypeId,slotsOf];refine aG ?_;simp -dsimp only[simprocAttr,↓I,zp,Bs.an,Bs.ax,Bs.ar,aA];refine ai ?_;refine aG ?_;simp -dsimp only[simprocAttr,↓I,zp,Bs.an,Bs.ax,Bs.ar,aA,jE,hl,hq,Option.map_some,Option.getD_some,Option.isSome_some];refine ai ?_;refine aZ 8 ([aI p.1,aI p.2]) [(2,.ip none [aI k]),(3,.mp A 0),(4,.ip none [.aB 2 (over.map Bs.enc) .sh]),(5,.ip none [.v (.int .u64 seen.a),.v (.int .u64 seen.b)]),(8,.ip none [aI p.1,aI p.2]),(9,.v (.bool true))] rfl (by rfl) (by omega) (by simp[cd,bG,Go.Av.look]) ?_ ?_ ?_
   ·exact aW
   ·simp[aa.upto,av,RN,iH]
   refine aG ?_;simp -dsimp only[simprocAttr,↓I,zp,Bs.an,Bs.ax,Bs.ar,aA,hA,iy,Int.toNat_natCast,hd];refine .inl ⟨_,vX,by simp only[av,aa.upto,zt,zu,ay,Bs.aS,Bs.ar],ae ?_⟩;simp -dsimp only[simprocAttr,↓I,zp,Bs.an,Bs.ax,Bs.ar,aA,hd,hA,iy,Int.toNat_natCast];refine .inl ⟨_,uY,by simp only[av,aa.upto,zt,zu,ay,Bs.aS,Bs.ar],ae ?_⟩;simp -dsimp only[simprocAttr,↓I,zp,Bs.an,Bs.ax,Bs.ar,aA,hd,hA,iy,Int.toNat_natCast];refine⟨ob (by kernel_rfl),?_⟩;refine ai ?_;refine ak ?_;simp -dsimp only[simprocAttr,↓I,zp,Bs.an,Bs.ax,Bs.ar,aA,zr,Tryz.results63];exact⟨aW,by simp⟩
def po(t:Term)(p:Int->Bool):Bool:=((decide (t.kind=1) ||decide (t.kind=4)) ||p t.arg)&&t.to.all fun e=>e.args.all p
theorem tL{α:Type}{l:List α}{p:α->Bool}{j:Nat}{x:α}(h:l[j]?=some x):(l.drop j).all p=(p x&&(l.drop (j+1)).all p):=by
 rw[dL h];rfl
theorem Ge{O:List aq}(aW:∀o∈O,o.upto O.length)(id:Nat)(ye:List aa)(qi:av O.length ye)(p:Int->Bool)(hp:∀v,aK Tryz.prog id O (aI v::ye) (fun r O'=>r=.v (.bool (p v))∧O'=O))(t:Term) :
  aK Tryz.prog 65 O [t.enc,.fn (.func id) [] ye] (fun r O'=>r=.v (.bool (po t p))∧O'=O):=by
 obtain⟨R,hR⟩:∃R,R=po t p:=⟨_,rfl⟩
 rw[<-hR];unfold po at hR;have Oo:aa.upto O.length (.fn (.func id) [] ye):=⟨trivial,qi⟩
 have uV:=hp t.arg;refine zf true O.length Tryz.func65 Tryz.ntmps65 ?_;dsimp only[Tmp,TypeId,slotsOf];refine aG ?_;simp -dsimp only[simprocAttr,↓I,zp,Bs.an,Bs.ax,Bs.ar,aA];refine ai ?_;refine aZ 2 ([aI t.kind,aI t.arg,aI t.n,bp t.cases,bq t.to]) [(1,.fn (.func id) [] ye),(2,.ip none [aI t.kind,aI t.arg,aI t.n,bp t.cases,bq t.to]),(4,.v (.bool false))] rfl (by rfl) (by omega) (by simp[cd,bG,Go.Av.look]) ?_ ?_ ?_
 ·exact aW
 ·simp[aa.upto,av,ay,Edge.aj,qi]
 cases hb:(decide (t.kind=1) ||decide (t.kind=4)) ||p t.arg with
 | false =>
  rw[hb]at hR;obtain⟨h1,h4,rM⟩:decide (t.kind=1)=false∧decide (t.kind=4)=false∧p t.arg=false:=by
   revert hb;cases decide (t.kind=1)<;>cases decide (t.kind=4)<;>cases p t.arg<;>simp
  rw[rM]at uV;refine bR ?_;simp -dsimp only[simprocAttr,↓I,zp,Bs.an,Bs.ax,Bs.ar,aA,h1,h4];refine .inr (.inr ⟨_,uV,ae ?_⟩);simp -dsimp only[simprocAttr,↓I,zp,Bs.an,Bs.ax,Bs.ar,aA];refine ai ?_;refine dS rfl ?_;refine aG ?_;simp -dsimp only[simprocAttr,↓I,zp,Bs.an,Bs.ax,Bs.ar,aA];refine ai ?_;refine ak ?_;simp -dsimp only[simprocAttr,↓I,zp,Bs.an,Bs.ax,Bs.ar,aA,zr,Tryz.results65];exact⟨aW,by rw[hR];rfl⟩
 | true =>
  rw[hb,Bool.true_and]at hR;refine jb (⟨44,[(1,.fn (.func id) [] ye),(2,.ip none [aI t.kind,aI t.arg,aI t.n,bp t.cases,bq t.to]),(4,.v (.bool false))],O⟩) ?_ ?_
  ·cases h1:decide (t.kind=1)with
   | true =>
    refine aG ?_;simp -dsimp only[simprocAttr,↓I,zp,Bs.an,Bs.ax,Bs.ar,aA,h1];refine ai ?_;refine cP rfl ?_;refine bc ?_;show bn _ _;refine zq rfl ?_ ?_;simp -dsimp only[simprocAttr,↓I,zp,Bs.an,Bs.ax,Bs.ar,aA,zc];rfl
   | false =>
    cases h4:decide (t.kind=4)with
    | true =>
     refine aG ?_;simp -dsimp only[simprocAttr,↓I,zp,Bs.an,Bs.ax,Bs.ar,aA,h1,h4];refine ai ?_;refine cP rfl ?_;refine bc ?_;show bn _ _;refine zq rfl ?_ ?_;simp -dsimp only[simprocAttr,↓I,zp,Bs.an,Bs.ax,Bs.ar,aA,zc];rfl
    | false =>
     have rM:p t.arg=true:=by
      rw[h1,h4]at hb;simpa using hb
     rw[rM]at uV;refine aG ?_;simp -dsimp only[simprocAttr,↓I,zp,Bs.an,Bs.ax,Bs.ar,aA,h1,h4];refine .inr (.inr ⟨_,uV,ae ?_⟩);simp -dsimp only[simprocAttr,↓I,zp,Bs.an,Bs.ax,Bs.ar,aA];refine ai ?_;refine cP rfl ?_;refine bc ?_;show bn _ _;refine zq rfl ?_ ?_;simp -dsimp only[simprocAttr,↓I,zp,Bs.an,Bs.ax,Bs.ar,aA,zc];rfl
  skip
  refine bR ?_;simp -dsimp only[simprocAttr,↓I,zp,Bs.an,Bs.ax,Bs.ar,aA];refine ai ?_;refine gF 25 rfl (fun nk=>?_);simp only[List.length_map]at nk;refine ah (a8 (ι:={j:Nat // j<=t.to.length∧R=(t.to.drop j).all fun e=>e.args.all p}) (fun j=>⟨44,[(1,.fn (.func id) [] ye),(4,.v (.bool false)),(25,bq t.to),(26,aI t.to.length),(27,aI j.1)],O⟩) (fun j=>t.to.length-j.1) ⟨0,by omega,hR⟩ ?_ ?_)
  ·refine zq rfl ?_ ?_;simp -dsimp only[simprocAttr,↓I,zp,Bs.an,Bs.ax,Bs.ar,aA,zc];rfl
  rintro⟨j,hj,k9⟩;refine aG ?_;simp -dsimp only[simprocAttr,↓I,zp,Bs.an,Bs.ax,Bs.ar,aA];refine ai ?_;apply fK rfl<;>intro h
  ·refine bZ ?_;have bd:j<t.to.length:=by simpa using h
   obtain⟨e,Kf⟩:∃e,t.to[j]?=some e:=⟨t.to[j],by simp[bd]⟩
   rw[tL Kf]at k9;refine aL (ah ?_);refine aG ?_;simp -dsimp only[simprocAttr,↓I,zp,Bs.an,Bs.ax,Bs.ar,aA,Kf];refine ai ?_;refine aZ 6 ([aI e.block,bp e.args]) [(1,.fn (.func id) [] ye),(4,.v (.bool false)),(6,.ip none [aI e.block,bp e.args]),(25,bq t.to),(26,aI t.to.length),(27,aI j)] rfl (by rfl) (by omega) (by simp[cd,bG,Go.Av.look]) ?_ ?_ ?_
   ·exact aW
   ·simp[aa.upto,av,ay,Edge.aj,qi]
   refine aG ?_;simp -dsimp only[simprocAttr,↓I,zp,Bs.an,Bs.ax,Bs.ar,aA];refine ai ?_;refine gF 32 rfl (fun mA=>?_);simp only[List.length_map]at mA;refine ah (a8 (ι:={z:Nat // z<=e.args.length∧R=((e.args.drop z).all p&&(t.to.drop (j+1)).all fun e=>e.args.all p)}) (fun z=>⟨44,[(1,.fn (.func id) [] ye),(4,.v (.bool false)),(25,bq t.to),(26,aI t.to.length),(27,aI j),(32,bp e.args),(33,aI e.args.length),(34,aI z.1)],O⟩) (fun z=>e.args.length-z.1) ⟨0,by omega,k9⟩ ?_ ?_)
   ·refine zq rfl ?_ ?_;simp -dsimp only[simprocAttr,↓I,zp,Bs.an,Bs.ax,Bs.ar,aA,zc];rfl
   rintro⟨z,hz,ql⟩;refine aG ?_;simp -dsimp only[simprocAttr,↓I,zp,Bs.an,Bs.ax,Bs.ar,aA];refine ai ?_;apply fK rfl<;>intro h
   ·refine bZ ?_;have Lj:z<e.args.length:=by simpa using h
    obtain⟨v,hv⟩:∃v,e.args[z]?=some v:=⟨e.args[z],by simp[Lj]⟩
    rw[tL hv]at ql;have Ye:=hp v;refine aL (ah ?_);refine aG ?_;simp -dsimp only[simprocAttr,↓I,zp,Bs.an,Bs.ax,Bs.ar,aA,hv];refine ai ?_;refine aG ?_;simp -dsimp only[simprocAttr,↓I,zp,Bs.an,Bs.ax,Bs.ar,aA];refine .inr (.inr ⟨_,Ye,ae ?_⟩);simp -dsimp only[simprocAttr,↓I,zp,Bs.an,Bs.ax,Bs.ar,aA];refine ai ?_;cases rM:p v with
    | true =>
     rw[rM,Bool.true_and]at ql;refine cP rfl ?_;refine k7 ?_;refine fE ?_;simp -dsimp only[simprocAttr,↓I,zp,Bs.an,Bs.ax,Bs.ar,aA]
     repeat(refine⟨by omega,?_⟩)
     refine kv ?_;refine⟨⟨z+1,Lj,ql⟩,by simp;omega,?_⟩;refine zq rfl ?_ ?_;simp -dsimp only[simprocAttr,↓I,zp,Bs.an,Bs.ax,Bs.ar,aA,zc]
     ·exact Sub.int (by simp)
     rfl
    | false =>
     rw[rM]at ql;refine dS rfl ?_;refine aG ?_;simp -dsimp only[simprocAttr,↓I,zp,Bs.an,Bs.ax,Bs.ar,aA];refine ai ?_;refine ak ?_;simp -dsimp only[simprocAttr,↓I,zp,Bs.an,Bs.ax,Bs.ar,aA,zr,Tryz.results65];exact⟨aW,by rw[ql];rfl⟩
   refine aN ?_;simp -dsimp only[bH,ne_eq,Nat.reduceEqDiff,reduceCtorEq];have Qs:z=e.args.length:=by simp at h;omega
   subst Qs;rw[List.drop_length]at ql;refine fE ?_;simp -dsimp only[simprocAttr,↓I,zp,Bs.an,Bs.ax,Bs.ar,aA]
   repeat(refine⟨by omega,?_⟩)
   refine kv ?_;refine⟨⟨j+1,bd,by simpa using ql⟩,by simp;omega,?_⟩;refine zq rfl ?_ ?_;simp -dsimp only[simprocAttr,↓I,zp,Bs.an,Bs.ax,Bs.ar,aA,zc]
   ·exact Sub.int (by simp)
   rfl
  refine aN ?_;simp -dsimp only[bH,ne_eq,Nat.reduceEqDiff,reduceCtorEq];have uR:j=t.to.length:=by simp at h;omega
  subst uR;rw[List.drop_length]at k9;refine aG ?_;simp -dsimp only[simprocAttr,↓I,zp,Bs.an,Bs.ax,Bs.ar,aA];refine ai ?_;refine ak ?_;simp -dsimp only[simprocAttr,↓I,zp,Bs.an,Bs.ax,Bs.ar,aA,zr,Tryz.results65];exact⟨aW,by rw[k9];rfl⟩
def kF(ds:Defs)(over:List Bs)(seen:Bs)(k:Nat):Nat->List bI->Bool
 | _,[]=>true
 | n,i::r=>i.args.all (ly ds over seen k n)&&kF ds over seen k (n+1) r
def oA(ds:Defs)(over:List Bs)(seen:Bs)(k:Nat)(b:Block):Bool:=kF ds over seen k 0 b.ins&&po b.term (ly ds over seen k b.ins.length)
def kz(ds:Defs)(over:List Bs)(seen:Bs):Nat->List Block->Bool
 | _,[]=>true
 | k,b::r=>oA ds over seen k b&&kz ds over seen (k+1) r
def xS(f:Func)(ds:Defs):Int:=if kz ds (uE f).1 (uE f).2 0 f.blocks then 0 else 6
theorem KJ(f:Func)(h0:f.blocks≠[])(h1:f.blocks.length<=128)(he:∀b∈f.blocks,∀e∈b.term.to,0<=e.block∧e.block.toNat<f.blocks.length):(uE f).1.length=f.blocks.length∧(∀s∈(uE f).1,s.fit)∧(uE f).2.fit:=by
 have key:∀(n:Nat) (S:Ds),nr f.blocks.length S->nr f.blocks.length (oW f n S):=fun n=>by
  induction n with
  | zero=>exact fun S h=>h
  | succ n ih =>
   intro S h;simp only[oW];split
   ·exact ih _ (yp f.blocks (k:=0) (S:=⟨S.over,S.seen,false⟩) ⟨h.oX,h.len,h.fit,h.seen,h.self⟩ he).1
   exact h
 have h:=key 20000 _ (DX h0 h1);exact⟨h.len,h.fit,h.seen⟩
theorem Gf(f:Func)(ds:Defs)(h0:f.blocks≠[])(h1:f.blocks.length<=128)(he:∀b∈f.blocks,∀e∈b.term.to,0<=e.block∧e.block.toNat<f.blocks.length)(tw:BQ f.blocks.length ds) :
  bw Tryz.prog 34 [.ip none [aI f.name,aM f.blocks,.im (.int .i64) (ds.map fD)]] (aI (xS f ds)):=by
 have SK:=s7 f h0 h1 he;obtain⟨d1,d2,d3⟩:=KJ f h0 h1 he;obtain⟨R,hR⟩:∃R,R=xS f ds:=⟨_,rfl⟩
 rw[<-hR];unfold xS at hR;generalize uE f=D at *;obtain⟨over,seen⟩:=D;simp only at SK d1 d2 d3 hR;have HD:=fN 6 ds;have K8:=fN 3 ds;have XN:=fN 0 ds;have Oq:∀(k:Nat) (at_:Int) (v:Int),k<f.blocks.length->aK Tryz.prog 63 [.gone,.gone,.gone,.gone,.gone,.cells [aI at_]] (aI v::GO f ds over seen k 5) (fun r O'=>r=.v (.bool (ly ds over seen k at_ v))∧O'=[.gone,.gone,.gone,.gone,.gone,.cells [aI at_]]):=fun k at_ v hk=>by
  refine E5 (O:=[.gone,.gone,.gone,.gone,.gone,.cells [aI at_]]) ?_ rfl (by omega) (by omega) d2 d3 (by rw[d1];exact tw) v;simp[aq.upto,av,aa.upto]
 refine zf true 0 Tryz.func34 Tryz.ntmps34 ?_;dsimp only[Tmp,TypeId,slotsOf];refine aG ?_;simp -dsimp only[simprocAttr,↓I,zp,Bs.an,Bs.ax,Bs.ar,aA];refine ai ?_;refine aR 1 0 (.ip none [.ip none [aI f.name,aM f.blocks,.im (.int .i64) (ds.map fD)]]) rfl (by simp[aq.aJ]) trivial rfl ?_ ?_;rotate_left;simp -dsimp only[simprocAttr,↓I,zp,Bs.an,Bs.ax,Bs.ar,aA]
 ·refine aG ?_;simp -dsimp only[simprocAttr,↓I,zp,Bs.an,Bs.ax,Bs.ar,aA];refine .inl ⟨_,SK,by simp only[av,aa.upto,zt,zu,ay,Bs.aS,Bs.ar],ae ?_⟩;simp -dsimp only[simprocAttr,↓I,zp,Bs.an,Bs.ax,Bs.ar,aA];refine ai ?_;refine aR 3 1 (.ip none [.aB 2 (over.map Bs.enc) .sh]) rfl (by simp[aq.aJ]) trivial rfl ?_ ?_;rotate_left;simp -dsimp only[simprocAttr,↓I,zp,Bs.an,Bs.ax,Bs.ar,aA]
  ·refine aR 4 2 (.ip none [.v (.int .u64 seen.a),.v (.int .u64 seen.b)]) rfl (by simp[aq.aJ]) trivial rfl ?_ ?_;rotate_left;simp -dsimp only[simprocAttr,↓I,zp,Bs.an,Bs.ax,Bs.ar,aA]
   ·refine bR ?_;simp -dsimp only[simprocAttr,↓I,zp,Bs.an,Bs.ax,Bs.ar,aA];refine ai ?_;refine ah (a8 (ι:={k:Nat // k<=f.blocks.length∧R=if kz ds over seen k (f.blocks.drop k)then 0 else 6}) (fun k=>⟨64,[(1,.ip none [.ip none [aI f.name,aM f.blocks,.im (.int .i64) (ds.map fD)]]),(2,aI 0),(3,.ip none [.aB 2 (over.map Bs.enc) .sh]),(4,.ip none [.v (.int .u64 seen.a),.v (.int .u64 seen.b)]),(25,aM f.blocks),(26,aI f.blocks.length),(27,aI k.1)],[.gone,.gone,.gone]⟩) (fun k=>f.blocks.length-k.1) ⟨0,by omega,hR⟩ ?_ ?_)
    ·refine zq rfl ?_ ?_;simp -dsimp only[simprocAttr,↓I,zp,Bs.an,Bs.ax,Bs.ar,aA,zc];rfl
    rintro⟨k,hk,gV⟩;refine aG ?_;simp -dsimp only[simprocAttr,↓I,zp,Bs.an,Bs.ax,Bs.ar,aA];refine ai ?_;apply fK rfl<;>intro h
    ·refine bZ ?_;have bd:k<f.blocks.length:=by simpa using h
     obtain⟨b,hb⟩:∃b,f.blocks[k]?=some b:=⟨f.blocks[k],by simp[bd]⟩
     rw[dL hb]at gV;simp only[kz,oA]at gV;refine aL (ah ?_);refine aG ?_;simp -dsimp only[simprocAttr,↓I,zp,Bs.an,Bs.ax,Bs.ar,aA,hb];refine ai ?_;refine aR 5 3 (.ip none [aI k]) rfl (by simp[aq.aJ]) trivial rfl ?_ ?_;rotate_left;simp -dsimp only[simprocAttr,↓I,zp,Bs.an,Bs.ax,Bs.ar,aA]
     ·refine aR 6 4 (.ip none [bp b.params,cS b.ins,aI b.term.kind,aI b.term.arg,aI b.term.n,bp b.term.cases,bq b.term.to]) rfl (by simp[aq.aJ]) trivial rfl ?_ ?_;rotate_left;simp -dsimp only[simprocAttr,↓I,zp,Bs.an,Bs.ax,Bs.ar,aA]
      ·refine aG ?_;simp -dsimp only[simprocAttr,↓I,zp,Bs.an,Bs.ax,Bs.ar,aA];refine ai ?_;refine aG ?_;simp -dsimp only[simprocAttr,↓I,zp,Bs.an,Bs.ax,Bs.ar,aA];refine ai ?_;refine bR ?_;simp -dsimp only[simprocAttr,↓I,zp,Bs.an,Bs.ax,Bs.ar,aA];refine ai ?_;refine gF 34 rfl (fun sx=>?_);simp only[List.length_map]at sx;refine ah (a8 (ι:={x:Nat×Int // x.1<=b.ins.length∧R=if(kF ds over seen k x.1 (b.ins.drop x.1)&&po b.term (ly ds over seen k b.ins.length))&&kz ds over seen (k+1) (f.blocks.drop (k+1))then 0 else 6}) (fun x=>⟨64,[(1,.ip none [.ip none [aI f.name,aM f.blocks,.im (.int .i64) (ds.map fD)]]),(2,aI 0),(3,.ip none [.aB 2 (over.map Bs.enc) .sh]),(4,.ip none [.v (.int .u64 seen.a),.v (.int .u64 seen.b)]),(25,aM f.blocks),(26,aI f.blocks.length),(27,aI k),(6,.ip none [bp b.params,cS b.ins,aI b.term.kind,aI b.term.arg,aI b.term.n,bp b.term.cases,bq b.term.to]),(7,.mp 5 0),(8,.fn (.func 63) [] [.ip none [.ip none [aI f.name,aM f.blocks,.im (.int .i64) (ds.map fD)]],.ip none [aI k],.mp 5 0,.ip none [.aB 2 (over.map Bs.enc) .sh],.ip none [.v (.int .u64 seen.a),.v (.int .u64 seen.b)]]),(34,cS b.ins),(35,aI b.ins.length),(36,aI x.1.1)],[.gone,.gone,.gone,.gone,.gone,.cells [aI x.1.2]]⟩) (fun x=>b.ins.length-x.1.1) ⟨(0,0),by simp,gV⟩ ?_ ?_)
       ·refine zq rfl ?_ ?_;simp -dsimp only[simprocAttr,↓I,zp,Bs.an,Bs.ax,Bs.ar,aA,zc];rfl
       rintro⟨⟨j,z⟩,hj,k9⟩;simp only at hj k9;refine aG ?_;simp -dsimp only[simprocAttr,↓I,zp,Bs.an,Bs.ax,Bs.ar,aA];refine ai ?_;apply fK rfl<;>intro h
       ·refine bZ ?_;have OB:j<b.ins.length:=by simpa using h
        obtain⟨i,hi⟩:∃i,b.ins[j]?=some i:=⟨b.ins[j],by simp[OB]⟩
        rw[dL hi]at k9;simp only[kF]at k9;refine aL (ah ?_);refine aG ?_;simp -dsimp only[simprocAttr,↓I,zp,Bs.an,Bs.ax,Bs.ar,aA,hi];refine ai ?_;refine aR 10 6 (.ip none [aI i.to,aI i.op,aI i.n,bp i.args]) rfl (by simp[aq.aJ]) trivial rfl ?_ ?_;rotate_left;simp -dsimp only[simprocAttr,↓I,zp,Bs.an,Bs.ax,Bs.ar,aA]
        ·refine cK 6 [(1,.ip none [.ip none [aI f.name,aM f.blocks,.im (.int .i64) (ds.map fD)]]),(2,aI 0),(3,.ip none [.aB 2 (over.map Bs.enc) .sh]),(4,.ip none [.v (.int .u64 seen.a),.v (.int .u64 seen.b)]),(25,aM f.blocks),(26,aI f.blocks.length),(27,aI k),(6,.ip none [bp b.params,cS b.ins,aI b.term.kind,aI b.term.arg,aI b.term.n,bp b.term.cases,bq b.term.to]),(7,.mp 5 0),(8,.fn (.func 63) [] [.ip none [.ip none [aI f.name,aM f.blocks,.im (.int .i64) (ds.map fD)]],.ip none [aI k],.mp 5 0,.ip none [.aB 2 (over.map Bs.enc) .sh],.ip none [.v (.int .u64 seen.a),.v (.int .u64 seen.b)]]),(34,cS b.ins),(35,aI b.ins.length),(36,aI j),(9,aI j),(10,.ip none [aI i.to,aI i.op,aI i.n,bp i.args])] (by simp) (by omega) [.gone,.gone,.gone,.gone,.gone,.cells [aI z]] ?_ ?_ ?_ ?_ ?_
         ·rfl
         ·simp[aq.upto,av,aa.upto,ay,Block.aj,Edge.aj,bI.aj,iH,HD,K8]
         ·simp[jw,St.get,cd,bG,Go.Av.look,Sub.refl]
         ·simp[aq.upto,av,aa.upto,ay,Block.aj,Edge.aj,bI.aj,iH,HD,K8]
         refine aG ?_;simp -dsimp only[simprocAttr,↓I,zp,Bs.an,Bs.ax,Bs.ar,aA];refine ai ?_;refine aG ?_;simp -dsimp only[simprocAttr,↓I,zp,Bs.an,Bs.ax,Bs.ar,aA];refine ai ?_;refine gF 43 rfl (fun mA=>?_);simp only[List.length_map]at mA;refine ah (a8 (ι:={y:Nat // y<=i.args.length∧R=if(((i.args.drop y).all (ly ds over seen k j)&&kF ds over seen k (j+1) (b.ins.drop (j+1)))&&po b.term (ly ds over seen k b.ins.length))&&kz ds over seen (k+1) (f.blocks.drop (k+1))then 0 else 6}) (fun y=>⟨64,[(1,.ip none [.ip none [aI f.name,aM f.blocks,.im (.int .i64) (ds.map fD)]]),(2,aI 0),(3,.ip none [.aB 2 (over.map Bs.enc) .sh]),(4,.ip none [.v (.int .u64 seen.a),.v (.int .u64 seen.b)]),(25,aM f.blocks),(26,aI f.blocks.length),(27,aI k),(6,.ip none [bp b.params,cS b.ins,aI b.term.kind,aI b.term.arg,aI b.term.n,bp b.term.cases,bq b.term.to]),(7,.mp 5 0),(8,.fn (.func 63) [] [.ip none [.ip none [aI f.name,aM f.blocks,.im (.int .i64) (ds.map fD)]],.ip none [aI k],.mp 5 0,.ip none [.aB 2 (over.map Bs.enc) .sh],.ip none [.v (.int .u64 seen.a),.v (.int .u64 seen.b)]]),(34,cS b.ins),(35,aI b.ins.length),(36,aI j),(43,bp i.args),(44,aI i.args.length),(45,aI y.1)],[.gone,.gone,.gone,.gone,.gone,.cells [aI j]]⟩) (fun y=>i.args.length-y.1) ⟨0,by omega,k9⟩ ?_ ?_)
         ·refine zq rfl ?_ ?_;simp -dsimp only[simprocAttr,↓I,zp,Bs.an,Bs.ax,Bs.ar,aA,zc];rfl
         rintro⟨y,hy,Qq⟩;refine aG ?_;simp -dsimp only[simprocAttr,↓I,zp,Bs.an,Bs.ax,Bs.ar,aA];refine ai ?_;apply fK rfl<;>intro h
         ·refine bZ ?_;have WL:y<i.args.length:=by simpa using h
          obtain⟨v,hv⟩:∃v,i.args[y]?=some v:=⟨i.args[y],by simp[WL]⟩
          rw[tL hv]at Qq;have XP:=Oq k j v bd;refine aL (ah ?_);refine aG ?_;simp -dsimp only[simprocAttr,↓I,zp,Bs.an,Bs.ax,Bs.ar,aA,hv];refine ai ?_;refine aG ?_;simp -dsimp only[simprocAttr,↓I,zp,Bs.an,Bs.ax,Bs.ar,aA];refine .inr (.inr ⟨_,XP,ae ?_⟩);simp -dsimp only[simprocAttr,↓I,zp,Bs.an,Bs.ax,Bs.ar,aA];refine ai ?_;cases rM:ly ds over seen k j v with
          | true =>
           rw[rM,Bool.true_and]at Qq;refine cP rfl ?_;refine k7 ?_;refine fE ?_;simp -dsimp only[simprocAttr,↓I,zp,Bs.an,Bs.ax,Bs.ar,aA]
           repeat(refine⟨by omega,?_⟩)
           refine kv ?_;refine⟨⟨y+1,WL,Qq⟩,by simp;omega,?_⟩;refine zq rfl ?_ ?_;simp -dsimp only[simprocAttr,↓I,zp,Bs.an,Bs.ax,Bs.ar,aA,zc]
           ·exact Sub.int (by simp)
           rfl
          | false =>
           rw[rM]at Qq;refine dS rfl ?_;refine aG ?_;simp -dsimp only[simprocAttr,↓I,zp,Bs.an,Bs.ax,Bs.ar,aA];refine ai ?_;refine ak ?_;simp -dsimp only[simprocAttr,↓I,zp,Bs.an,Bs.ax,Bs.ar,aA,zr,Tryz.results34];rw[Qq];simp
         refine aN ?_;simp -dsimp only[bH,ne_eq,Nat.reduceEqDiff,reduceCtorEq];have VR:y=i.args.length:=by simp at h;omega
         subst VR;rw[List.drop_length]at Qq;refine fE ?_;simp -dsimp only[simprocAttr,↓I,zp,Bs.an,Bs.ax,Bs.ar,aA]
         repeat(refine⟨by omega,?_⟩)
         refine kv ?_;refine⟨⟨(j+1,j),OB,by simpa using Qq⟩,by simp;omega,?_⟩;refine zq rfl ?_ ?_;simp -dsimp only[simprocAttr,↓I,zp,Bs.an,Bs.ax,Bs.ar,aA,zc]
         ·exact Sub.int (by simp)
         rfl
        exact cw.mp rfl rfl
       refine aN ?_;simp -dsimp only[bH,ne_eq,Nat.reduceEqDiff,reduceCtorEq];have uR:j=b.ins.length:=by simp at h;omega
       subst uR;rw[List.drop_length]at k9;simp only[kF,Bool.true_and]at k9;have Ut:=Ge (O:=[.gone,.gone,.gone,.gone,.gone,.cells [aI b.ins.length]]) (by simp[aq.upto,av,aa.upto]) 63 (GO f ds over seen k 5) (by simp[aq.upto,av,aa.upto,ay,Block.aj,iH,HD]) (ly ds over seen k b.ins.length) (fun v=>Oq k b.ins.length v bd) b.term;refine aG ?_;simp -dsimp only[simprocAttr,↓I,zp,Bs.an,Bs.ax,Bs.ar,aA];refine ai ?_;refine aG ?_;simp -dsimp only[simprocAttr,↓I,zp,Bs.an,Bs.ax,Bs.ar,aA];refine .inr (.inr ⟨_,Ut,ae ?_⟩);simp -dsimp only[simprocAttr,↓I,zp,Bs.an,Bs.ax,Bs.ar,aA];refine ai ?_;cases rM:po b.term (ly ds over seen k b.ins.length)with
       | true =>
        rw[rM,Bool.true_and]at k9;refine cP rfl ?_;refine k7 ?_;refine cK 3 [(1,.ip none [.ip none [aI f.name,aM f.blocks,.im (.int .i64) (ds.map fD)]]),(2,aI 0),(3,.ip none [.aB 2 (over.map Bs.enc) .sh]),(4,.ip none [.v (.int .u64 seen.a),.v (.int .u64 seen.b)]),(25,aM f.blocks),(26,aI f.blocks.length),(27,aI k)] (by simp) (by omega) [.gone,.gone,.gone] ?_ ?_ ?_ ?_ ?_
        ·rfl
        ·simp[aq.upto,av,aa.upto,ay,Block.aj,Edge.aj,bI.aj,iH,HD,K8]
        ·simp[jw,St.get,cd,bG,Go.Av.look,Sub.refl]
        ·simp[aq.upto,av,aa.upto,ay,Block.aj,Edge.aj,bI.aj,iH,HD,K8]
        refine fE ?_;simp -dsimp only[simprocAttr,↓I,zp,Bs.an,Bs.ax,Bs.ar,aA]
        repeat(refine⟨by omega,?_⟩)
        refine kv ?_;refine⟨⟨k+1,bd,k9⟩,by simp;omega,?_⟩;refine zq rfl ?_ ?_;simp -dsimp only[simprocAttr,↓I,zp,Bs.an,Bs.ax,Bs.ar,aA,zc]
        ·exact Sub.int (by simp)
        rfl
       | false =>
        rw[rM]at k9;refine dS rfl ?_;refine aG ?_;simp -dsimp only[simprocAttr,↓I,zp,Bs.an,Bs.ax,Bs.ar,aA];refine ai ?_;refine ak ?_;simp -dsimp only[simprocAttr,↓I,zp,Bs.an,Bs.ax,Bs.ar,aA,zr,Tryz.results34];rw[k9];simp
      exact cw.mp rfl rfl
     exact cw.mp rfl rfl
    refine aN ?_;simp -dsimp only[bH,ne_eq,Nat.reduceEqDiff,reduceCtorEq];have fk:k=f.blocks.length:=by simp at h;omega
    subst fk;rw[List.drop_length]at gV;refine aG ?_;simp -dsimp only[simprocAttr,↓I,zp,Bs.an,Bs.ax,Bs.ar,aA];refine ai ?_;refine ak ?_;simp -dsimp only[simprocAttr,↓I,zp,Bs.an,Bs.ax,Bs.ar,aA,zr,Tryz.results34];simp[gV,kz]
   exact cw.mp rfl rfl
  exact cw.mp rfl rfl
 exact cw.mp rfl rfl
end Go.Proofs.YtocdpaifmnkoaaaGreatDoor
