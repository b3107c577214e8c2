/- Short names of library lemmas and steps of proof that recur. -/
import Derived.Calls
import Derived.Orders
import Derived.Laws.AppendOwn
import Derived.Laws.OwnMore
import Derived.Laws.CopyRow
import Derived.Laws.Strings
import Derived.Lib.BufferMore
set_option linter.all false
namespace Go
abbrev AK:=@List.mem_of_getElem?
abbrev AY:=@List.getElem?_eq_getElem
abbrev AM:=@Option.some.injEq
abbrev Ap:=@List.getElem?_set_ne
abbrev A4:=@if_neg
abbrev Ac:=@decide_eq_false
abbrev Bb:=@List.getElem?_set_self
abbrev A9:=@if_pos
abbrev BH:=@Int.toNat_natCast
abbrev B2:=@List.length_set
abbrev Ar:=@decide_eq_true
abbrev Bf:=@List.length_append
abbrev BE:=@List.length_map
abbrev Bv:=@List.getElem?_map
abbrev Cb:=@List.take_of_length_le
abbrev Bc:=@List.map_cons
abbrev B6:=@Nat.le_refl
abbrev Dg:=@List.getElem?_append_right
abbrev CE:=@List.length_cons
abbrev Dy:=@List.length_take
abbrev EV:=@List.getElem?_append_left
abbrev Dh:=@List.getElem?_cons_zero
abbrev Cp:=@decide_eq_true_eq
abbrev Dw:=@List.mem_cons_of_mem
abbrev DQ:=@List.mem_cons_self
abbrev HU:=@Array.getD_eq_getD_getElem?
abbrev CL:=@List.mem_cons
abbrev G0:=@of_decide_eq_false
abbrev GC:=@List.getElem?_take
abbrev Dx:=@List.map_append
abbrev FC:=@List.getElem?_drop
abbrev Ez:=@List.append_assoc
abbrev Db:=@Nat.zero_add
abbrev FD:=@List.getElem?_set
abbrev Fq:=@List.mem_singleton
abbrev Fp:=@Option.getD_some
abbrev F':=@List.drop_length
abbrev F0:=@Bool.and_eq_true
abbrev H3:=@List.getElem?_eq_none
abbrev Ed:=@List.map_nil
abbrev Gt:=@List.getElem?_append
abbrev Fs:=@List.take_add_one
abbrev FV:=@Option.map_some
abbrev F9:=@List.append_nil
abbrev KC:=@List.getD_eq_getElem?_getD
abbrev Kf:=@decide_eq_false_iff_not
abbrev GF:=@List.flatMap_cons
abbrev B3:=@absurd
abbrev Jj:=@List.size_toArray
abbrev Gg:=@List.ext_getElem?
abbrev GG:=@List.not_mem_nil
abbrev IU:=@List.length_singleton
abbrev KE:=@List.mem_or_eq_of_mem_set
abbrev GD:=@List.length_nil
abbrev KD:=@List.drop_of_length_le
abbrev LW:=@ne_eq
abbrev HF:=@List.nil_append
abbrev FB:=@Nat.sub_self
abbrev J3:=@List.getElem?_range
abbrev HW:=@Nat.mul_one
abbrev HG:=@List.foldl_cons
abbrev Jk:=@List.take_length
abbrev KF:=@List.mem_of_mem_take
abbrev HX:=@Option.some.inj
abbrev HY:=@List.mem_append
abbrev JS:=@Bool.false_eq_true
abbrev LY:=@List.getElem?_cons_succ
abbrev Hq:=@Bool.or_eq_true
abbrev KG:=@List.replicate_succ
abbrev N8:=@Classical.byContradiction
abbrev JR:=@List.cons_append
abbrev I7:=@List.drop_zero
abbrev Di:=@or_false
abbrev Dj:=@congrArg
abbrev HV:=@List.map_map
abbrev L':=@Nat.lt_of_lt_of_le
abbrev OE:=@Nat.mul_le_mul_right
abbrev MF:=@List.getElem?_of_mem
abbrev H4:=@Nat.zero_le
abbrev N9:=@List.mem_of_mem_drop
abbrev Sy:=@Int.mul_le_mul_of_nonneg_right
abbrev Hr:=@List.set_set
abbrev OF:=@List.set_append_right
abbrev OG:=@List.length_replicate
abbrev PB:=@Option.map_eq_some_iff
abbrev L0:=@List.mem_flatMap
abbrev ND:=@List.length_drop
abbrev FA:=@true_and
abbrev JQ:=@List.mem_map
abbrev PC:=@List.countP_le_length
abbrev N7:=@List.length_range
abbrev J4:=@Nat.add_zero
abbrev FW:=@and_true
abbrev MG:=@List.getElem_mem
abbrev KH:=@List.sum_cons
abbrev OH:=@List.set_cons_zero
abbrev UN:=@List.drop_length_add_append
abbrev NA:=@List.mem_nil_iff
abbrev OI:=@Bool.not_eq_true'
abbrev LX:=@Nat.add_mul
abbrev Sz:=@Nat.add_sub_cancel_left
abbrev Gf:=@if_false
abbrev UO:=@Array.getElem?_eq_getElem
abbrev OJ:=@List.all_eq_true
abbrev PA:=@Bool.true_and
abbrev MH:=@Nat.zero_mul
abbrev Ra:=@List.take_succ_cons
abbrev Rb:=@List.map_congr_left
abbrev WG:=@Array.length_toList
abbrev RZ:=@Nat.succ_mul
abbrev NB:=@Prod.mk.injEq
abbrev QL:=@List.map_toArray
abbrev UP:=@List.take_append_drop
abbrev Rc:=@List.nodup_append
abbrev RX:=@Array.size_append
abbrev YA:=@List.getElem?_replicate
abbrev cw:=@Array.getElem?_setIfInBounds_ne
abbrev UQ:=@List.mem_append_left
abbrev UR:=@List.getElem?_mapIdx
abbrev NC:=@Nat.le_trans
abbrev T':=@of_decide_eq_true
abbrev Zo:=@List.take_append_of_le_length
abbrev T4:=@List.take_zero
abbrev US:=@List.set_cons_succ
abbrev UT:=@List.filter_append
abbrev UU:=@Array.getElem?_map
abbrev T0:=@List.zipIdx_cons
abbrev WH:=@Array.getElem?_range
abbrev RY:=@List.foldl_nil
abbrev UW:=@List.flatten_cons
abbrev OK:=@Int.le_refl
abbrev WC:=@List.cons.injEq
abbrev Zp:=@List.drop_eq_getElem_cons
abbrev YB:=@List.mem_append_right
abbrev Zy:=@Array.toList_map
abbrev iJ:=@Array.getElem?_setIfInBounds_self_of_lt
abbrev QM:=@List.map_set
abbrev Y5:=@Bool.false_or
abbrev WD:=@List.drop_drop
abbrev UX:=@List.nodup_cons
abbrev WJ:=@List.drop_append
abbrev UY:=@List.take_left
abbrev Zq:=@List.getElem?_toArray
abbrev T3:=@Nat.lt_or_ge
abbrev YC:=@Nat.one_shiftLeft
abbrev L4:=@if_true
abbrev iN:=@Bool.false_and
abbrev YD:=@List.take_append
abbrev YE:=@List.countP_cons
abbrev cx:=@Int.eq_ofNat_of_zero_le
abbrev pE:=@Option.isSome_some
abbrev Zr:=@Nat.lt_of_le_of_lt
abbrev Zs:=@List.mem_replicate
abbrev Zt:=@List.countP_append
abbrev cy:=@List.drop_eq_nil_of_le
abbrev YF:=@Bool.eq_iff_iff
abbrev Zz:=@Array.size_push
abbrev iO:=@Bool.or_false
abbrev cz:=@List.length_filter_le
abbrev dA:=@Array.getElem?_modify
abbrev dH:=@Nat.mod_lt
abbrev iP:=@Bool.true_or
abbrev dB:=@Array.getElem?_push
abbrev Y6:=@Nat.add_assoc
abbrev Y7:=@List.set_comm
abbrev Y8:=@Bool.not_true
abbrev Zu:=@List.range_succ
abbrev WK:=@Array.range
abbrev iK:=@Nat.le_mul_of_pos_right
abbrev Y9:=@List.map_id'
abbrev Zv:=@List.mem_range
abbrev dC:=@Nat.or_lt_two_pow
abbrev dD:=@List.getElem?_inj
abbrev dE:=@List.foldl_append
abbrev iL:=@List.sum_replicate_nat
abbrev iM:=@List.getElem?_zipWith
abbrev iR:=@Array.getElem?_append
abbrev dF:=@List.any_eq_true
abbrev iS:=@Nat.pow_lt_pow_right
abbrev iT:=@List.set_append_left
abbrev iU:=@List.replicate_succ'
abbrev iV:=@List.mem_of_mem_tail
abbrev pc:=@List.drop_append_of_le_length
abbrev dG:=@Nat.and_le_left
abbrev ct:=@List.mem_filter
abbrev cu:=@Int.natCast_mul
abbrev iW:=@List.replicate_zero
abbrev iX:=@List.length_zipWith
abbrev Zw:=@Nat.sub_zero
abbrev qnA:=@Bool.and_false
abbrev iY:=@List.map_replicate
abbrev pd:=@Nat.shiftRight_eq_div_pow
abbrev pe:=@List.getElem?_eq_none_iff
abbrev iZ:=@List.isEmpty_cons
abbrev ia:=@List.filter_congr
abbrev pY:=@List.Sublist.refl
abbrev ib:=@Bool.not_eq_false
abbrev qnB:=@Bool.and_true
abbrev pf:=@List.set_eq_of_length_le
abbrev pF:=@List.length_erase_of_mem
abbrev ic:=@List.mem_flatten
abbrev ig:=@List.flatMap_map
abbrev ij:=@Array.mem_append
abbrev Zx:=@Array.ext'
abbrev qnC:=@Bool.or_true
abbrev pG:=@List.zipWith_cons_cons
abbrev qnD:=@List.range_succ_eq_map
abbrev pH:=@List.length_pos_of_mem
abbrev pI:=@List.getElem?_eraseIdx
abbrev ik:=@Option.map_none
abbrev il:=@List.of_mem_zip
abbrev qnE:=@List.mem_iff_getElem?
abbrev pJ:=@List.getElem?_reverse
abbrev pK:=@List.countP_singleton
abbrev pL:=@Array.getElem?_toList
abbrev cv:=@Prod.mk.inj
abbrev iq:=@List.tail_cons
abbrev ir:=@Int.mul_nonneg
abbrev iu:=@Bool.not_false
abbrev pM:=@List.getElem?_zipIdx
abbrev pN:=@List.length_flatten
abbrev pO:=@List.flatMap_append
abbrev pZ:=@List.map_take
abbrev pP:=@Option.toList_some
abbrev pQ:=@Option.isSome_none
abbrev pR:=@Nat.lt_or_gt_of_ne
abbrev aa3:=@List.length_zipIdx
abbrev pS:=@List.length_mapIdx
abbrev pT:=@Nat.mod_eq_of_lt
abbrev pU:=@List.filter_cons
abbrev qnF:=@Int.natCast_zero
abbrev aa5:=@Int.mul_sub
abbrev aa4:=@Int.mul_le_mul_of_nonneg_left
abbrev pV:=@List.sum_append
abbrev zm:=@List.countP_eq_length_filter
abbrev zn:=@List.take_length_add_append
abbrev pW:=@Nat.mul_le_mul
abbrev pX:=@List.mapM_cons
abbrev zo:=@List.pairwise_iff_getElem
abbrev zv:=@Array.mapM_eq_mapM_toList
abbrev zw:=@List.mem_of_mem_eraseIdx
abbrev zy:=@List.flatMap_eq_nil_iff
abbrev qnG:=@Int.add_zero
abbrev zz:=@List.findIdx_le_length
abbrev aa0:=@List.findIdx_eq_length
abbrev aa1:=@List.filter_eq_nil_iff
abbrev aa2:=@List.singleton_append
abbrev aa8:=@List.set_getElem_self
abbrev aa9:=@List.contains_iff_mem
abbrev qnH:=@Int.mul_one
abbrev aaA:=@Nat.eq_of_testBit_eq
abbrev aaB:=@List.mem_erase_of_ne
abbrev aaC:=@List.length_eraseIdx
abbrev aaD:=@List.contains_eq_mem
abbrev aaE:=@Bool.or_eq_false_iff
abbrev aaF:=@Array.size_replicate
structure AL(p:Prop):Prop where z:p
variable {a b c d p q r s i j o:Prop}(AH:a)(zB:b)(CC:c)(Eg:d)(A5:p)(Ao:q)(F2:r)(qa9:s)
def I(A1:o:=by omega):o:=A1
def A6(A1:o:=by simp):o:=A1
def Aa(A1:o:=by simpa using h):o:=A1
def CW(A1:o:=by kernel_rfl):o:=A1
def Ai(A1:o:=by simp;omega):o:=A1
def Bd(A1:o:=by simp[A8.Hx]):o:=A1
def Dc(A1:o:=by simp[GY,Nn,Go.Av.look]):o:=A1
def CM(A1:o:=by simp[ho,Op.operands]):o:=A1
def Gh(A1:o:=by simp[ho,Op.operands,Call.operands]):o:=A1
def D6(A1:o:=by simp only;omega):o:=A1
def CX(A1:o:=by rfl):o:=A1
def Ee(A1:o:=by simp at h;omega):o:=A1
def OM(A1:o:=by simp only[AQ,A2.upto,zt,zu,BU,Bs.Cr,Bs.E4]):o:=A1
def Kh(A1:o:=by simp only[AQ,A2.upto,zt]):o:=A1
def MK(A1:o:=by simp only[AQ,A2.upto,zt,zu,BU]):o:=A1
def QP(A1:o:=by simpa[CS,Sw]using hc.symm.trans hd):o:=A1
def EW(A1:o:=by decide):o:=A1
def I8(A1:o:=by assumption):o:=A1
def a7(A1:o:=by simp only[Bc,Ed,oh,gf,zZ,za,zY,zW,zX,gg]):o:=A1
def JT(A1:o:=by simpa using h1):o:=A1
def pg(A1:o:=by rw[h]):o:=A1
def KI(A1:o:=by simpa using h2):o:=A1
def dJ(A1:o:=by simp only[AQ,A2.upto,zt,zu,BU,SY,gj,cP,Block.AX]):o:=A1
def Gu(A1:o:=by simp[AF]):o:=A1
def OL(A1:o:=by simpa using hl):o:=A1
def NF(A1:o:=by rw[Dy];omega):o:=A1
def dK(A1:o:=by cases lo<;>cases hi<;>simp[ho,Op.operands]):o:=A1
def YG(A1:o:=by rw[h2];exact PN g.w.drew rfl):o:=A1
def ph(A1:o:=by simp only[execOp,ho,ex,ey,Sem.run_bind,h1,Result.andThen_ok,Sem.run_pure]):o:=A1
def aa6(A1:o:=by simp[execOp,ho,ei,eu,Instr.indexAt,Instr.sureAddr,asIntOf,run_underlying hu,h0,hn,(hT e te he).sizeOf,addr_add]):o:=A1
def QN(A1:o:=by simp[Mach.start]):o:=A1
def qnI(A1:o:=by subst e1;cases hi<;>simp[ho,Op.operands]):o:=A1
def qnJ(A1:o:=by subst e1;cases lo<;>simp[ho,Op.operands]):o:=A1
def QO(A1:o:=by simpa using hj):o:=A1
def MJ(A1:o:=by rw[Bn];simp):o:=A1
def YH(A1:o:=by simp[Mach.enter,Mach.start]):o:=A1
def iy(A1:o:=by simp only[Kf]at *;omega):o:=A1
def YI(A1:o:=by rw[D3,size_zeroCells,h5,h6]):o:=A1
def Rf(A1:o:=by rw[hO];exact Ex):o:=A1
def iz(A1:o:=by simp[execOp,ho,e,Instr.loadAt,Instr.sureAddr,Aj]):o:=A1
def dL(A1:o:=by simp only[Jj,OZ,IW,<-LX];exact AF):o:=A1
def Rg(A1:o:=by unfold Bi;omega):o:=A1
def aa7(A1:o:=by simp[execOp,ho,ei,eu,Instr.indexAt,asIntOf,run_underlying hu,h0,hn,(hT e te he).sizeOf,addr_add]):o:=A1
def Jl(A1:o:=by rw[DH]):o:=A1
def MI(A1:o:=by simp at h):o:=A1
def iv(A1:o:=by rcases ho with ho|ho<;>simp[ho,Op.operands]):o:=A1
def a6(A1:o:=by rw[IY,hlen,Db];exact B6 _):o:=A1
def dI(A1:o:=by rw[h2,<-ex];exact L8 g.w.drew rfl):o:=A1
def UZ(A1:o:=by simpa using h.symm):o:=A1
def Ua(A1:o:=by rw[h3];exact hb):o:=A1
def T5(A1:o:=by simpa using hi):o:=A1
def Re(A1:o:=by rw[B0];simp):o:=A1
def Ub(A1:o:=by simpa using IX):o:=A1
def iw(A1:o:=by simp[AQ,A2.upto]):o:=A1
def dP(A1:o:=by simpa[ho,Op.operands]using hx):o:=A1
def dQ(A1:o:=by simp[Mach.leave,B0,Mach.stop]):o:=A1
def qnK(A1:o:=by simp only;rw[show b.term.to.length-(n+1)=b.term.to.length-(n+1) from rfl];exact CJ):o:=A1
def pn(A1:o:=by simp[IntKind.max,IntKind.bits,IntKind.signed];omega):o:=A1
def Ue(A1:o:=by simpa using hk):o:=A1
def Uf(A1:o:=by unfold CR;omega):o:=A1
def dR(A1:o:=by simpa using h1.symm.trans h2):o:=A1
def aD(A1:o:=by rw[Bn,DH];exact EY hv NO):o:=A1
def aaT(A1:o:=by simp only[Bc,Ed,oh,gf,gg]):o:=A1
def QQ(A1:o:=by simp[hx]):o:=A1
def NG(A1:o:=by cases h):o:=A1
def jA(A1:o:=by simp only[G.Am];rw[Bb (Q6 hg Gz)]):o:=A1
def aE(A1:o:=by unfold CR at ha;omega):o:=A1
def aF(A1:o:=by unfold CR at hb;omega):o:=A1
def Rh(A1:o:=by simp[AP]):o:=A1
def Ug(A1:o:=by simpa using h3):o:=A1
def aG(A1:o:=by rw[DH,<-Gs];exact hu):o:=A1
def aH(A1:o:=by rw[h6];exact dH _ JK):o:=A1
def WL(A1:o:=by rw[DJ];exact hO):o:=A1
def jB(A1:o:=by simp only[AQ,A2.upto,zt,zu,BU,cU]):o:=A1
def jC(A1:o:=by rw[BA];exact El):o:=A1
def aaU(A1:o:=by rw[M9 0 (AE h.r0) (by omega) (fun q=>by have:=NP q;omega)];exact h.r0):o:=A1
def aaV(A1:o:=by rw[M9 1 (AE h.r1) (by omega) (fun q=>by have:=NP q;omega)];exact h.r1):o:=A1
def aaW(A1:o:=by rw[M9 3 (AE h.r3) (by omega) (fun q=>by have:=NP q;omega)];exact h.r3):o:=A1
def jD(A1:o:=by have:=(IQ q).1;omega):o:=A1
def aJ(A1:o:=by show 1<=l;omega):o:=A1
def YJ(A1:o:=by have:=G0 h;omega):o:=A1
def aA(A1:o:=by rw[Bn,DH];exact hs _):o:=A1
def j7(A1:o:=by simp only[Jj,V4,IW];exact AF):o:=A1
def YK(A1:o:=by simpa using hg):o:=A1
def aB(A1:o:=by rw[IB];simp;omega):o:=A1
def aaH(A1:o:=by rw[B8];simp;omega):o:=A1
def aaI(A1:o:=by rw[<-El,P' (by rw[B8];simp;omega),P' (by rw[B8];simp;omega)]):o:=A1
def aaJ(A1:o:=by intro p hp;simp at hp;subst hp;trivial):o:=A1
def aaK(A1:o:=by cases L9<;>simp[Builtin.firstCells,loadCells,loadCellsFrom]):o:=A1
def j8(A1:o:=by have:=h.w.MW _ (AK hk);omega):o:=A1
def YL(A1:o:=by rw[hO];exact BN):o:=A1
def dO(A1:o:=by simp[ntmps83]):o:=A1
def aaL(A1:o:=by show PQ u s D L β pre M.frames _;rw[B0];exact⟨hF,hT,hR⟩):o:=A1
def aC(A1:o:=by simp[G.bare]at h1):o:=A1
def YM(A1:o:=by rw[Bf];omega):o:=A1
def aaM(A1:o:=by show g.w.heap.size<=(g.w.heap.push _).size;rw[Zz];omega):o:=A1
def aaN(A1:o:=by intro x hx;simp at hx;subst hx;rfl):o:=A1
def pk(A1:o:=by show l.length-(k+1)<l.length-k;omega):o:=A1
def qoz(A1:o:=by have:=NP q;omega):o:=A1
def YN(A1:o:=by rw[RZ];omega):o:=A1
def j9(A1:o:=by rw[h2];exact PN g.w rfl):o:=A1
def aaO(A1:o:=by simp[IntKind.min,IntKind.bits,IntKind.signed];omega):o:=A1
def aaP(A1:o:=by simp only;rw[BA];exact hE):o:=A1
def aaQ(A1:o:=by rw[Ar (show i.op=24 by simp only[Kf]at *;omega)]):o:=A1
def aaR(A1:o:=by simp only[Ec.tok.injEq]at e;subst e;simp[G.mark,hO]):o:=A1
def aaS(A1:o:=by rw[Ar (show i.op=7 by simp only[Kf]at *;omega)]):o:=A1
def pj(A1:o:=by simp only[AQ,A2.upto,zt,zu,BU,U9]):o:=A1
def j4(A1:o:=by rw[BE];omega):o:=A1
def aaG(A1:o:=by simp only[AQ,A2.upto,zt,zu,BU,SY]):o:=A1
def dM(A1:o:=by rw[BE,Dy];omega):o:=A1
def dN(A1:o:=by cases r<;>exact hT):o:=A1
def a8(A1:o:=by simpa using hs):o:=A1
def j5(A1:o:=by simp[Mach.start];omega):o:=A1
def Uc(A1:o:=by simp[h1]):o:=A1
def Ud(A1:o:=by simp[h2]):o:=A1
def j6(A1:o:=by rw[hn];exact hd d IS):o:=A1
def dU(A1:o:=by rw[h5];exact AE CK):o:=A1
def dV(A1:o:=by simpa[Gb]using he):o:=A1
def aao(A1:o:=by rw[Ap (by have:=(IQ q).1;omega)];exact(IQ q).2):o:=A1
def px(A1:o:=by have:=AE q;have:=hg.len;omega):o:=A1
def Uh(A1:o:=by simp[IA]):o:=A1
def py(A1:o:=by rw[h.len];omega):o:=A1
def aL(A1:o:=by simp[UF]at hj):o:=A1
def WN(A1:o:=by simp[h]):o:=A1
def pz(A1:o:=by show c*M.left<=_;rw[gd];omega):o:=A1
def dW(A1:o:=by simpa using he):o:=A1
def dX(A1:o:=by rw[Si,Dy];omega):o:=A1
def aap(A1:o:=by simp only[G.Am];rw[Ap (Ne.symm e)];exact p1):o:=A1
def q8(A1:o:=by rw[OD];exact B6 _):o:=A1
def jM(A1:o:=by rw[Py];exact B6 _):o:=A1
def WO(A1:o:=by cases hx):o:=A1
def YQ(A1:o:=by rw[Ha];rfl):o:=A1
def YR(A1:o:=by simp[Ev]):o:=A1
def aM(A1:o:=by simp[g0]at h):o:=A1
def jN(A1:o:=by simp[AQ,A2.upto,BU]):o:=A1
def q9(A1:o:=by rw[Ap (by omega)];exact o2):o:=A1
def aaq(A1:o:=by obtain⟨e,_,rfl⟩:=List.mem_map.1 hx;rfl):o:=A1
def aar(A1:o:=by rw[I7,Cb (by rw[Q5];omega)];exact qai _):o:=A1
def dY(A1:o:=by rw[B2];omega):o:=A1
def aas(A1:o:=by show left.length-(j+1)<left.length-j;omega):o:=A1
def qA(A1:o:=by have:=hg.DN b hb e he;omega):o:=A1
def aat(A1:o:=by rw[Ap (Ne.symm (Lh ES))];exact hE.Iu k hk):o:=A1
def pq(A1:o:=by have:=h.MW _ (AK hk);omega):o:=A1
def pr(A1:o:=by show c*(m.left-1)<=_;omega):o:=A1
def aac(A1:o:=by simp only[G.Am];rw[Bb (Q6 hg ht.obj),p1]):o:=A1
def pt(A1:o:=by unfold Bs.has Bs.none;simp):o:=A1
def aad(A1:o:=by simp[HU,show off+j<arr.size by omega]):o:=A1
def aae(A1:o:=by cases e<;>first|exact h2.cover h|exact h):o:=A1
def aaf(A1:o:=by show f'.pos+1=_+(f.pos+1);rw[hF.pos];rfl):o:=A1
def YO(A1:o:=by cases hv):o:=A1
def aag(A1:o:=by rw[Kt];simp only[G.Am];rw[Bb (AE Gz)]):o:=A1
def aah(A1:o:=by simp only[G.De];rw[GC,A9 (LJ h).2,e1]):o:=A1
def dS(A1:o:=by simpa using q):o:=A1
def aai(A1:o:=by cases m<;>first|trivial|exact hp.elim):o:=A1
def aK(A1:o:=by rw[e];rfl):o:=A1
def pv(A1:o:=by rw[size_zeroCells,h5,h6]):o:=A1
def aaj(A1:o:=by rw[MO (by omega) (by omega)];exact e2):o:=A1
def pw(A1:o:=by rw[CE];omega):o:=A1
def aak(A1:o:=by simp[HU,show j<arr.size by omega]):o:=A1
def aal(A1:o:=by rw[(List.mem_replicate.1 hl).2];simp):o:=A1
def YP(A1:o:=by simp[hb]):o:=A1
def jI(A1:o:=by simpa using G'):o:=A1
def aam(A1:o:=by rw[addr_add,h2,Db,<-hm];exact Au):o:=A1
def jJ(A1:o:=by rw[DJ];exact ez):o:=A1
def jK(A1:o:=by simpa using hx):o:=A1
def jL(A1:o:=by unfold Fh;omega):o:=A1
def dT(A1:o:=by rw[e1];omega):o:=A1
def aan(A1:o:=by simp only[G.Am];rw[Bb (AE ht.obj)]):o:=A1
def aaX(A1:o:=by simp[show off<arr.size by omega]):o:=A1
def aaY(A1:o:=by rw[LK _ (by rw[BE];omega)];simp):o:=A1
def aaZ(A1:o:=by simp[Go.zeroValue,typeInfo,h1,h4]):o:=A1
def jE(A1:o:=by simp[G.mark,hO]):o:=A1
def WM(A1:o:=by rw[DJ]):o:=A1
def jF(A1:o:=by simpa using a):o:=A1
def aaa(A1:o:=by simp only[G.LR,Bf,hc.same];omega):o:=A1
def jG(A1:o:=by simpa using h0):o:=A1
def jH(A1:o:=by rw[XE];exact El):o:=A1
def aab(A1:o:=by show(0:Int)<=0∧(0:Int)<=_;omega):o:=A1
def db(A1:o:=by cases e):o:=A1
def abG(A1:o:=by rw[Bs.has_add _ _ _ hj hi,q];rfl):o:=A1
def dc(A1:o:=by simp[K6,hk]):o:=A1
def dd(A1:o:=by simp[TC,hk]):o:=A1
def qnO(A1:o:=by simp[Mach.start,Mach.enter]at ha):o:=A1
def abH(A1:o:=by simp only[G.Am];rw[Bb (AE Gz)]):o:=A1
def aN(A1:o:=by simp[Gb]):o:=A1
def abI(A1:o:=by rw[B2];exact DY hE.up trivial):o:=A1
def abJ(A1:o:=by simp only[G.add,ho];exact Xg hm):o:=A1
def abK(A1:o:=by rw[h2];simpa using PN g.w rfl):o:=A1
def aO(A1:o:=by simp[q]):o:=A1
def abL(A1:o:=by rw[Q5];omega):o:=A1
def jR(A1:o:=by rw[Bv,hi];rfl):o:=A1
def qH(A1:o:=by rw[<-GS];exact V5):o:=A1
def qnP(A1:o:=by rw[IY,hlen];omega):o:=A1
def qI(A1:o:=by rw[Kt];exact hlen):o:=A1
def abM(A1:o:=by rw[size_madeCells,h2];exact AF):o:=A1
def qJ(A1:o:=by rw[cL Ax hw];simp):o:=A1
def qnQ(A1:o:=by simp[AQ,A2.upto,qa8]):o:=A1
def aP(A1:o:=by simp[Hb]):o:=A1
def qK(A1:o:=by simp[AV,Mach.BW,B0]):o:=A1
def qL(A1:o:=by rw[hw.zero];omega):o:=A1
def abN(A1:o:=by simp only[B2,CE,GD];omega):o:=A1
def de(A1:o:=by simp[hp]):o:=A1
def qnR(A1:o:=by simp[NO]):o:=A1
def df(A1:o:=by simp[q3]):o:=A1
def aaz(A1:o:=by rw[DB,OD,<-JY];exact OE _ FM):o:=A1
def ab0(A1:o:=by simp[Mach.effect,DL,JW,hk,hf]):o:=A1
def ab1(A1:o:=by have:=(hw.fns f hf).few;omega):o:=A1
def jO(A1:o:=by rw[B2,h.len]):o:=A1
def ab2(A1:o:=by rw[Ap (by omega)];exact h.r1):o:=A1
def ab3(A1:o:=by simp only[G.Am,Mode.post,hO]):o:=A1
def ab4(A1:o:=by rw[Ap (by omega),h.Iu k hk]):o:=A1
def ab5(A1:o:=by rw[Bb (by rw[h.len];omega)]):o:=A1
def qnM(A1:o:=by simp[execOp,ho,Aj,G.push]):o:=A1
def ab6(A1:o:=by rw[setRow_size];exact B6 _):o:=A1
def ab7(A1:o:=by rw[IS]at e;cases e;exact hd):o:=A1
def qF(A1:o:=by simp[Mach.run,ho]):o:=A1
def ab8(A1:o:=by have:=ZK i (AK hi);omega):o:=A1
def ab9(A1:o:=by rw[Ap (by omega)];exact Cg):o:=A1
def jP(A1:o:=by rw[TT];rfl):o:=A1
def jQ(A1:o:=by rw[ES];rfl):o:=A1
def qG(A1:o:=by simpa[Hs]using h3):o:=A1
def qnN(A1:o:=by simp only;rw[<-WD,hld,WD]):o:=A1
def abA(A1:o:=by rw[hL.ls,hW.len];exact AF):o:=A1
def abB(A1:o:=by rw[<-Ig];unfold DU;simp[hC]):o:=A1
def dZ(A1:o:=by simp[hc]):o:=A1
def da(A1:o:=by simp[e]):o:=A1
def abC(A1:o:=by simp[Go.getObj,Sem.run,hh]):o:=A1
def abD(A1:o:=by simp only[G.cut,Dy];omega):o:=A1
def abE(A1:o:=by simp[A8.upto,AQ,A2.upto]):o:=A1
def abF(A1:o:=by rw[sq BN hb,ES,<-TF];rfl):o:=A1
def aau(A1:o:=by rw[hD];exact RI VU trivial):o:=A1
def qB(A1:o:=by rw[hlen];omega):o:=A1
def qC(A1:o:=by simpa using EO):o:=A1
def aav(A1:o:=by simp[Mach.enter]):o:=A1
def qD(A1:o:=by simpa using l2):o:=A1
def qnL(A1:o:=by simp[ntmps106]):o:=A1
def qE(A1:o:=by simp only[B2]):o:=A1
def aaw(A1:o:=by simp only[G.Am];rw[Ap e]):o:=A1
def aax(A1:o:=by simp[execOp,ho,e2,asBool]):o:=A1
def aay(A1:o:=by simp only[G.De,Dy];omega):o:=A1
def qd(A1:o:=by rw[hO];exact EU):o:=A1
def abd(A1:o:=by simp[Sq,HU,h1,asAddr,Aj]):o:=A1
def abe(A1:o:=by rw[h.good.len];exact AF):o:=A1
def jX(A1:o:=by simp[JF,Qi]):o:=A1
def jY(A1:o:=by rw[Jp];simp):o:=A1
def abf(A1:o:=by rw[Ap (Ne.symm (hk TT))]):o:=A1
def abg(A1:o:=by rw[Ap (Ne.symm (h1 DM))]):o:=A1
def dg(A1:o:=by simp[h6]):o:=A1
def dh(A1:o:=by simp[HO]):o:=A1
def qf(A1:o:=by rw[JX];simp[h2]):o:=A1
def qg(A1:o:=by rw[h5];exact AF):o:=A1
def qi(A1:o:=by simpa using b):o:=A1
def abh(A1:o:=by rw[B8,OD];exact OE _ FM):o:=A1
def abi(A1:o:=by have:=he b hb e hx;omega):o:=A1
def abj(A1:o:=by have:=Lg.to b C5;omega):o:=A1
def qj(A1:o:=by rw[IC];exact he):o:=A1
def abk(A1:o:=by rw[hD,Ap (by omega),ID]):o:=A1
def abl(A1:o:=by show(Eo b).kind=_;rw[hT]):o:=A1
def qn(A1:o:=by simpa using q2):o:=A1
def abm(A1:o:=by simp[Act.put,cw H6,hy]):o:=A1
def abn(A1:o:=by rw[DJ];exact Q6 hg Fz):o:=A1
def jZ(A1:o:=by simp[hy]):o:=A1
def qnS(A1:o:=by rw[<-hlen];exact EC v.n):o:=A1
def abo(A1:o:=by have:=hF.ins b hb;omega):o:=A1
def abp(A1:o:=by simp only;rw[h2];simp):o:=A1
def ja(A1:o:=by rw[BD];rfl):o:=A1
def abS(A1:o:=by simpa using h1.2 a ha):o:=A1
def qQ(A1:o:=by simp[G.add,ho]):o:=A1
def qR(A1:o:=by simpa using hu):o:=A1
def qS(A1:o:=by rw[IW];omega):o:=A1
def qT(A1:o:=by rw[Py];omega):o:=A1
def qU(A1:o:=by simp[h.len,h5]):o:=A1
def qV(A1:o:=by rw[W3];omega):o:=A1
def qW(A1:o:=by rw[Bv,hb];rfl):o:=A1
def qX(A1:o:=by rw[Bv,hs];rfl):o:=A1
def qY(A1:o:=by unfold Bi;simp):o:=A1
def abT(A1:o:=by simp[Act.put,h.defers]):o:=A1
def abU(A1:o:=by simp[G.freeze,G.Am,hO]):o:=A1
def abV(A1:o:=by simp only[aa3];omega):o:=A1
def abW(A1:o:=by simp only[N7];omega):o:=A1
def abX(A1:o:=by show l.length<=_;omega):o:=A1
def abY(A1:o:=by rw[hr.frames];exact AT):o:=A1
def abZ(A1:o:=by rw[B2];exact AE hf.1):o:=A1
def aba(A1:o:=by show n-(j+1)<n-j;omega):o:=A1
def qZ(A1:o:=by rw[U8];omega):o:=A1
def jV(A1:o:=by simp[hl]):o:=A1
def jW(A1:o:=by rw[Zy]):o:=A1
def qa(A1:o:=by rw[Au];simp):o:=A1
def qb(A1:o:=by rw[h1];simp):o:=A1
def qc(A1:o:=by rw[h0];simp):o:=A1
def abb(A1:o:=by have:=hS.bl.1;omega):o:=A1
def abc(A1:o:=by rw[hW.len];exact AF):o:=A1
def qM(A1:o:=by rw[Q0];omega):o:=A1
def qN(A1:o:=by rw[gd];omega):o:=A1
def abO(A1:o:=by have:=hg.len;omega):o:=A1
def abP(A1:o:=by simp[hk]):o:=A1
def qO(A1:o:=by rw[hz];simp):o:=A1
def abQ(A1:o:=by rw[ho];exact B6 _):o:=A1
def jT(A1:o:=by simp[EM]):o:=A1
def abR(A1:o:=by rw[EJ];exact hru.1):o:=A1
def jU(A1:o:=by simp[Dq]):o:=A1
def qP(A1:o:=by rw[h2];omega):o:=A1
def je(A1:o:=by cases q):o:=A1
def jf(A1:o:=by simp[MX]):o:=A1
def qu(A1:o:=by simp at hj):o:=A1
def qv(A1:o:=by rw[aa5,qnH]):o:=A1
def qw(A1:o:=by simp[Gb,Bi]):o:=A1
def jg(A1:o:=by rw[e]):o:=A1
def qx(A1:o:=by rw[qbR,Xx]):o:=A1
def qy(A1:o:=by simp[hX]):o:=A1
def Ch(A1:a->AL p->o:=by intro AH A5;refine B9 ?_;simp -dsimp only[simprocAttr,↓AG,zp,AH];refine Ak ?_;exact A5.1):o:=A1 AH ⟨A5⟩
def Ba(A1:AL p->AL q->o:=by intro A5 Ao;refine zq rfl ?_ ?_;simp -dsimp only[simprocAttr,↓AG,zp,zc];exact A5.1;exact Ao.1):o:=A1 ⟨A5⟩ ⟨Ao⟩
def Cw(A1:AL p->o:=by intro A5;dsimp only[Tmp,TypeId,slotsOf];refine BM (Ak ?_);exact A5.1):o:=A1 ⟨A5⟩
def BO(A1:AL p->o:=by intro A5;refine qkP ?_;simp -dsimp only[Mo,LW,Nat.reduceEqDiff,reduceCtorEq];exact A5.1):o:=A1 ⟨A5⟩
def C6(A1:AL p->o:=by intro A5;refine zq rfl ?_ ?_;simp -dsimp only[simprocAttr,↓AG,zp,zc];exact A5.1):o:=A1 ⟨A5⟩
def BL(A1:AL p->o:=by intro A5;simp -dsimp only[simprocAttr,↓AG,zp];exact A5.1):o:=A1 ⟨A5⟩
def Ef(A1:AL p->o:=by intro A5;(repeat(refine⟨I,?_⟩));exact A5.1):o:=A1 ⟨A5⟩
def HH(A1:AL p->o:=by intro A5;simp -dsimp only[simprocAttr,↓AG,zp,Bs.D',Bs.EK,Bs.E4,HJ];exact A5.1):o:=A1 ⟨A5⟩
def Gi(A1:a->AL p->o:=by intro AH A5;simp -dsimp only[simprocAttr,↓AG,zp,AH];exact A5.1):o:=A1 AH ⟨A5⟩
def E3(A1:AL p->o:=by intro A5;refine ZL rfl ?_;refine BM (Ak ?_);refine F3 ?_;exact A5.1):o:=A1 ⟨A5⟩
def YU(A1:a->b->c->d->AL p->AL q->AL r->o:=by intro AH zB CC Eg A5 Ao F2;refine Ef ?_;refine⟨ob CW,?_⟩;refine Ak ?_;refine B9 ?_;simp -dsimp only[simprocAttr,↓AG,zp,AH,zB,CC,Eg,qnU];refine Ef ?_;refine⟨Vv [2,f.AW] O.length [.pure,.pure,.pure,.pure,.rd 0,.pure,.pure,.pure,.rd 1,.pure,.pure,.pure,.pure,.pure,.pure,.rd 1,.pure,.pure,.wr 2 [],.wr 3 [2]] Ai Ai rfl rfl CW,Ga ?_⟩;simp -dsimp only[Mo,LW,Nat.reduceEqDiff,reduceCtorEq];refine G4 3 ([AA B.params,B7 B.ins,aI B.term.kind,aI B.term.arg,aI B.term.n,AA B.term.cases,An B.term.to]) [(0,.mp 2 0),(2,.mp f.AW 0),(3,.ip none [AA B.params,B7 B.ins,aI B.term.kind,aI B.term.arg,aI B.term.n,AA B.term.cases,An B.term.to])] rfl CX I Dc ?_ ?_ ?_;exact A5.1;exact Ao.1;exact F2.1):o:=A1 AH zB CC Eg ⟨A5⟩ ⟨Ao⟩ ⟨F2⟩
def Cc(A1:AL p->o:=by intro A5;refine BM (Ak ?_);exact A5.1):o:=A1 ⟨A5⟩
def dk(A1:AL p->o:=by intro A5;refine Cw ?_;refine U2 4 0 ([aI i.to,aI i.op,aI i.n,AA i.args]) rfl rfl CX ?_;refine BL ?_;refine GX (Ak ?_);refine Al ?_;exact A5.1):o:=A1 ⟨A5⟩
def Ri(A1:a->b->AL p->o:=by intro AH zB A5;simp -dsimp only[simprocAttr,↓AG,zp,AH,zB];exact A5.1):o:=A1 AH zB ⟨A5⟩
def Bw(A1:AL p->o:=by intro A5;refine HA ?_;refine Ef ?_;refine zV ?_;exact A5.1):o:=A1 ⟨A5⟩
def KK(A1:AL p->AL q->o:=by intro A5 Ao;refine Cw ?_;refine Cz 1 0 (.ip none [aI f.name,AR f.blocks]) rfl Bd trivial rfl ?_ ?_;rotate_left;refine BL ?_;exact A5.1;exact Ao.1):o:=A1 ⟨A5⟩ ⟨Ao⟩
def Gj(A1:AL p->o:=by intro A5;refine⟨ob CW,?_⟩;refine Ak ?_;exact A5.1):o:=A1 ⟨A5⟩
def dn(A1:a->b->c->d->AL p->AL q->o:=by intro AH zB CC Eg A5 Ao;refine B9 ?_;simp -dsimp only[simprocAttr,↓AG,zp,AH,zB,zd,CC,oq,U7,Eg];refine⟨Vv [f.AW,f.Ay] O.length [.pure,.pure,.pure,.rd 0,.pure,.pure,.rd 1,.wr 2 [],.wr 3 [2]] qnR Ai rfl rfl CW,Ga ?_⟩;simp -dsimp only[Mo,LW,Nat.reduceEqDiff,reduceCtorEq];refine G4 6 [aI V.kind,aI V.n,.A3 4 (V.list.map SV.enc) .sh,eP V.arr] [(0,.mp 2 0),(1,.mp f.AW 0),(5,.ip none [aI t.kind,aI t.arg,aI t.n,AA t.cases,An t.to]),(6,.ip none [aI V.kind,aI V.n,.A3 4 (V.list.map SV.enc) .sh,eP V.arr])] rfl D5 I Dc AN ?_ ?_;exact A5.1;exact Ao.1):o:=A1 AH zB CC Eg ⟨A5⟩ ⟨Ao⟩
def aQ(A1:a->b->AL p->AL q->AL r->o:=by intro AH zB A5 Ao F2;refine Az ?_;refine B9 ?_;simp -dsimp only[simprocAttr,↓AG,zp,AH,zB,BH];refine Ef ?_;refine⟨Vv [f.AW] O.length [.pure,.pure,.pure,.pure,.pure,.rd 0,.pure,.pure,.wr 1 [],.wr 2 [1]] A6 Ai rfl rfl CW,Ga ?_⟩;simp -dsimp only[Mo,LW,Nat.reduceEqDiff,reduceCtorEq];refine G4 4 ([aI i.to,aI i.op,aI i.n,AA i.args]) [(0,.mp 2 0),(2,.mp f.AW 0),(4,.ip none [aI i.to,aI i.op,aI i.n,AA i.args])] rfl CX I Dc ?_ ?_ ?_;exact A5.1;exact Ao.1;exact F2.1):o:=A1 AH zB ⟨A5⟩ ⟨Ao⟩ ⟨F2⟩
def HZ(A1:a->AL p->o:=by intro AH A5;refine Ej ?_;refine Gi AH ?_;refine Ak ?_;exact A5.1):o:=A1 AH ⟨A5⟩
def Es(A1:o:=by simp[SX,St.get,GY,Nn,Go.Av.look,Sub.refl]):o:=A1
def YS(A1:a->b->AL p->o:=by intro AH zB A5;refine Ch AH ?_;refine U1 rfl ?_;refine Ch zB ?_;refine U1 rfl ?_;exact A5.1):o:=A1 AH zB ⟨A5⟩
def I9(A1:o:=by simp[A8.upto,AQ,A2.upto,BU,Func.AX,Block.AX,Edge.AX,Ins.AX]):o:=A1
def AI(A1:a->o:=by intro AH;exact ab AH I):o:=A1 AH
def D1(A1:AL p->o:=by intro A5;refine Ef ?_;refine Ak ?_;exact A5.1):o:=A1 ⟨A5⟩
def DR(A1:a->AL p->o:=by intro AH A5;refine DW (Al ?_);refine Ch AH ?_;exact A5.1):o:=A1 AH ⟨A5⟩
def FE(A1:AL p->o:=by intro A5;refine U1 rfl ?_;refine Az ?_;exact A5.1):o:=A1 ⟨A5⟩
def jd(A1:a->b->AL p->AL q->AL r->o:=by intro AH zB A5 Ao F2;refine zf true O.length func89 ntmps89 ?_;dsimp only[Tmp,TypeId,slotsOf];refine B9 ?_;refine HH ?_;refine Ak ?_;refine B9 ?_;simp -dsimp only[simprocAttr,↓AG,zp,Bs.D',Bs.EK,Bs.E4,HJ,gm,AH,zB,FV,Fp,pE];refine Ak ?_;refine G4 8 ([aI p.1,aI p.2]) [(2,.ip none [aI k]),(3,.mp A 0),(4,.ip none [.A3 2 (over.map Bs.enc) .sh]),(5,.ip none [.v (.int .u64 seen.a),.v (.int .u64 seen.b)]),(8,.ip none [aI p.1,aI p.2]),(9,.v (.bool true))] rfl CX I Dc ?_ ?_ ?_;exact A5.1;exact Ao.1;exact F2.1):o:=A1 AH zB ⟨A5⟩ ⟨Ao⟩ ⟨F2⟩
def Be(A1:o:=by exact Eh.mp rfl rfl):o:=A1
def WQ(A1:AL p->AL q->o:=by intro A5 Ao;refine Cw ?_;refine Cz 1 0 (.ip none [C8 u.fns,aI u.main]) rfl Bd trivial rfl ?_ ?_;rotate_left;refine BL ?_;exact A5.1;exact Ao.1):o:=A1 ⟨A5⟩ ⟨Ao⟩
def F1(A1:AL p->AL q->o:=by intro A5 Ao;refine Pv ?_;show Hy _ _;refine Ba ?_ ?_;exact A5.1;exact Ao.1):o:=A1 ⟨A5⟩ ⟨Ao⟩
def D7(A1:AL p->o:=by intro A5;refine Cc ?_;refine F3 ?_;exact A5.1):o:=A1 ⟨A5⟩
def BY(A1:o:=by exact Sub.int A6):o:=A1
def YT(A1:AL p->o:=by intro A5;refine zq rfl ?_ ?_;simp -dsimp only[simprocAttr,↓AG,zp,Bs.D',Bs.EK,Bs.E4,HJ,zc];exact A5.1):o:=A1 ⟨A5⟩
def QR(A1:a->b->c->AL p->o:=by intro AH zB CC A5;simp -dsimp only[simprocAttr,↓AG,zp,AH,zB,CC];exact A5.1):o:=A1 AH zB CC ⟨A5⟩
def BF(A1:AL p->o:=by intro A5;refine GX (Ak ?_);exact A5.1):o:=A1 ⟨A5⟩
def E9(A1:AL p->o:=by intro A5;refine Ak ?_;refine F3 ?_;exact A5.1):o:=A1 ⟨A5⟩
def AJ(A5:i->p)(Ao:j->q)(A1:AL (i->p)->AL (j->q)->o:=by intro A5 Ao;refine Cc ?_;apply AZ rfl<;>intro h;exact A5.1 h;exact Ao.1 h):o:=A1 ⟨A5⟩ ⟨Ao⟩
def dj(A1:AL p->AL q->AL r->o:=by intro A5 Ao F2;refine zf true O.length func112 ntmps112 ?_;refine Cw ?_;refine G4 5 ([aI t.kind,aI t.arg,aI t.n,AA t.cases,An t.to]) [(0,.mp 2 0),(1,.mp f.AW 0),(5,.ip none [aI t.kind,aI t.arg,aI t.n,AA t.cases,An t.to])] rfl CX I Dc ?_ ?_ ?_;exact A5.1;exact Ao.1;exact F2.1):o:=A1 ⟨A5⟩ ⟨Ao⟩ ⟨F2⟩
def PE(A1:AL p->AL q->o:=by intro A5 Ao;refine zq rfl ?_ ?_;simp -dsimp only[simprocAttr,↓AG,zp,Bs.D',Bs.EK,Bs.E4,HJ,zc];exact A5.1;exact Ao.1):o:=A1 ⟨A5⟩ ⟨Ao⟩
def KJ(A1:a->b->AL p->o:=by intro AH zB A5;refine B9 ?_;refine Ri AH zB ?_;exact A5.1):o:=A1 AH zB ⟨A5⟩
def WR(A1:a->b->c->AL p->o:=by intro AH zB CC A5;refine zf true O.length func137 ntmps137 ?_;refine dk ?_;refine YS AH zB ?_;refine Ch CC ?_;exact A5.1):o:=A1 AH zB CC ⟨A5⟩
def qt(A5:i->p)(Ao:j->q)(A1:AL (i->p)->AL (j->q)->o:=by intro A5 Ao;refine Cw ?_;refine BF ?_;refine Al ?_;refine AJ (fun h=>?_) (fun h=>?_);exact A5.1 h;exact Ao.1 h):o:=A1 ⟨A5⟩ ⟨Ao⟩
def aR(A1:a->b->c->d->AL p->o:=by intro AH zB CC Eg A5;refine B9 ?_;simp -dsimp only[simprocAttr,↓AG,zp,AH,zB,CC,<-Eg];refine D1 ?_;refine BM ?_;refine .inr (.inr ⟨_,LQ,B4 (zj ?_)⟩);refine Ak ?_;refine Cc ?_;exact A5.1):o:=A1 AH zB CC Eg ⟨A5⟩
def jb(A1:AL p->o:=by intro A5;simp -dsimp only[simprocAttr,↓AG,zp,zT];refine E9 ?_;simp -dsimp only[simprocAttr,↓AG,zp,zr,results134,ZM];exact A5.1):o:=A1 ⟨A5⟩
def T6(A1:a->o:=by intro AH;refine E3 ?_;simp -dsimp only[simprocAttr,↓AG,zp,zr,results53];rw[AH]):o:=A1 AH
def PD(A1:AL p->o:=by intro A5;refine U1 rfl ?_;refine Pv ?_;show Hy _ _;refine C6 ?_;exact A5.1):o:=A1 ⟨A5⟩
def qp(A1:a->AL p->AL q->o:=by intro AH A5 Ao;refine Ch AH ?_;refine G4 6 [aI c.kind,aI c.n,.A3 4 (c.list.map SV.enc) .sh,eP c.arr] [(0,.mp 2 0),(2,.mp f.AW 0),(4,.ip none [aI i.to,aI i.op,aI i.n,AA i.args]),(5,.A3 4 (args.map SV.enc) .sh),(6,.ip none [aI c.kind,aI c.n,.A3 4 (c.list.map SV.enc) .sh,eP c.arr])] rfl aaT I Dc Dl ?_ ?_;exact A5.1;exact Ao.1):o:=A1 AH ⟨A5⟩ ⟨Ao⟩
def abq(A1:AL p->o:=by intro A5;refine zi Jq ?_;refine Gj ?_;refine No O.length 1 (sz:=4) (xs:=[]) (Se _ _) rfl ?_;show AU prog _ _ _ ⟨_,_,(O++[A8.cells [AA b.params,.A3 4 [] .ex,aI b.term.kind,aI b.term.arg,aI b.term.n,AA b.term.cases,An b.term.to]]++[A8.spare 0]).set O.length (.cells ([AA b.params,.A3 4 [] .ex,aI b.term.kind,aI b.term.arg,aI b.term.n,AA b.term.cases,An b.term.to].set 1 (.A3 4 [] (.tok (O++[A8.cells [AA b.params,.A3 4 [] .ex,aI b.term.kind,aI b.term.arg,aI b.term.n,AA b.term.cases,An b.term.to]]).length))))⟩;rw[qby];exact A5.1):o:=A1 ⟨A5⟩
def jc(A1:AL p->AL q->AL r->o:=by intro A5 Ao F2;refine G4 5 ([aI v.kind,aI v.n,.A3 4 (v.list.map SV.enc) .sh,eP v.arr]) [(0,.mp 2 0),(1,.mp f.AW 0),(5,.ip none [aI v.kind,aI v.n,.A3 4 (v.list.map SV.enc) .sh,eP v.arr])] rfl a7 I Dc ?_ ?_ ?_;exact A5.1;exact Ao.1;exact F2.1):o:=A1 ⟨A5⟩ ⟨Ao⟩ ⟨F2⟩
def IV(A1:AL p->o:=by intro A5;refine B9 ?_;refine HH ?_;refine Ak ?_;exact A5.1):o:=A1 ⟨A5⟩
def di(A1:a->b->c->d->o:=by intro AH zB CC Eg;simp -dsimp only[simprocAttr,↓AG,zp,AH,zB,CC,Eg];refine E9 ?_;simp -dsimp only[simprocAttr,↓AG,zp,zr,results110,iP,Y5,qnC,iO,PA,iN,qnB,qnA]):o:=A1 AH zB CC Eg
def Gv(A1:AL p->o:=by intro A5;refine Ef ?_;refine Gj ?_;exact A5.1):o:=A1 ⟨A5⟩
def qq(A1:a->b->c->d->o:=by intro AH zB CC Eg;simp only[Instr.buildSlice,run_underlying hu,Go.sizeOf,typeInfo,Go.zeroValue,Sem.run_bind,run_program,Result.andThen_ok,AH,Sem.run_pure,Go.newRow];rw[A4 TE,A4 AT];simp only[Sem.run_bind,Sem.run_pure,Result.andThen_ok,run_program,zB,CC,Eg,run_newObj];rfl):o:=A1 AH zB CC Eg
def MM(A1:AL p->o:=by intro A5;dsimp only[Tmp,TypeId,slotsOf];exact A5.1):o:=A1 ⟨A5⟩
def PG(A1:a->AL p->o:=by intro AH A5;refine Gi AH ?_;refine D1 ?_;exact A5.1):o:=A1 AH ⟨A5⟩
def aby(A1:AL p->AL q->o:=by intro A5 Ao;refine BF ?_;refine Al (BZ (ι:={X:Ci // X.j<=b.ins.length∧NQ O (CS (O.length+1) b (b.ins.take X.j) (An b.term.to)) X.j X.O}) (fun X=>⟨83,[(1,.ip none [aI f.name,AR f.blocks]),(2,.mp 3 0),(3,.mp 4 0),(15,AR f.blocks),(16,aI N),(17,aI k),(5,.ip none [AA b.params,B7 b.ins,aI b.term.kind,aI b.term.arg,aI b.term.n,AA b.term.cases,An b.term.to]),(6,.mp O.length 0),(28,B7 b.ins),(29,aI b.ins.length),(30,aI X.1.j)],X.1.O⟩) (fun X=>b.ins.length-X.1.j) ⟨⟨0,O2⟩,A6,hI⟩ ?_ ?_);exact A5.1;exact Ao.1):o:=A1 ⟨A5⟩ ⟨Ao⟩
def FX(A1:o:=by exact Sub.of_eq pg):o:=A1
def jk(A1:a->AL p->o:=by intro AH A5;simp -dsimp only[simprocAttr,↓AG,zp,Bs.D',Bs.EK,Bs.E4,HJ,AH];exact A5.1):o:=A1 AH ⟨A5⟩
def WU(A1:o:=by simp[A8.upto,AQ,A2.upto,BU,Block.AX,Edge.AX,Ins.AX,gh,Bs.D']):o:=A1
def L7(A1:a->b->AL p->o:=by intro AH zB A5;refine Ej ?_;refine Ri AH zB ?_;refine Ak ?_;exact A5.1):o:=A1 AH zB ⟨A5⟩
def YW(A1:a->b->c->d->AL p->o:=by intro AH zB CC Eg A5;show AU prog _ _ _ ⟨137,_,_⟩;refine MM ?_;refine B9 ?_;simp -dsimp only[simprocAttr,↓AG,zp,AH,zB,HW,CC,Eg];exact A5.1):o:=A1 AH zB CC Eg ⟨A5⟩
def Rk(A1:AL p->o:=by intro A5;refine Dn ?_;refine HH ?_;refine Ef ?_;refine zV ?_;exact A5.1):o:=A1 ⟨A5⟩
def aX(A1:AL p->o:=by intro A5;refine zf true 0 func110 ntmps110 ?_;refine Cw ?_;refine Cc ?_;refine BF ?_;refine Al ?_;exact A5.1):o:=A1 ⟨A5⟩
def Uk(A5:i->p)(Ao:j->q)(A1:AL (i->p)->AL (j->q)->o:=by intro A5 Ao;refine zf true O.length func115 ntmps115 ?_;refine dk ?_;refine AJ (fun h=>?_) (fun h=>?_);exact A5.1 h;exact Ao.1 h):o:=A1 ⟨A5⟩ ⟨Ao⟩
def YX(A1:a->o:=by intro AH;refine E3 ?_;simp -dsimp only[simprocAttr,↓AG,zp,zr,results24];rw[AH]):o:=A1 AH
def jl(A1:AL p->AL q->o:=by intro A5 Ao;refine Az ?_;refine BM ?_;refine zi Fb ?_;refine Ak ?_;refine Cz 3 1 (.ip none [C8 U.fns,aI U.main]) rfl Bd trivial rfl ?_ ?_;rotate_left;refine BL ?_;rotate_left;exact A5.1;exact Ao.1):o:=A1 ⟨A5⟩ ⟨Ao⟩
def YY(A1:AL p->o:=by intro A5;simp -dsimp only[simprocAttr,↓AG,zp,zr,results135,Vw];refine⟨AN,RM,?_⟩;exact A5.1):o:=A1 ⟨A5⟩
def ON(A1:AL p->o:=by intro A5;refine U1 rfl ?_;refine H2 ?_;exact A5.1):o:=A1 ⟨A5⟩
def jm(A1:o:=by refine Gj ?_;refine F3 ?_;simp -dsimp only[simprocAttr,↓AG,zp,Bs.D',Bs.EK,Bs.E4,HJ,zr,results89];exact⟨AN,A6⟩):o:=A1
def aY(A1:o:=by simp -dsimp only[simprocAttr,↓AG,zp,zr,results117];simp[AQ,A2.upto]):o:=A1
def jn(A1:AL p->o:=by intro A5;refine E3 ?_;simp -dsimp only[simprocAttr,↓AG,zp,zr,results137,Vw];exact A5.1):o:=A1 ⟨A5⟩
def YZ(A1:AL p->o:=by intro A5;refine Ef ?_;refine⟨trivial,?_⟩;exact A5.1):o:=A1 ⟨A5⟩
def abz(A1:AL p->AL q->AL r->o:=by intro A5 Ao F2;refine G4 8 ([aI i.to,aI i.op,aI i.n,AA i.args]) [(1,.ip none [aI f.name,AR f.blocks]),(2,.mp 3 0),(3,.mp 4 0),(15,AR f.blocks),(16,aI N),(17,aI k),(5,.ip none [AA b.params,B7 b.ins,aI b.term.kind,aI b.term.arg,aI b.term.n,AA b.term.cases,An b.term.to]),(6,.mp O.length 0),(28,B7 b.ins),(29,aI b.ins.length),(30,aI j),(8,.ip none [aI i.to,aI i.op,aI i.n,AA i.args])] Dc CX I Dc ?_ ?_ ?_;exact A5.1;exact Ao.1;exact F2.1):o:=A1 ⟨A5⟩ ⟨Ao⟩ ⟨F2⟩
def r9(A1:o:=by simp -dsimp only[simprocAttr,↓AG,zp,zr,results118]):o:=A1
def aZ(A1:AL p->o:=by intro A5;refine ZL rfl ?_;refine GX ?_;refine .inr (.inr ⟨_,Br _,B4 (zj ?_)⟩);exact A5.1):o:=A1 ⟨A5⟩
def ac0(A1:a->AL p->AL q->AL r->o:=by intro AH A5 Ao F2;refine DR AH ?_;refine G4 10 ([aI e.block,AA e.args]) [(1,.ip none [aI f.name,AR f.blocks]),(2,.mp 3 0),(3,.mp 4 0),(15,AR f.blocks),(16,aI N),(17,aI k),(5,.ip none [AA b.params,B7 b.ins,aI b.term.kind,aI b.term.arg,aI b.term.n,AA b.term.cases,An b.term.to]),(6,.mp O.length 0),(55,An b.term.to),(56,aI b.term.to.length),(57,aI z),(10,.ip none [aI e.block,AA e.args])] Dc CX I Dc ?_ ?_ ?_;exact A5.1;exact Ao.1;exact F2.1):o:=A1 AH ⟨A5⟩ ⟨Ao⟩ ⟨F2⟩
def PH(A1:AL p->AL q->o:=by intro A5 Ao;refine Ga ?_;show Hy _ _;refine Ba ?_ ?_;exact A5.1;exact Ao.1):o:=A1 ⟨A5⟩ ⟨Ao⟩
def MN(A1:o:=by simp[A8.upto,AQ,A2.upto]):o:=A1
def rA(A1:AL p->AL q->o:=by intro A5 Ao;refine zf true 0 func45 ntmps45 ?_;refine Cw ?_;refine BM ?_;refine zi Aj ?_;refine Ak ?_;refine Cz 7 2 (.ip none [.A3 1 (out.map aI) .sh,aI fin,aI val]) rfl Bd trivial rfl ?_ ?_;rotate_left;refine BL ?_;exact A5.1;exact Ao.1):o:=A1 ⟨A5⟩ ⟨Ao⟩
def aT(A1:a->o:=by intro AH;refine E3 ?_;simp -dsimp only[simprocAttr,↓AG,zp,zr,results9];rw[AH]):o:=A1 AH
def WS(A1:AL p->o:=by intro A5;simp -dsimp only[simprocAttr,↓AG,zp,zr,results80];exact A5.1):o:=A1 ⟨A5⟩
def T7(A5:i->p)(Ao:j->q)(A1:AL (i->p)->AL (j->q)->o:=by intro A5 Ao;refine zf true 0 func118 ntmps118 ?_;refine qt (fun h=>?_) (fun h=>?_);exact A5.1 h;exact Ao.1 h):o:=A1 ⟨A5⟩ ⟨Ao⟩
def WT(A1:AL p->o:=by intro A5;refine .inr (.inl ⟨_,_,hC,.inl (B4 (zj ?_))⟩);exact A5.1):o:=A1 ⟨A5⟩
def dq(A1:AL p->o:=by intro A5;simp -dsimp only[simprocAttr,↓AG,zp,zT];refine E9 ?_;exact A5.1):o:=A1 ⟨A5⟩
def abt(A1:a->AL p->AL q->AL r->o:=by intro AH A5 Ao F2;refine DR AH ?_;refine G4 5 ([AA b.params,B7 b.ins,aI b.term.kind,aI b.term.arg,aI b.term.n,AA b.term.cases,An b.term.to]) [(1,.ip none [aI f.name,AR f.blocks]),(2,.mp 3 0),(3,.mp 4 0),(15,AR f.blocks),(16,aI N),(17,aI k),(5,.ip none [AA b.params,B7 b.ins,aI b.term.kind,aI b.term.arg,aI b.term.n,AA b.term.cases,An b.term.to])] Dc CX I Dc ?_ ?_ ?_;exact A5.1;exact Ao.1;exact F2.1):o:=A1 AH ⟨A5⟩ ⟨Ao⟩ ⟨F2⟩
def abu(A1:AL p->o:=by intro A5;simp -dsimp only[simprocAttr,↓AG,zp,zr,results136,Vw];refine⟨AN,RM,?_⟩;exact A5.1):o:=A1 ⟨A5⟩
def Ui(A1:AL p->o:=by intro A5;refine DW (Al ?_);refine B9 ?_;exact A5.1):o:=A1 ⟨A5⟩
def r6(A1:a->o:=by intro AH;rw[A9 hc];refine ih (k+1) _ (fun z hz=>hy z (Dw _ hz)) ?_;rw[P' I,show k+1+ys.length=k+(ys.length+1) from I];exact AH):o:=A1 AH
def abv(A1:a->b->o:=by intro AH zB;refine ZL rfl ?_;refine HA (Ak ?_);refine HA ?_;refine .inr (.inl ⟨_,_,P7 0 v.n,.inl (B4 ?_)⟩);simp -dsimp only[simprocAttr,↓AG,zp,hlen,AH];refine Ga ?_;simp -dsimp only[simprocAttr,↓AG,zp,zr,results130,hlen,Jk,B2,zB];exact⟨qnS,trivial⟩):o:=A1 AH zB
def aU(A1:o:=by exact⟨trivial,⟨trivial,trivial⟩,trivial⟩):o:=A1
def r7(A1:a->b->c->d->AL p->o:=by intro AH zB CC Eg A5;refine zf true O.length func137 ntmps137 ?_;refine Cw ?_;refine U2 4 0 ([aI i.to,aI i.op,aI i.n,AA i.args]) rfl rfl CX ?_;refine BL ?_;refine HZ AH ?_;refine Al ?_;refine Ch zB ?_;refine ZL rfl ?_;refine L7 CC Eg ?_;exact A5.1):o:=A1 AH zB CC Eg ⟨A5⟩
def Rj(A1:AL p->o:=by intro A5;refine GX ?_;refine zi Jo ?_;refine Ak ?_;exact A5.1):o:=A1 ⟨A5⟩
def abw(A1:a->o:=by intro AH;rw[show l-((x::M).length:Int)=l-1-M.length from pw,show A.length+(x::M).length=A.length+1+M.length from pw];refine .cons ho hs aJ ?_;show Mach.Steps v M.length (Mach.step v { m.put ({ f' with pos:=A.length,vals:=Ek }::r') l with left:=l-1 }) _;rw[AH];exact q2):o:=A1 AH
def Ki(A1:AL p->o:=by intro A5;refine BL ?_;refine Ak ?_;exact A5.1):o:=A1 ⟨A5⟩
def dr(A1:a->b->c->AL p->o:=by intro AH zB CC A5;refine zf true 0 func32 ntmps32 ?_;refine Cw ?_;refine L7 AH zB ?_;refine FE ?_;refine HZ CC ?_;exact A5.1):o:=A1 AH zB CC ⟨A5⟩
def aV(A1:a->o:=by intro AH;simp -dsimp only[simprocAttr,↓AG,zp,zr,results32];rw[AH]):o:=A1 AH
def DV(A1:o:=by exact h.elim):o:=A1
def L6(A1:a->b->AL p->o:=by intro AH zB A5;refine KJ AH zB ?_;refine D1 ?_;exact A5.1):o:=A1 AH zB ⟨A5⟩
def JU(A1:o:=by refine C6 ?_;rfl):o:=A1
def PF(A1:AL p->o:=by intro A5;refine DW (Al ?_);refine Cc ?_;exact A5.1):o:=A1 ⟨A5⟩
def jj(A1:a->o:=by intro AH;refine D7 ?_;simp -dsimp only[simprocAttr,↓AG,zp,zr,results131];simp[K3,e,AH]):o:=A1 AH
def Uj(A5:i->p)(Ao:j->q)(A1:AL (i->p)->AL (j->q)->o:=by intro A5 Ao;refine zf true 0 func117 ntmps117 ?_;refine qt (fun h=>?_) (fun h=>?_);exact A5.1 h;exact Ao.1 h):o:=A1 ⟨A5⟩ ⟨Ao⟩
def aW(A1:o:=by exact⟨trivial,show _<_ from I,trivial⟩):o:=A1
def r8(A1:o:=by refine Gj ?_;refine F3 ?_;simp -dsimp only[simprocAttr,↓AG,zp,zr,results45];simp[AQ,A2.upto,BU]):o:=A1
def abx(A1:AL p->AL q->o:=by intro A5 Ao;refine BF ?_;refine Xy (⟨82,[(0,.mp 2 0),(2,.A3 4 (args.map SV.enc) .sh),(4,.ip none [aI i.to,aI i.op,aI i.n,AA i.args]),(6,.mp (O.length+1) 0),(7,aI 0),(9,aI i.op),(15,.v (.bool true))],O++[.gone,.cells [aI 0,aI 0,.A3 4 [] .ex,.v (.pointer none)]]⟩) ?_ ?_;exact A5.1;exact Ao.1):o:=A1 ⟨A5⟩ ⟨Ao⟩
def YV(A1:o:=by simp[A8.upto,AQ,A2.upto,BU,Block.AX]):o:=A1
def dp(A1:o:=by simp -dsimp only[simprocAttr,↓AG,zp,zr,results7]):o:=A1
def ML(A1:AL p->o:=by intro A5;refine Ak ?_;refine FE ?_;exact A5.1):o:=A1 ⟨A5⟩
def LZ(A1:AL p->o:=by intro A5;refine Cw ?_;refine BM ?_;exact A5.1):o:=A1 ⟨A5⟩
def aS(A1:a->o:=by intro AH;simp -dsimp only[simprocAttr,↓AG,zp,zr,results79];rw[AH]):o:=A1 AH
def jh(A1:AL p->o:=by intro A5;refine D7 ?_;simp -dsimp only[simprocAttr,↓AG,zp,Sf,results143,JG,Mq,Hl,RE,RG,RF];exact A5.1):o:=A1 ⟨A5⟩
def ji(A1:AL p->AL q->o:=by intro A5 Ao;refine Cz 2 0 (.ip none [C8 u.fns,aI u.main]) rfl Bd trivial rfl ?_ ?_;rotate_left;refine BL ?_;exact A5.1;exact Ao.1):o:=A1 ⟨A5⟩ ⟨Ao⟩
def abr(A1:AL p->AL q->o:=by intro A5 Ao;refine G4 7 [aI v.kind,aI v.n,.A3 4 (v.list.map SV.enc) .sh,eP v.arr] [(0,.mp 2 0),(2,.mp f.AW 0),(4,.ip none [aI i.to,aI i.op,aI i.n,AA i.args]),(7,.ip none [aI v.kind,aI v.n,.A3 4 (v.list.map SV.enc) .sh,eP v.arr]),(8,aI t)] rfl aaT I Dc EC ?_ ?_;exact A5.1;exact Ao.1):o:=A1 ⟨A5⟩ ⟨Ao⟩
def L5(A1:a->b->c->AL p->o:=by intro AH zB CC A5;refine Ej ?_;refine QR AH zB CC ?_;exact A5.1):o:=A1 AH zB CC ⟨A5⟩
def qz(A1:AL p->o:=by intro A5;refine B9 ?_;refine HH ?_;refine E9 ?_;simp -dsimp only[simprocAttr,↓AG,zp,Bs.D',Bs.EK,Bs.E4,HJ,zr,results91];exact A5.1):o:=A1 ⟨A5⟩
def jv(A1:AL p->o:=by intro A5;simp -dsimp only[simprocAttr,↓AG,zp,zr,results115];exact A5.1):o:=A1 ⟨A5⟩
def Um(A1:o:=by exact LM.same hm CP.zero I):o:=A1
def Jm(A1:a->b->AL p->o:=by intro AH zB A5;refine KJ AH zB ?_;refine Ak ?_;exact A5.1):o:=A1 AH zB ⟨A5⟩
def rH(A1:AL p->AL q->AL r->o:=by intro A5 Ao F2;refine zf true O.length func86 ntmps86 ?_;refine Cw ?_;refine G4 5 ([aI p.1,aI p.2]) [(0,.mp c 0),(1,aI v),(5,.ip none [aI p.1,aI p.2]),(6,aI 0)] rfl CX I Dc ?_ ?_ ?_;exact A5.1;exact Ao.1;exact F2.1):o:=A1 ⟨A5⟩ ⟨Ao⟩ ⟨F2⟩
def acB(A1:a->o:=by intro AH;refine U5 hT func138 rfl CW (by simp[ntmps138]) ?_;show AU prog _ _ _ ⟨9,_,_⟩;refine LZ ?_;refine .inr (.inr ⟨_,hi,B4 (zj ?_)⟩);refine E9 ?_;simp -dsimp only[simprocAttr,↓AG,zp,Sf,results138,JG,Mq,Hl,RE,RG,RF];rw[AH]):o:=A1 AH
def NJ(A1:a->AL p->o:=by intro AH A5;refine B9 ?_;refine Gi AH ?_;exact A5.1):o:=A1 AH ⟨A5⟩
def FF(A1:AL p->o:=by intro A5;refine ZL rfl ?_;exact A5.1):o:=A1 ⟨A5⟩
def Et(A1:AL p->o:=by intro A5;refine HA (Ak ?_);exact A5.1):o:=A1 ⟨A5⟩
def rI(A1:o:=by simp -dsimp only[simprocAttr,↓AG,zp,zr,results112,hlen,Jk];exact⟨P9,trivial⟩):o:=A1
def dx(A1:AL p->o:=by intro A5;simp -dsimp only[simprocAttr,↓AG,zp,hlen];exact A5.1):o:=A1 ⟨A5⟩
def jw(A1:AL p->AL q->AL r->o:=by intro A5 Ao F2;refine⟨.slice (some ⟨g.w.heap.size,0,none⟩) (xs.length+ys.length) cap,_,.inl ?_,hle,EA,?_,?_⟩;exact A5.1;exact Ao.1;exact F2.1):o:=A1 ⟨A5⟩ ⟨Ao⟩ ⟨F2⟩
def dy(A1:o:=by simp[A8.upto,AQ,A2.upto,BU,Func.AX,Block.AX]):o:=A1
def jx(A1:AL p->o:=by intro A5;refine MM ?_;refine B9 ?_;simp -dsimp only[simprocAttr,↓AG,zp,Bs.D',Bs.EK];refine Ak ?_;exact A5.1):o:=A1 ⟨A5⟩
def rJ(A1:a->b->c->o:=by intro AH zB CC;refine Ch AH ?_;refine E3 ?_;simp -dsimp only[simprocAttr,↓AG,zp,zr,results58,zB,B2];rw[CC];exact⟨Z4 X.2,rfl,rfl⟩):o:=A1 AH zB CC
def rK(A1:AL p->o:=by intro A5;refine Ly hT true (10) func106 rfl CW qnL I8 ?_;show AU prog _ _ _ ⟨186,_,_⟩;refine Cw ?_;refine Cc ?_;exact A5.1):o:=A1 ⟨A5⟩
def WV(A1:a->AL p->o:=by intro AH A5;refine Ej ?_;refine Gi AH ?_;refine Gj ?_;exact A5.1):o:=A1 AH ⟨A5⟩
def Un(A1:a->o:=by intro AH;simp[Instr.sliceBounds,AH,this]):o:=A1 AH
def ah(A1:o:=by exact⟨fun g=>.v trivial,trivial⟩):o:=A1
def rL(A1:a->AL p->AL q->o:=by intro AH A5 Ao;refine DR AH ?_;refine Cz 11 1 (.ip none [aI i.to,aI i.op,aI i.n,AA i.args]) rfl Bd trivial rfl ?_ ?_;rotate_left;refine BL ?_;exact A5.1;exact Ao.1):o:=A1 AH ⟨A5⟩ ⟨Ao⟩
def acC(A1:o:=by refine List.Nodup.sublist ?_ hn;simp only[HO,Bc,Dx,Ed,JR,HF];exact((((pY _).cons _).cons _).cons₂ _ |>.cons₂ _ |>.cons₂ _ |>.cons₂ _)):o:=A1
def rM(A1:o:=by simp -dsimp only[simprocAttr,↓AG,zp,zr,results83,Jk];exact⟨P9,trivial⟩):o:=A1
def rN(A1:AL p->o:=by intro A5;refine HH ?_;refine E9 ?_;simp -dsimp only[simprocAttr,↓AG,zp,Bs.D',Bs.EK,Bs.E4,HJ,zr,results59];exact A5.1):o:=A1 ⟨A5⟩
def jy(A1:AL p->AL q->o:=by intro A5 Ao;refine Bw ?_;refine⟨⟨⟨i+1,O.length,O7⟩,AF,jC⟩,Ai,?_⟩;refine Ba ?_ ?_;exact A5.1;exact Ao.1):o:=A1 ⟨A5⟩ ⟨Ao⟩
def Rl(A1:a->o:=by intro AH;simp[G.alloc,AH,Mode.post]):o:=A1 AH
def acD(A1:o:=by refine zf true 0 func78 ntmps78 ?_;refine Cw ?_;refine B9 ?_;simp -dsimp only[simprocAttr,↓AG,zp,d];refine E9 ?_;simp -dsimp only[simprocAttr,↓AG,zp,zr,results78]):o:=A1
def Rm(A1:a->AL p->o:=by intro AH A5;refine Ak ?_;refine HZ AH ?_;exact A5.1):o:=A1 AH ⟨A5⟩
def ac4(A1:a->b->c->AL p->o:=by intro AH zB CC A5;refine GX ?_;refine .inl ⟨_,wb,Kh,B4 ?_⟩;refine Gi AH ?_;refine ML ?_;refine BM ?_;refine .inl ⟨_,wa,Kh,B4 ?_⟩;refine .inl ⟨_,wb,Kh,B4 ?_⟩;simp -dsimp only[simprocAttr,↓AG,zp,zB,Gf,CC];refine⟨I,I,?_⟩;exact A5.1):o:=A1 AH zB CC ⟨A5⟩
def jr(A1:o:=by simp -dsimp only[simprocAttr,↓AG,zp,zr,results87]):o:=A1
def Ul(A1:o:=by exact A8.IK I (AN o q)):o:=A1
def ac5(A1:AL p->o:=by intro A5;show AU prog _ _ _ ⟨_,_,(O3.set tid .gone++[A8.cells (B5 (b.term.to.take z)++[aI e.block,AA e.args])]).set O.length (.cells (CS (O.length+1) b b.ins (.os O3.length (z+1) 2)))⟩;exact A5.1):o:=A1 ⟨A5⟩
def Ya(A1:a->b->o:=by intro AH zB;simp[A2.upto,AQ,AH,zB,BU,Edge.AX,Ins.AX]):o:=A1 AH zB
def dt(A1:a->b->AL p->o:=by intro AH zB A5;simp -dsimp only[simprocAttr,↓AG,zp,Bs.D',Bs.EK,Bs.E4,HJ,AH,zB];exact A5.1):o:=A1 AH zB ⟨A5⟩
def Cd(A1:o:=by exact this):o:=A1
def Yb(A1:a->AL p->o:=by intro AH A5;refine Ch AH ?_;refine ON ?_;refine Bw ?_;exact A5.1):o:=A1 AH ⟨A5⟩
def js(A1:a->o:=by intro AH;simp -dsimp only[simprocAttr,↓AG,zp,zr,results31];rw[AH]):o:=A1 AH
def ac6(A1:o:=by exact⟨fun f hf=>(h.frames f hf).of_heap CX,fun a ha=>qnO,h.left,h.depth,h.out,h.words,h.fin,h.val,h.done,fun _=>⟨aav,rfl⟩⟩):o:=A1
def ac7(A1:AL p->o:=by intro A5;show AU prog _ _ _ ⟨_,_,(O2.set (O.length+1) (A8.spare (j+1))).set O.length (.cells (Sw (O.length+1) b ((b.ins.take j).map Ins.enc++[i.enc]) (An b.term.to)))⟩;rw[<-qbz hi];exact A5.1):o:=A1 ⟨A5⟩
def rD(A1:a->o:=by intro AH;refine⟨0+k,?_⟩;rw[AH,JQ];refine⟨(x,0+k),?_,rfl⟩;rw[qnE];exact⟨k,abP⟩):o:=A1 AH
def jt(A1:o:=by exact setRow_heap g.w l.block arr BJ t' (0,0) CV):o:=A1
def ac8(A1:o:=by refine Gv ?_;refine D7 ?_;simp -dsimp only[simprocAttr,↓AG,zp,zr,results119];exact⟨⟨trivial,trivial,trivial⟩,rfl⟩):o:=A1
def rE(A1:AL p->o:=by intro A5;refine E3 ?_;simp -dsimp only[simprocAttr,↓AG,zp,zr,results154,Vw];refine⟨AN,RM,?_⟩;exact A5.1):o:=A1 ⟨A5⟩
def Yc(A1:AL p->o:=by intro A5;refine Ga ?_;show Hy _ _;refine C6 ?_;exact A5.1):o:=A1 ⟨A5⟩
def ae(A1:o:=by simp only[G.De];rw[GC,A9 I]):o:=A1
def rF(A1:AL p->o:=by intro A5;refine F3 ?_;simp -dsimp only[simprocAttr,↓AG,zp,zr,results135];refine⟨AN,V3 PT,?_⟩;exact A5.1):o:=A1 ⟨A5⟩
def ac9(A1:a->b->AL p->o:=by intro AH zB A5;refine cQ hm (GA.PR ⟨true,true⟩ hT 3 rfl rfl A6 ?_);simp -dsimp only[simprocAttr,↓AG,zp,AH,CS,zB];refine GA.op rfl rfl (qn6 hT rfl A6 bC rfl bB A6 rfl aaJ rfl rfl aaN A6) ?_;refine BL ?_;exact A5.1):o:=A1 AH zB ⟨A5⟩
def du(A1:a->o:=by intro AH;exact .inr ⟨q,k,e1,(AH q qnI _ e2).D0.1⟩):o:=A1 AH
def dv(A1:a->o:=by intro AH;exact .inr ⟨q,k,e1,(AH q qnJ _ e2).D0.1⟩):o:=A1 AH
def dw(A1:AL p->AL q->o:=by intro A5 Ao;refine zf true 0 func7 ntmps7 ?_;refine WQ ?_ ?_;rotate_left;exact A5.1;exact Ao.1):o:=A1 ⟨A5⟩ ⟨Ao⟩
def NI(A1:o:=by simpa using this):o:=A1
def acA(A1:AL p->o:=by intro A5;refine zf true 0 func17 ntmps17 ?_;refine LZ ?_;refine zi hr ?_;refine Ak ?_;refine BF ?_;refine FE ?_;refine BM ?_;refine zi hv ?_;refine Ak ?_;refine B9 ?_;simp -dsimp only[simprocAttr,↓AG,zp,decide_true];exact A5.1):o:=A1 ⟨A5⟩
def ju(A1:a->AL p->o:=by intro AH A5;refine zf true O.length func154 ntmps154 ?_;refine Cw ?_;refine DR AH ?_;exact A5.1):o:=A1 AH ⟨A5⟩
def rG(A1:a->b->c->d->AL p->o:=by intro AH zB CC Eg A5;refine B9 ?_;simp -dsimp only[simprocAttr,↓AG,zp,AH,gv,zB,<-CC];refine⟨trivial,?_⟩;refine Gj ?_;refine HZ Eg ?_;refine FE ?_;refine Cc ?_;exact A5.1):o:=A1 AH zB CC Eg ⟨A5⟩
def NH(A1:AL p->o:=by intro A5;refine HH ?_;refine Ak ?_;exact A5.1):o:=A1 ⟨A5⟩
def jo(A1:AL p->o:=by intro A5;refine BM ?_;refine .inr (.inl ⟨_,_,V2,.inl (B4 (zj ?_))⟩);exact A5.1):o:=A1 ⟨A5⟩
def ac1(A1:AL p->AL q->o:=by intro A5 Ao;refine U5 hT func33 rfl CW (by simp[ntmps33]) ?_;show AU prog _ _ _ ⟨83,_,_⟩;refine Cw ?_;refine Cz 1 2 (.ip none [aI f.name,AR f.blocks]) rfl Bd trivial rfl ?_ ?_;rotate_left;refine BL ?_;exact A5.1;exact Ao.1):o:=A1 ⟨A5⟩ ⟨Ao⟩
def ac2(A1:a->b->AL p->o:=by intro AH zB A5;refine Rj ?_;refine Cc ?_;refine FE ?_;refine Cc ?_;refine BM ?_;refine .inr (.inl ⟨_,_,J5,.inl (B4 (zj ?_))⟩);refine Ak ?_;refine NJ AH ?_;refine .inr (.inl ⟨_,_,yN,.inl (B4 (zj ?_))⟩);refine Ak ?_;refine Ch zB ?_;exact A5.1):o:=A1 AH zB ⟨A5⟩
def rB(A1:o:=by refine .inl ⟨_,RH _,qnQ,B4 ?_⟩;refine jb ?_;simp[Jb,e,Ss]):o:=A1
def jq(A1:a->b->o:=by intro AH zB;simp[A8.upto,AQ,A2.upto,BU,Block.AX,Edge.AX,Ins.AX,Xn,AH,zB]):o:=A1 AH zB
def aa(A1:a->b->AL p->o:=by intro AH zB A5;simp -dsimp only[simprocAttr,↓AG,zp,AH,zB,BH,HW];exact A5.1):o:=A1 AH zB ⟨A5⟩
def QS(A1:a->AL p->o:=by intro AH A5;refine B9 ?_;refine PG AH ?_;exact A5.1):o:=A1 AH ⟨A5⟩
def rC(A1:o:=by refine U1 rfl ?_;refine Pv ?_;show Hy _ _;refine YT ?_;rfl):o:=A1
def ac3(A1:a->AL p->o:=by intro AH A5;refine Cc ?_;refine Ej ?_;simp -dsimp only[simprocAttr,↓AG,zp,<-AH];refine Ak ?_;show AU prog _ _ _ ⟨_,_,[.gone,.cells [aI 0,.A3 7 [] .ex],.gone,.cells [aI 0,.A3 7 [] .ex],.cells [aI f.name,.A3 7 [] .ex]]⟩;exact A5.1):o:=A1 AH ⟨A5⟩
def rW(A1:AL p->o:=by intro A5;refine H2 ?_;refine Bw ?_;refine⟨⟨⟨w+1,es⟩,TU,aaP⟩,Ai,?_⟩;dsimp only;exact A5.1):o:=A1 ⟨A5⟩
def Yf(A1:a->AL p->o:=by intro AH A5;refine Ui ?_;refine jk AH ?_;refine Ak ?_;exact A5.1):o:=A1 AH ⟨A5⟩
def C3(A5:i->p)(Ao:j->q)(A1:AL (i->p)->AL (j->q)->o:=by intro A5 Ao;refine Cc ?_;apply Sd rfl<;>intro h;exact A5.1 h;exact Ao.1 h):o:=A1 ⟨A5⟩ ⟨Ao⟩
def k9(A1:a->AL p->o:=by intro AH A5;simp -dsimp only[simprocAttr,↓AG,zp,Bs.D',Bs.EK,Bs.E4,HJ,<-AH];exact A5.1):o:=A1 AH ⟨A5⟩
def kA(A1:AL p->o:=by intro A5;refine zf true O.length func130 ntmps130 ?_;refine Cw ?_;exact A5.1):o:=A1 ⟨A5⟩
def rX(A1:AL p->o:=by intro A5;refine Gj ?_;refine F3 ?_;simp -dsimp only[simprocAttr,↓AG,zp,zr,results117];exact A5.1):o:=A1 ⟨A5⟩
def Us(A1:a->AL p->o:=by intro AH A5;refine Ch AH ?_;refine U1 rfl ?_;exact A5.1):o:=A1 AH ⟨A5⟩
def acT(A1:a->o:=by intro AH;refine FF ?_;refine BM ?_;refine .inr (.inr ⟨_,FJ _,B4 (zj ?_)⟩);refine E9 ?_;refine jv ?_;exact⟨AN,V3 AH⟩):o:=A1 AH
def Yg(A1:AL p->o:=by intro A5;refine⟨.bool r,?_,.v trivial⟩;exact A5.1):o:=A1 ⟨A5⟩
def acU(A1:AL p->o:=by intro A5;refine U5 hT func140 rfl CW (by simp[ntmps140]) ?_;show AU prog _ _ _ ⟨42,_,_⟩;refine LZ ?_;refine .inr (.inr ⟨_,hi,B4 (zj ?_)⟩);exact A5.1):o:=A1 ⟨A5⟩
def rY(A1:o:=by simp -dsimp only[simprocAttr,↓AG,zp,zr,results27]):o:=A1
def rZ(A1:o:=by simp -dsimp only[simprocAttr,↓AG,zp,zr,results17]):o:=A1
def acV(A1:AL p->o:=by intro A5;refine B9 ?_;refine dx ?_;refine .inl ⟨_,RH 0,MK,B4 ?_⟩;refine dq ?_;simp -dsimp only[simprocAttr,↓AG,zp,zr,results137,ZM,hlen];exact A5.1):o:=A1 ⟨A5⟩
def acW(A1:a->AL p->AL q->o:=by intro AH A5 Ao;refine DR AH ?_;refine Cz 5 1 (.ip none [AA b.params,B7 b.ins,aI b.term.kind,aI b.term.arg,aI b.term.n,AA b.term.cases,An b.term.to]) rfl Bd trivial rfl ?_ ?_;rotate_left;refine BL ?_;exact A5.1;exact Ao.1):o:=A1 AH ⟨A5⟩ ⟨Ao⟩
def ai(A1:o:=by exact⟨BU _ _,trivial⟩):o:=A1
def acX(A1:AL p->o:=by intro A5;show AU prog _ _ _ ⟨_,_,(O3++[A8.cells [aI e.block,AA e.args]]).set O.length (.cells (CS (O.length+1) b b.ins (.os O3.length 1 2)))⟩;exact A5.1):o:=A1 ⟨A5⟩
def JV(A1:o:=by exact .inl q):o:=A1
def kB(A1:o:=by simp only[Jj,Bf,Dy,ND,WG];omega):o:=A1
def kC(A1:o:=by exact List.length_eq_zero_iff.1 this):o:=A1
def Rn(A1:AL p->o:=by intro A5;refine Ak ?_;refine E3 ?_;exact A5.1):o:=A1 ⟨A5⟩
def acY(A1:a->AL p->AL q->o:=by intro AH A5 Ao;refine DR AH ?_;refine Cz 9 1 (.ip none [AA b.params,B7 b.ins,aI b.term.kind,aI b.term.arg,aI b.term.n,AA b.term.cases,An b.term.to]) rfl Bd trivial rfl ?_ ?_;rotate_left;refine BL ?_;exact A5.1;exact Ao.1):o:=A1 AH ⟨A5⟩ ⟨Ao⟩
def acZ(A1:a->b->c->d->AL p->o:=by intro AH zB CC Eg A5;refine TW ?_;simp -dsimp only[simprocAttr,↓AG,zp,AH,zB,CS,LH,Kq];refine Ef ?_;refine .inl ⟨_,Hg,MK,B4 ?_⟩;simp -dsimp only[simprocAttr,↓AG,zp,CC,Eg,CS,LH,Kq];refine YZ ?_;refine Gj ?_;exact A5.1):o:=A1 AH zB CC Eg ⟨A5⟩
def Ht(A1:a->o:=by intro AH;exact af AH I):o:=A1 AH
def ra(A1:o:=by rw[(List.mem_replicate.1 hv).2];exact hf.mono I):o:=A1
def eC(A1:a->b->c->d->AL p->o:=by intro AH zB CC Eg A5;refine ML ?_;refine B9 ?_;refine QR AH zB CC ?_;refine Rm Eg ?_;exact A5.1):o:=A1 AH zB CC Eg ⟨A5⟩
def kD(A1:a->b->c->d->AL p->o:=by intro AH zB CC Eg A5;rw[AH];refine⟨O,?_,.inl ⟨rfl,rfl⟩⟩;refine WR zB CC Eg ?_;refine ON ?_;exact A5.1):o:=A1 AH zB CC Eg ⟨A5⟩
def jz(A1:AL p->o:=by intro A5;simp -dsimp only[simprocAttr,↓AG,zp,zr,results28];exact A5.1):o:=A1 ⟨A5⟩
def k6(A1:AL p->o:=by intro A5;simp -dsimp only[simprocAttr,↓AG,zp,zr,results22];exact A5.1):o:=A1 ⟨A5⟩
def rS(A1:a->b->c->o:=by intro AH zB CC;rw[KC,AY AF];refine h8 g (j % te.size) _ _ (AY AF) ?_;rw[AH,zB];simp[CC]):o:=A1 AH zB CC
def acH(A1:AL p->o:=by intro A5;refine Rk ?_;refine⟨⟨(z+1,⟨U.over.set ej N,U.seen.add ej,true⟩),D6,by rw[<-bn];exact Ca.1,by rw[VT,bn]⟩,Ai,?_⟩;exact A5.1):o:=A1 ⟨A5⟩
def acI(A1:a->AL p->AL q->o:=by intro AH A5 Ao;refine DR AH ?_;refine Cz 7 1 (.ip none [AA b.params,B7 b.ins,aI b.term.kind,aI b.term.arg,aI b.term.n,AA b.term.cases,An b.term.to]) rfl Bd trivial rfl ?_ ?_;rotate_left;refine BL ?_;exact A5.1;exact Ao.1):o:=A1 AH ⟨A5⟩ ⟨Ao⟩
def eA(A1:AL p->o:=by intro A5;refine GX ?_;refine zi hwk ?_;refine Ak ?_;exact A5.1):o:=A1 ⟨A5⟩
def Up(A1:a->b->o:=by intro AH zB;rw[AH];unfold AV;rw[zB];rfl):o:=A1 AH zB
def acJ(A1:o:=by refine E3 ?_;simp -dsimp only[simprocAttr,↓AG,zp,zr,results55];simp[AQ,A2.upto]):o:=A1
def acK(A1:AL p->o:=by intro A5;refine⟨.slice (some ⟨g.w.heap.size,0,none⟩) len len,g.push (.cells BJ e),.inl qnM,Le.push g hg _,hg.push _,rfl,?_⟩;exact A5.1):o:=A1 ⟨A5⟩
def k7(A1:AL p->AL q->o:=by intro A5 Ao;refine Bw ?_;refine⟨⟨j+1,AF⟩,Ai,?_⟩;refine Ba ?_ ?_;exact A5.1;exact Ao.1):o:=A1 ⟨A5⟩ ⟨Ao⟩
def Yd(A1:a->b->c->d->AL p->o:=by intro AH zB CC Eg A5;simp -dsimp only[simprocAttr,↓AG,zp,AH,zB,CC,Eg];exact A5.1):o:=A1 AH zB CC Eg ⟨A5⟩
def Uq(A1:a->AL p->o:=by intro AH A5;refine Ch AH ?_;refine FF ?_;exact A5.1):o:=A1 AH ⟨A5⟩
def acL(A1:a->o:=by intro AH;refine D7 ?_;refine jv ?_;refine⟨AN,⟨hz,trivial,trivial⟩,?_⟩;simp[Mach.exec,AH,SV.QB,eP]):o:=A1 AH
def acM(A1:a->o:=by intro AH;simp[A2.upto,AQ,BU,Edge.AX,Ins.AX,Block.AX,AH,show 3<O2.length from I,show 4<O2.length from I]):o:=A1 AH
def acN(A1:a->o:=by intro AH;simp[A2.upto,AQ,BU,Edge.AX,Ins.AX,Block.AX,AH,show 3<O3.length from I,show 4<O3.length from I]):o:=A1 AH
def rT(A1:o:=by simp only[MH,T4,HF,Db];rw[KD qnP,F9]):o:=A1
def rU(A1:o:=by show nx+((k+1:Nat):Int)=nx+1+(k:Int);omega):o:=A1
def acO(A1:o:=by refine BM ?_;refine .inl ⟨_,qah _,Kh,B4 ?_⟩;refine jb ?_;simp[Jb,e,Ss]):o:=A1
def rV(A1:a->b->o:=by intro AH zB;rw[<-AH];exact .mp (l:=⟨g.w.heap.size,0,_⟩) (RO zB) Nq Bd):o:=A1 AH zB
def Ye(A1:o:=by rw[q1.2.2];exact q2):o:=A1
def k8(A1:o:=by refine jn ?_;exact⟨AN,RM⟩):o:=A1
def acP(A1:o:=by exact .os (l:=⟨g1.w.heap.size,0,arr.size⟩) (RO Du) Nq Bd FM q8 hlen):o:=A1
def acQ(A1:o:=by simp -dsimp only[simprocAttr,↓AG,zp,zr,results86];exact⟨AN,FI.symm⟩):o:=A1
def acR(A1:AL p->o:=by intro A5;refine Ly hT true (O.length+1) func76 rfl CW (by simp[ntmps76]) I8 ?_;show AU prog _ _ _ ⟨7,_,_⟩;refine MM ?_;exact A5.1):o:=A1 ⟨A5⟩
def acS(A1:o:=by refine⟨o1,hl,?_⟩;rw[FI id hl (fun _=>h.ne j id c h1 h2 h3)];exact o2):o:=A1
def Ur(A1:AL p->o:=by intro A5;refine BL ?_;refine BF ?_;exact A5.1):o:=A1 ⟨A5⟩
def dz(A1:a->o:=by intro AH;show _::M.frames.tail=_;rw[AH];rfl):o:=A1 AH
def Uo(A1:a->AL p->o:=by intro AH A5;refine Ch AH ?_;refine E3 ?_;exact A5.1):o:=A1 AH ⟨A5⟩
def rO(A1:AL p->o:=by intro A5;refine D7 ?_;simp -dsimp only[simprocAttr,↓AG,zp,zr,results106];exact A5.1):o:=A1 ⟨A5⟩
def WW(A1:AL p->o:=by intro A5;refine Az ?_;refine BM ?_;exact A5.1):o:=A1 ⟨A5⟩
def rP(A1:AL p->o:=by intro A5;refine GA.fin rfl ⟨ob CW,?_⟩;refine Ak ?_;exact A5.1):o:=A1 ⟨A5⟩
def rQ(A1:AL p->o:=by intro A5;refine DW (cN ⟨false,false⟩ hT 1 rfl rfl rfl A6 ?_);refine BL ?_;exact A5.1):o:=A1 ⟨A5⟩
def acE(A1:o:=by rw[show xs.length+ys.length+(cap-(xs.length+ys.length))=cap from I]):o:=A1
def acF(A1:AL p->AL q->AL r->o:=by intro A5 Ao F2;refine⟨.slice (some ⟨g.w.heap.size,0,none⟩) (len+ys.length) Kc,g2.Am id (some l) .gone g2.w,.inl ?_,hle.trans (Le.Am EA Ew),Good.Am EA Ew trivial (fun _ _ hh=>hh.elim),?_,?_⟩;exact A5.1;exact Ao.1;exact F2.1):o:=A1 ⟨A5⟩ ⟨Ao⟩ ⟨F2⟩
def rR(A1:AL p->o:=by intro A5;refine .inr (.inl ⟨_,_,TV,.inl (B4 (zj ?_))⟩);refine Ak ?_;exact A5.1):o:=A1 ⟨A5⟩
def acG(A1:AL p->o:=by intro A5;refine FF ?_;refine BO ?_;refine Bw ?_;refine⟨⟨⟨n+1,S,AS,O⟩,IA,hS,qnK,D6,D3,l,hl,J6,qnN⟩,Ai,?_⟩;exact A5.1):o:=A1 ⟨A5⟩
def kG(A1:o:=by refine E9 ?_;exact r9):o:=A1
def acx(A1:a->o:=by intro AH;refine E3 ?_;simp -dsimp only[simprocAttr,↓AG,zp,zr,results137,Vw,AH];exact⟨AN,RM⟩):o:=A1 AH
def WY(A1:AL p->o:=by intro A5;refine BM ?_;refine D1 ?_;exact A5.1):o:=A1 ⟨A5⟩
def acy(A1:AL p->AL q->o:=by intro A5 Ao;refine WW ?_;refine zi hle ?_;refine Ak ?_;refine Cz 5 2 (.ip none [C8 Q.fns,aI Q.main]) rfl Bd trivial rfl ?_ ?_;rotate_left;refine BL ?_;rotate_left;exact A5.1;exact Ao.1):o:=A1 ⟨A5⟩ ⟨Ao⟩
def acz(A1:o:=by simp[Mu,IntKind.min,IntKind.max,IntKind.bits,IntKind.signed];omega):o:=A1
def kH(A1:o:=by rw[setRow_size];exact Gq CV):o:=A1
def WZ(A1:o:=by simp[AQ,A2.upto]):o:=A1
def Wa(A1:o:=by exact Sub.refl _):o:=A1
def rn(A1:o:=by exact .inr ⟨rfl,h1.symm,h2.symm⟩):o:=A1
def ad0(A1:o:=by refine F3 ?_;simp -dsimp only[simprocAttr,↓AG,zp,zr,results10]):o:=A1
def ad1(A1:a->b->c->d->AL p->o:=by intro AH zB CC Eg A5;refine B9 ?_;simp -dsimp only[simprocAttr,↓AG,zp,Bs.D',Bs.EK,Bs.E4,HJ,AH,BH,zB,CC,uF,Eg];refine Ef ?_;refine .inl ⟨_,Wk,OM,B4 ?_⟩;refine HH ?_;refine Gj ?_;exact A5.1):o:=A1 AH zB CC Eg ⟨A5⟩
def ad2(A1:a->b->AL p->o:=by intro AH zB A5;refine HZ AH ?_;refine FF ?_;refine Az ?_;refine Al ?_;refine BM ?_;refine .inr (.inl ⟨_,_,TH,.inl (B4 (zj ?_))⟩);refine Rm zB ?_;exact A5.1):o:=A1 AH zB ⟨A5⟩
def rp(A1:o:=by exact List.length_eq_zero_iff.1 I):o:=A1
def rq(A1:o:=by exact .inr ⟨fun q=>e q.symm,hd⟩):o:=A1
def ad3(A1:o:=by rw[<-LX,show len+ys.length+(Kc-(len+ys.length))=Kc from I]):o:=A1
def ad4(A1:AL p->o:=by intro A5;refine gq ⟨false,false⟩ hT 4 rfl rfl rfl A6 ?_;refine BL ?_;refine aea rfl rfl A6 rfl rfl ?_;refine Ki ?_;exact A5.1):o:=A1 ⟨A5⟩
def kJ(A1:o:=by exact⟨EC,trivial⟩):o:=A1
def ad5(A1:o:=by simp -dsimp only[simprocAttr,↓AG,zp,zr,results141];trivial):o:=A1
def ad6(A1:o:=by exact .inr ⟨l,arr,t,(DS hc.env).2 (.inl ⟨q,k1⟩),k2⟩):o:=A1
def ad7(A1:a->o:=by intro AH;simp -dsimp only[simprocAttr,↓AG,zp,zr,results82,AH,B2];exact⟨P9,trivial⟩):o:=A1 AH
def Yj(A1:AL p->o:=by intro A5;refine Cw ?_;refine BF ?_;exact A5.1):o:=A1 ⟨A5⟩
def ad8(A1:a->b->o:=by intro AH zB;refine E9 ?_;simp -dsimp only[simprocAttr,↓AG,zp,Sf,results33,JG,Mq,Hl,RE,RG,RF,AH];exact zB):o:=A1 AH zB
def kK(A1:a->AL p->o:=by intro AH A5;simp -dsimp only[simprocAttr,↓AG,zp,AH,BH,HW];exact A5.1):o:=A1 AH ⟨A5⟩
def aj(A1:o:=by exact⟨iw,rfl⟩):o:=A1
def ad9(A1:a->b->c->AL p->o:=by intro AH zB CC A5;refine FF ?_;refine Dn ?_;simp -dsimp only[simprocAttr,↓AG,zp,Bs.D',Bs.EK,Bs.E4,HJ,AH,BH,zB,CC];refine Ef ?_;refine .inl ⟨_,qk9,OM,B4 ?_⟩;exact A5.1):o:=A1 AH zB CC ⟨A5⟩
def adA(A1:AL p->AL q->o:=by intro A5 Ao;refine BM ?_;refine zi IE ?_;refine Ak ?_;refine Cz 8 5 (.ip none [aI g.name,AR g.blocks]) rfl Bd trivial rfl ?_ ?_;rotate_left;refine BL ?_;exact A5.1;exact Ao.1):o:=A1 ⟨A5⟩ ⟨Ao⟩
def acj(A1:a->AL p->o:=by intro AH A5;refine B9 ?_;simp -dsimp only[simprocAttr,↓AG,zp,AH,HW];refine Ef ?_;refine .inl ⟨_,heq,aaG,B4 ?_⟩;refine Ki ?_;exact A5.1):o:=A1 AH ⟨A5⟩
def Yh(A1:AL p->o:=by intro A5;refine Cc ?_;refine BF ?_;exact A5.1):o:=A1 ⟨A5⟩
def ack(A1:o:=by rw[cell_of_row CV];simp[HU,show off+j<arr.size from I]):o:=A1
def acm(A1:a->b->c->o:=by intro AH zB CC;refine dq ?_;simp -dsimp only[simprocAttr,↓AG,zp,zr,results135,ZM];refine⟨AN,Ss,?_⟩;simp[I',AH,zB,CC]):o:=A1 AH zB CC
def re(A1:o:=by exact⟨h,B6 _,fun q=>.inl q⟩):o:=A1
def kE(A1:AL p->o:=by intro A5;refine Gj ?_;refine E3 ?_;refine abu ?_;exact A5.1):o:=A1 ⟨A5⟩
def acn(A1:o:=by exact⟨.agg BJ,by simp[execOp,ho,Aj],q2.agg (q3 h9)⟩):o:=A1
def rf(A1:AL p->o:=by intro A5;refine⟨?_,zb hg he Gz trivial _⟩;show g.w.cell? _=_;exact A5.1):o:=A1 ⟨A5⟩
def WX(A1:a->AL p->o:=by intro AH A5;refine Dn ?_;refine PG AH ?_;exact A5.1):o:=A1 AH ⟨A5⟩
def rh(A1:AL p->o:=by intro A5;refine Ly hT true (O'.length) func83 rfl CW dO I8 ?_;exact A5.1):o:=A1 ⟨A5⟩
def aco(A1:AL p->o:=by intro A5;refine BM ?_;refine .inl ⟨_,Hu,dJ,B4 ?_⟩;refine BL ?_;refine .inl ⟨_,Gn,dJ,B4 ?_⟩;refine Ki ?_;exact A5.1):o:=A1 ⟨A5⟩
def acp(A1:AL p->o:=by intro A5;refine B9 ?_;simp -dsimp only[simprocAttr,↓AG,zp,<-pZ];refine Ef ?_;refine zi BQ ?_;refine Ak ?_;exact A5.1):o:=A1 ⟨A5⟩
def acq(A1:AL p->o:=by intro A5;refine dx ?_;refine Gj ?_;refine F3 ?_;simp -dsimp only[simprocAttr,↓AG,zp,zr,results137,hlen];exact A5.1):o:=A1 ⟨A5⟩
def ri(A1:o:=by exact⟨g,σ,h1,h2,hq _ _ h3⟩):o:=A1
def eF(A1:a->b->o:=by intro AH zB;simp[A2.upto,AQ,AH,zB,BU,Edge.AX]):o:=A1 AH zB
def rj(A1:AL p->o:=by intro A5;refine Al ?_;refine BM ?_;refine Ef ?_;refine zi PS ?_;exact A5.1):o:=A1 ⟨A5⟩
def kF(A1:o:=by simp[Instr.sliceBounds]):o:=A1
def acr(A1:o:=by rw[cell_of_row CV];simp[HU,show j<arr.size from I]):o:=A1
def rk(A1:AL p->o:=by intro A5;simp -dsimp only[Mo,LW,Nat.reduceEqDiff,reduceCtorEq];exact A5.1):o:=A1 ⟨A5⟩
def rl(A1:AL p->o:=by intro A5;refine B9 ?_;simp -dsimp only[simprocAttr,↓AG,zp,d0];exact A5.1):o:=A1 ⟨A5⟩
def Yi(A1:AL p->o:=by intro A5;refine YZ ?_;refine Ak ?_;exact A5.1):o:=A1 ⟨A5⟩
def acs(A1:AL p->o:=by intro A5;refine Bw ?_;refine⟨⟨⟨k+1,O3.length,ids++[tid],ss++[O.length+1],O7⟩,AF,jC⟩,Ai,?_⟩;exact A5.1):o:=A1 ⟨A5⟩
def acu(A1:a->b->c->o:=by intro AH zB CC;simp[execOp,AH,Instr.buildSlice,run_underlying hu,Go.sizeOf,typeInfo,zB,Instr.fill,Go.newRow,G.push,CC]):o:=A1 AH zB CC
def rm(A1:o:=by exact .nil (fun id e=>db) A6):o:=A1
def acv(A1:o:=by rw[A4 I,A4 I,A4 I,A4 I,A4 I,A9 I]):o:=A1
def acw(A1:o:=by simp[A8.upto,AQ,A2.upto,BU,Block.AX,Ins.AX,Edge.AX]):o:=A1
def aca(A1:AL p->o:=by intro A5;show AU prog _ _ _ ⟨_,_,O2.set O.length (.cells (CS (O.length+1) b b.ins (An b.term.to)))⟩;exact A5.1):o:=A1 ⟨A5⟩
def acb(A1:o:=by exact⟨l,arr,t,(bO id BN).trans p1,p2,p3,p4,p5⟩):o:=A1
def acd(A1:o:=by simp only[binOp];simp[Op.equal,Op.maxDepth,h 9999]):o:=A1
def ace(A1:a->b->o:=by intro AH zB;simp only[G.Am,AH,G.alloc,zB,Mode.post];rw[List.set_append,A9 (by rw[<-hO];exact ez)]):o:=A1 AH zB
def acf(A1:o:=by refine⟨I,?_⟩;rw[Ap I,Dg (B6 _),FB];rfl):o:=A1
def acg(A1:o:=by rw[Ap (fun e=>hX e),Ap (fun e=>o2 e)];exact hf.1):o:=A1
def ach(A1:o:=by rw[YA,A9 hj,Fp];exact uu _ _ hc.few (AF i j F4)):o:=A1
def rb(A1:AL p->o:=by intro A5;simp -dsimp only[simprocAttr,↓AG,zp,zr,results118];exact A5.1):o:=A1 ⟨A5⟩
def KL(A1:AL p->o:=by intro A5;refine U1 rfl ?_;exact A5.1):o:=A1 ⟨A5⟩
def aci(A1:o:=by exact⟨_,rest,hC,CI.of_eq rfl (by rw[TG]),Ai⟩):o:=A1
def adE(A1:AL p->o:=by intro A5;refine BL ?_;refine GA.PR ⟨false,false⟩ hT 1 rfl rfl A6 ?_;refine BL ?_;refine rP ?_;exact A5.1):o:=A1 ⟨A5⟩
def ru(A1:AL p->o:=by intro A5;unfold Cu;rw[qnD,Bc,HV];simp only[qnF,qnG,WC,FA];exact A5.1):o:=A1 ⟨A5⟩
def adF(A1:o:=by rw[cell_of_row CV];simp[show off<arr.size from I]):o:=A1
def adG(A1:o:=by refine BM ?_;refine zi (SW i.n 0 255) ?_;exact kG):o:=A1
def adH(A1:a->o:=by intro AH;simp only[Sem.run_bind,Sem.run_map,AH,Result.andThen_ok,Sem.run_pure]):o:=A1 AH
def Uu(A1:o:=by exact .refl _):o:=A1
def adI(A1:a->o:=by intro AH;simp -dsimp only[simprocAttr,↓AG,zp,zr,results112,AH,B2];exact kJ):o:=A1 AH
def eH(A1:o:=by exact⟨rfl,rfl⟩):o:=A1
def ry(A1:o:=by simp[AQ,A2.upto,BU,Block.AX]):o:=A1
def adJ(A1:o:=by show 0<=(C4 _ _ _).2.1∧(C4 _ _ _).2.1<=_;omega):o:=A1
def adK(A1:o:=by exact .A3 A6 A6 A6 A6 A6 f Rh Rh trivial):o:=A1
def adL(A1:a->b->o:=by intro AH zB;simp[Instr.sliceAt,run_underlying hu,Instr.slice,AH,bounds,zB,show Dm≠0 from I]):o:=A1 AH zB
def rz(A1:AL p->o:=by intro A5;simp -dsimp only[simprocAttr,↓AG,zp,zr,results26];exact A5.1):o:=A1 ⟨A5⟩
def adM(A1:o:=by exact⟨⟨BU _ _,trivial⟩,trivial,trivial⟩):o:=A1
def adN(A1:a->AL p->o:=by intro AH A5;refine D1 ?_;rw[AH];refine D7 ?_;simp -dsimp only[simprocAttr,↓AG,zp,Sf,results146,JG,Mq,Hl,RE,RG,RF];exact A5.1):o:=A1 AH ⟨A5⟩
def KM(A1:o:=by simp;omega):o:=A1
def adO(A1:AL p->AL q->AL r->o:=by intro A5 Ao F2;refine⟨.slice (some ⟨l.block,0,none⟩) (len+ys.length) cap,g1.ET id l (.cells ds),.inl ?_,hle.trans (Le.ET EA Gw DT trivial Bd),Good.ET EA Gw DT,?_,?_⟩;exact A5.1;exact Ao.1;exact F2.1):o:=A1 ⟨A5⟩ ⟨Ao⟩ ⟨F2⟩
def adP(A1:AL p->o:=by intro A5;refine HA ?_;refine .inr (.inl ⟨_,_,B0,.inl (B4 (zj ?_))⟩);refine Ak ?_;refine Bw ?_;exact A5.1):o:=A1 ⟨A5⟩
def adQ(A1:AL p->o:=by intro A5;show AU prog _ _ _ ⟨_,_,O++[A8.cells (CS (O.length+1) b [] (An b.term.to)),.spare 0]⟩;exact A5.1):o:=A1 ⟨A5⟩
def kM(A1:AL p->AL q->o:=by intro A5 Ao;refine⟨⟨k+1,AF,Af⟩,Ai,?_⟩;refine Ba ?_ ?_;exact A5.1;exact Ao.1):o:=A1 ⟨A5⟩ ⟨Ao⟩
def adR(A1:o:=by rw[B2];exact Gr h.upto h.Fo (fun q=>K1 q h1)):o:=A1
def adS(A1:o:=by refine⟨p1,?_⟩;rw[Ap I,EV p2];exact p3):o:=A1
def adT(A1:o:=by exact .inr ⟨l,arr,t,EX.2 ⟨BN,q1⟩,q2⟩):o:=A1
def eI(A1:o:=by refine YT ?_;rfl):o:=A1
def s6(A1:o:=by exact⟨trivial,trivial⟩):o:=A1
def ak(A1:AL p->o:=by intro A5;refine D1 ?_;refine Bw ?_;exact A5.1):o:=A1 ⟨A5⟩
def kL(A1:o:=by simp only[CE];omega):o:=A1
def adB(A1:a->AL p->o:=by intro AH A5;refine Gv ?_;refine KL ?_;refine HA ?_;refine .inr (.inl ⟨_,_,P7,.inl (B4 ?_)⟩);refine Gi AH ?_;exact A5.1):o:=A1 AH ⟨A5⟩
def adC(A1:o:=by rw[addr_add];exact .ms q1 q2 q3 I I I):o:=A1
def adD(A1:o:=by rw[A4 I,A4 I,A4 I,A4 I,A9 I]):o:=A1
def rr(A1:AL p->o:=by intro A5;refine .inr (.inl ⟨_,_,P7,.inl (B4 (zj ?_))⟩);exact A5.1):o:=A1 ⟨A5⟩
end Go
