/-
  Texts bound together by a program of mine: YtkhnjeblbiocaaaT20, YtkhnjeblbiocaaaT21, YtkhnjeblbiocaaaT22, YtkhnjeblbiocaaaPu, YtkhnjeblbiocaaaPv, YtkhnjeblbiocaaaPw, YtkhnjeblbiocaaaPx, YtkhnjeblbiocaaaT23, YtkhnjeblbiocaaaT37, YtkhnjeblbiocaaaT38.
-/
import Derived.Test.YtkhnjeblbiocaaaJ3
set_option linter.all false
set_option maxRecDepth 100000
set_option maxHeartbeats 4000000

namespace Go.Proofs.Ytkhnjeblbiocaaa
open Go.Av
theorem splice_full{cs xs:List AVal}{n:Nat}(h:xs.length=n)(hc:cs.length=n):splice cs 0 xs=xs:=by
 simp [splice]
 omega
theorem cells_shareCell{x:AVal}(h:x.flat):x.cells.map AVal.shareCell=x.share.cells:=by
 cases x<;>rfl
theorem rawS_shareCells(es:List (Int×SV))(k:Int):(rawS es k).cells.map AVal.shareCell=(getS es k).enc.cells:=by
 rw [cells_shareCell (rawS_flat es k),rawS_share]
theorem end_trap{u:Unt}{m:Mach}{O:List AObj}(hup:∀o∈O,o.upto O.length)(h0:O[2]?=some (.cells (mcells u m)))(f:Fr)(hf:O[f.fid]?=some (.cells (fcells f)))(hv:O[f.mid]?=some (.map (.int .i64) (f.vals.map ent)))
  (hu:∀e∈f.vals,SV.Under O.length e.2) (nfm:f.fid≠f.mid) (t:Term) (hk:t.kind=4):ECall Try.prog 72 O [.mp 2 0,.mp f.fid 0,t.enc] (fun r O'=>r=.tup []∧O'=O.set 2 (.cells (mcells u (m.stop t.n 0)))):=by
 have hfl:=lt_of_getElem? hf
 have hvl:=lt_of_getElem? hv
 have hml0:=lt_of_getElem? h0
 have hff:=hf
 unfold fcells at hff
 have hraw:(Option.map SV.enc (lookS f.vals t.arg)).getD (.agg [aI 0,aI 0,.lst 4 [] .ex,.v (.pointer none)])=rawS f.vals t.arg:=rfl
 have hspl:splice [AVal.v (.int .i64 0),.v (.int .i64 0),.lst 4 [] .ex,.v (.pointer none)] 0 (rawS f.vals t.arg).cells=(rawS f.vals t.arg).cells:=splice_full (rawS_len _ _) rfl
 have hsh:=rawS_shareCells f.vals t.arg
 have hVu:=(getS_under hu t.arg).enc_upto
 generalize getS f.vals t.arg=V at *
 rw [SV.enc_eq] at hVu
 rw [SV.enc_cells] at hsh
 have hstop:=stop_spec hup h0 t.n 0
 have hup2:=uptoO_cells hup h0 (ds:=mcells u (m.stop t.n 0)) (fun h=>mcells_upto h rfl)
 have htk:=take_set_len (O:=O) (k:=2) (x:=.cells (mcells u (m.stop t.n 0)))
 refine zf true O.length Try.func72 Try.ntmps72 ?_
 dsimp only [Tmp,TypeId,slotsOf]
 refine zh1 (za0 ?_)
 refine awp_local 5 ([aI t.kind,aI t.arg,aI t.n,eIs t.cases,eEdges t.to]) [(0,.mp 2 0),(1,.mp f.fid 0),(5,.ip none [aI t.kind,aI t.arg,aI t.n,eIs t.cases,eEdges t.to])] rfl (by rfl) (by omega) (by simp [putS,dropS,Go.Av.look]) ?_ ?_ ?_
 ·exact hup
 ·simp [AVal.upto,uptoL,hfl,hml0,aI_upto,Edge.map_upto]
 refine zg1 ?_
 simp -dsimp only [simprocAttr,↓vpre,zp,hff,hv,look_ent,hraw,rawS_flat,rawS_len,hspl]
 refine⟨orderB_ren [f.fid,f.mid] O.length [.pure,.pure,.pure,.rd 0,.pure,.pure,.rd 1,.wr 2 [],.wr 3 [2]] (by simp [nfm]) (by simp;omega) rfl rfl (by kernel_rfl),at_intro ?_⟩
 simp -dsimp only [vend,ne_eq,Nat.reduceEqDiff,reduceCtorEq]
 refine awp_local 6 [aI V.kind,aI V.n,.lst 4 (V.list.map SV.enc) .sh,eP V.arr] [(0,.mp 2 0),(1,.mp f.fid 0),(5,.ip none [aI t.kind,aI t.arg,aI t.n,eIs t.cases,eEdges t.to]),(6,.ip none [aI V.kind,aI V.n,.lst 4 (V.list.map SV.enc) .sh,eP V.arr])] rfl hsh (by omega) (by simp [putS,dropS,Go.Av.look]) hup ?_ ?_
 ·simp only [uptoL,AVal.upto,true_and,and_true] at hVu
  simp [AVal.upto,uptoL,hfl,hml0,aI_upto,Edge.map_upto,hVu]
 refine zh1 (za0 ?_)
 refine awp_block ?_
 refine zh1 (za0 ?_)
 apply zk0 rfl<;>intro h
 ·refine zh0 ?_
  refine .inr (.inl ⟨_,_,hstop,.inl (later_intro (zj ?_))⟩)
  (refine at_intro ?_;simp -dsimp only [vend,ne_eq,Nat.reduceEqDiff,reduceCtorEq])
  skip
  simp -dsimp only [simprocAttr,↓vpre,zp,zr,Try.results72,htk,List.length_set]
  exact⟨hup2,trivial⟩
 exact af h (by omega)
theorem end_jump{u:Unt}{m:Mach}{O:List AObj}(hup:∀o∈O,o.upto O.length)(h0:O[2]?=some (.cells (mcells u m)))(f:Fr)(hf:O[f.fid]?=some (.cells (fcells f)))(hv:O[f.mid]?=some (.map (.int .i64) (f.vals.map ent)))
  (hu:∀e∈f.vals,SV.Under O.length e.2) (nfm:f.fid≠f.mid) (t:Term) (hk:t.kind=1) (e:Edge) (he:t.to[0]?=some e) {O':List AObj} (hC:ECall Try.prog 92 O [.mp 2 0,.mp f.fid 0,e.enc] (fun r O1=>r=.tup []∧O1=O')) (hlen:O.length=O'.length) (hup':∀o∈O',o.upto O'.length):ECall Try.prog 72 O [.mp 2 0,.mp f.fid 0,t.enc] (fun r O1=>r=.tup []∧O1=O'):=by
 have hfl:=lt_of_getElem? hf
 have hvl:=lt_of_getElem? hv
 have hml0:=lt_of_getElem? h0
 have hff:=hf
 unfold fcells at hff
 have hraw:(Option.map SV.enc (lookS f.vals t.arg)).getD (.agg [aI 0,aI 0,.lst 4 [] .ex,.v (.pointer none)])=rawS f.vals t.arg:=rfl
 have hspl:splice [AVal.v (.int .i64 0),.v (.int .i64 0),.lst 4 [] .ex,.v (.pointer none)] 0 (rawS f.vals t.arg).cells=(rawS f.vals t.arg).cells:=splice_full (rawS_len _ _) rfl
 have hsh:=rawS_shareCells f.vals t.arg
 have hVu:=(getS_under hu t.arg).enc_upto
 generalize getS f.vals t.arg=V at *
 rw [SV.enc_eq] at hVu
 rw [SV.enc_cells] at hsh
 refine zf true O.length Try.func72 Try.ntmps72 ?_
 dsimp only [Tmp,TypeId,slotsOf]
 refine zh1 (za0 ?_)
 refine awp_local 5 ([aI t.kind,aI t.arg,aI t.n,eIs t.cases,eEdges t.to]) [(0,.mp 2 0),(1,.mp f.fid 0),(5,.ip none [aI t.kind,aI t.arg,aI t.n,eIs t.cases,eEdges t.to])] rfl (by rfl) (by omega) (by simp [putS,dropS,Go.Av.look]) ?_ ?_ ?_
 ·exact hup
 ·simp [AVal.upto,uptoL,hfl,hml0,aI_upto,Edge.map_upto]
 refine zg1 ?_
 simp -dsimp only [simprocAttr,↓vpre,zp,hff,hv,look_ent,hraw,rawS_flat,rawS_len,hspl]
 refine⟨orderB_ren [f.fid,f.mid] O.length [.pure,.pure,.pure,.rd 0,.pure,.pure,.rd 1,.wr 2 [],.wr 3 [2]] (by simp [nfm]) (by simp;omega) rfl rfl (by kernel_rfl),at_intro ?_⟩
 simp -dsimp only [vend,ne_eq,Nat.reduceEqDiff,reduceCtorEq]
 refine awp_local 6 [aI V.kind,aI V.n,.lst 4 (V.list.map SV.enc) .sh,eP V.arr] [(0,.mp 2 0),(1,.mp f.fid 0),(5,.ip none [aI t.kind,aI t.arg,aI t.n,eIs t.cases,eEdges t.to]),(6,.ip none [aI V.kind,aI V.n,.lst 4 (V.list.map SV.enc) .sh,eP V.arr])] rfl hsh (by omega) (by simp [putS,dropS,Go.Av.look]) hup ?_ ?_
 ·simp only [uptoL,AVal.upto,true_and,and_true] at hVu
  simp [AVal.upto,uptoL,hfl,hml0,aI_upto,Edge.map_upto,hVu]
 refine zh1 (za0 ?_)
 refine awp_block ?_
 refine zh1 (za0 ?_)
 apply zk0 rfl<;>intro h
 ·exact ab h (by omega)
 refine zh1 (za0 ?_)
 apply zk0 rfl<;>intro h
 ·refine zg0 ?_
  simp -dsimp only [simprocAttr,↓vpre,zp,he]
  refine .inr (.inl ⟨_,_,hC,.inl (later_intro (zj ?_))⟩)
  (refine at_intro ?_;simp -dsimp only [vend,ne_eq,Nat.reduceEqDiff,reduceCtorEq])
  skip
  simp -dsimp only [simprocAttr,↓vpre,zp,zr,Try.results72,hlen,List.take_length]
  exact⟨hup',trivial⟩
 exact af h (by omega)
theorem end_ret{u:Unt}{m:Mach}{O:List AObj}(hup:∀o∈O,o.upto O.length)(h0:O[2]?=some (.cells (mcells u m)))(f:Fr)(hf:O[f.fid]?=some (.cells (fcells f)))(hv:O[f.mid]?=some (.map (.int .i64) (f.vals.map ent)))
  (hu:∀e∈f.vals,SV.Under O.length e.2) (nfm:f.fid≠f.mid) (t:Term) (hk:t.kind=0) {O':List AObj} (hC:ECall Try.prog 93 O [.mp 2 0,.mp f.fid 0,(getS f.vals t.arg).enc] (fun r O1=>r=.tup []∧O1=O')) (hlen:O.length=O'.length) (hup':∀o∈O',o.upto O'.length):ECall Try.prog 72 O [.mp 2 0,.mp f.fid 0,t.enc] (fun r O1=>r=.tup []∧O1=O'):=by
 have hfl:=lt_of_getElem? hf
 have hvl:=lt_of_getElem? hv
 have hml0:=lt_of_getElem? h0
 have hff:=hf
 unfold fcells at hff
 have hraw:(Option.map SV.enc (lookS f.vals t.arg)).getD (.agg [aI 0,aI 0,.lst 4 [] .ex,.v (.pointer none)])=rawS f.vals t.arg:=rfl
 have hspl:splice [AVal.v (.int .i64 0),.v (.int .i64 0),.lst 4 [] .ex,.v (.pointer none)] 0 (rawS f.vals t.arg).cells=(rawS f.vals t.arg).cells:=splice_full (rawS_len _ _) rfl
 have hsh:=rawS_shareCells f.vals t.arg
 have hVu:=(getS_under hu t.arg).enc_upto
 generalize getS f.vals t.arg=V at *
 rw [SV.enc_eq] at hVu
 rw [SV.enc_cells] at hsh
 refine zf true O.length Try.func72 Try.ntmps72 ?_
 dsimp only [Tmp,TypeId,slotsOf]
 refine zh1 (za0 ?_)
 refine awp_local 5 ([aI t.kind,aI t.arg,aI t.n,eIs t.cases,eEdges t.to]) [(0,.mp 2 0),(1,.mp f.fid 0),(5,.ip none [aI t.kind,aI t.arg,aI t.n,eIs t.cases,eEdges t.to])] rfl (by rfl) (by omega) (by simp [putS,dropS,Go.Av.look]) ?_ ?_ ?_
 ·exact hup
 ·simp [AVal.upto,uptoL,hfl,hml0,aI_upto,Edge.map_upto]
 refine zg1 ?_
 simp -dsimp only [simprocAttr,↓vpre,zp,hff,hv,look_ent,hraw,rawS_flat,rawS_len,hspl]
 refine⟨orderB_ren [f.fid,f.mid] O.length [.pure,.pure,.pure,.rd 0,.pure,.pure,.rd 1,.wr 2 [],.wr 3 [2]] (by simp [nfm]) (by simp;omega) rfl rfl (by kernel_rfl),at_intro ?_⟩
 simp -dsimp only [vend,ne_eq,Nat.reduceEqDiff,reduceCtorEq]
 refine awp_local 6 [aI V.kind,aI V.n,.lst 4 (V.list.map SV.enc) .sh,eP V.arr] [(0,.mp 2 0),(1,.mp f.fid 0),(5,.ip none [aI t.kind,aI t.arg,aI t.n,eIs t.cases,eEdges t.to]),(6,.ip none [aI V.kind,aI V.n,.lst 4 (V.list.map SV.enc) .sh,eP V.arr])] rfl hsh (by omega) (by simp [putS,dropS,Go.Av.look]) hup ?_ ?_
 ·simp only [uptoL,AVal.upto,true_and,and_true] at hVu
  simp [AVal.upto,uptoL,hfl,hml0,aI_upto,Edge.map_upto,hVu]
 refine zh1 (za0 ?_)
 refine awp_block ?_
 refine zh1 (za0 ?_)
 apply zk0 rfl<;>intro h
 ·exact ab h (by omega)
 refine zh1 (za0 ?_)
 apply zk0 rfl<;>intro h
 ·exact ab h (by omega)
 refine zh1 (za0 ?_)
 apply zk0 rfl<;>intro h
 ·refine zh0 ?_
  refine .inr (.inl ⟨_,_,hC,.inl (later_intro (zj ?_))⟩)
  (refine at_intro ?_;simp -dsimp only [vend,ne_eq,Nat.reduceEqDiff,reduceCtorEq])
  skip
  simp -dsimp only [simprocAttr,↓vpre,zp,zr,Try.results72,hlen,List.take_length]
  exact⟨hup',trivial⟩
 exact af h (by omega)
theorem end_type{u:Unt}{m:Mach}{O:List AObj}(hup:∀o∈O,o.upto O.length)(h0:O[2]?=some (.cells (mcells u m)))(f:Fr)(hf:O[f.fid]?=some (.cells (fcells f)))(hv:O[f.mid]?=some (.map (.int .i64) (f.vals.map ent)))
  (hu:∀e∈f.vals,SV.Under O.length e.2) (nfm:f.fid≠f.mid) (t:Term) (hk:t.kind≠0∧t.kind≠1∧t.kind≠4) (hV:(getS f.vals t.arg).kind≠0):ECall Try.prog 72 O [.mp 2 0,.mp f.fid 0,t.enc] (fun r O'=>r=.tup []∧O'=O.set 2 (.cells (mcells u (m.stop 5 0)))):=by
 have hfl:=lt_of_getElem? hf
 have hvl:=lt_of_getElem? hv
 have hml0:=lt_of_getElem? h0
 have hff:=hf
 unfold fcells at hff
 have hraw:(Option.map SV.enc (lookS f.vals t.arg)).getD (.agg [aI 0,aI 0,.lst 4 [] .ex,.v (.pointer none)])=rawS f.vals t.arg:=rfl
 have hspl:splice [AVal.v (.int .i64 0),.v (.int .i64 0),.lst 4 [] .ex,.v (.pointer none)] 0 (rawS f.vals t.arg).cells=(rawS f.vals t.arg).cells:=splice_full (rawS_len _ _) rfl
 have hsh:=rawS_shareCells f.vals t.arg
 have hVu:=(getS_under hu t.arg).enc_upto
 generalize getS f.vals t.arg=V at *
 rw [SV.enc_eq] at hVu
 rw [SV.enc_cells] at hsh
 have hstop:=stop_spec hup h0 5 0
 have hup2:=uptoO_cells hup h0 (ds:=mcells u (m.stop 5 0)) (fun h=>mcells_upto h rfl)
 have htk:=take_set_len (O:=O) (k:=2) (x:=.cells (mcells u (m.stop 5 0)))
 have hd:decide (V.kind=0)=false:=decide_eq_false hV
 refine zf true O.length Try.func72 Try.ntmps72 ?_
 dsimp only [Tmp,TypeId,slotsOf]
 refine zh1 (za0 ?_)
 refine awp_local 5 ([aI t.kind,aI t.arg,aI t.n,eIs t.cases,eEdges t.to]) [(0,.mp 2 0),(1,.mp f.fid 0),(5,.ip none [aI t.kind,aI t.arg,aI t.n,eIs t.cases,eEdges t.to])] rfl (by rfl) (by omega) (by simp [putS,dropS,Go.Av.look]) ?_ ?_ ?_
 ·exact hup
 ·simp [AVal.upto,uptoL,hfl,hml0,aI_upto,Edge.map_upto]
 refine zg1 ?_
 simp -dsimp only [simprocAttr,↓vpre,zp,hff,hv,look_ent,hraw,rawS_flat,rawS_len,hspl]
 refine⟨orderB_ren [f.fid,f.mid] O.length [.pure,.pure,.pure,.rd 0,.pure,.pure,.rd 1,.wr 2 [],.wr 3 [2]] (by simp [nfm]) (by simp;omega) rfl rfl (by kernel_rfl),at_intro ?_⟩
 simp -dsimp only [vend,ne_eq,Nat.reduceEqDiff,reduceCtorEq]
 refine awp_local 6 [aI V.kind,aI V.n,.lst 4 (V.list.map SV.enc) .sh,eP V.arr] [(0,.mp 2 0),(1,.mp f.fid 0),(5,.ip none [aI t.kind,aI t.arg,aI t.n,eIs t.cases,eEdges t.to]),(6,.ip none [aI V.kind,aI V.n,.lst 4 (V.list.map SV.enc) .sh,eP V.arr])] rfl hsh (by omega) (by simp [putS,dropS,Go.Av.look]) hup ?_ ?_
 ·simp only [uptoL,AVal.upto,true_and,and_true] at hVu
  simp [AVal.upto,uptoL,hfl,hml0,aI_upto,Edge.map_upto,hVu]
 refine zh1 (za0 ?_)
 refine awp_block ?_
 refine zh1 (za0 ?_)
 apply zk0 rfl<;>intro h
 ·exact ab h (by omega)
 refine zh1 (za0 ?_)
 apply zk0 rfl<;>intro h
 ·exact ab h (by omega)
 refine zh1 (za0 ?_)
 apply zk0 rfl<;>intro h
 ·exact ab h (by omega)
 refine zg2 ?_
 simp -dsimp only [simprocAttr,↓vpre,zp,hd]
 refine za0 ?_
 refine zw0 rfl ?_
 refine zh1 ?_
 refine .inr (.inl ⟨_,_,hstop,.inl (later_intro (zj ?_))⟩)
 refine za0 ?_
 refine awp_ret ?_
 simp -dsimp only [simprocAttr,↓vpre,zp,zr,Try.results72,htk,List.length_set]
 exact⟨hup2,trivial⟩
theorem end_choice{u:Unt}{m:Mach}{O:List AObj}(hup:∀o∈O,o.upto O.length)(h0:O[2]?=some (.cells (mcells u m)))(f:Fr)(hf:O[f.fid]?=some (.cells (fcells f)))(hv:O[f.mid]?=some (.map (.int .i64) (f.vals.map ent)))
  (hu:∀e∈f.vals,SV.Under O.length e.2) (nfm:f.fid≠f.mid) (t:Term) (hk:t.kind≠0∧t.kind≠1∧t.kind≠4) (hV:(getS f.vals t.arg).kind=0) (hcl:t.cases.length≤2 ^ 60) (e:Edge) (he:t.to[choiceM t (getS f.vals t.arg).n]?=some e) {O':List AObj} (hC:ECall Try.prog 92 O [.mp 2 0,.mp f.fid 0,e.enc] (fun r O1=>r=.tup []∧O1=O')) (hlen:O.length=O'.length) (hup':∀o∈O',o.upto O'.length):ECall Try.prog 72 O [.mp 2 0,.mp f.fid 0,t.enc] (fun r O1=>r=.tup []∧O1=O'):=by
 have hfl:=lt_of_getElem? hf
 have hvl:=lt_of_getElem? hv
 have hml0:=lt_of_getElem? h0
 have hff:=hf
 unfold fcells at hff
 have hraw:(Option.map SV.enc (lookS f.vals t.arg)).getD (.agg [aI 0,aI 0,.lst 4 [] .ex,.v (.pointer none)])=rawS f.vals t.arg:=rfl
 have hspl:splice [AVal.v (.int .i64 0),.v (.int .i64 0),.lst 4 [] .ex,.v (.pointer none)] 0 (rawS f.vals t.arg).cells=(rawS f.vals t.arg).cells:=splice_full (rawS_len _ _) rfl
 have hsh:=rawS_shareCells f.vals t.arg
 have hVu:=(getS_under hu t.arg).enc_upto
 generalize getS f.vals t.arg=V at *
 rw [SV.enc_eq] at hVu
 rw [SV.enc_cells] at hsh
 have hch:=choice_spec t V.n hcl
 generalize choiceM t V.n=q at *
 have hd:decide (V.kind=0)=true:=decide_eq_true hV
 refine zf true O.length Try.func72 Try.ntmps72 ?_
 dsimp only [Tmp,TypeId,slotsOf]
 refine zh1 (za0 ?_)
 refine awp_local 5 ([aI t.kind,aI t.arg,aI t.n,eIs t.cases,eEdges t.to]) [(0,.mp 2 0),(1,.mp f.fid 0),(5,.ip none [aI t.kind,aI t.arg,aI t.n,eIs t.cases,eEdges t.to])] rfl (by rfl) (by omega) (by simp [putS,dropS,Go.Av.look]) ?_ ?_ ?_
 ·exact hup
 ·simp [AVal.upto,uptoL,hfl,hml0,aI_upto,Edge.map_upto]
 refine zg1 ?_
 simp -dsimp only [simprocAttr,↓vpre,zp,hff,hv,look_ent,hraw,rawS_flat,rawS_len,hspl]
 refine⟨orderB_ren [f.fid,f.mid] O.length [.pure,.pure,.pure,.rd 0,.pure,.pure,.rd 1,.wr 2 [],.wr 3 [2]] (by simp [nfm]) (by simp;omega) rfl rfl (by kernel_rfl),at_intro ?_⟩
 simp -dsimp only [vend,ne_eq,Nat.reduceEqDiff,reduceCtorEq]
 refine awp_local 6 [aI V.kind,aI V.n,.lst 4 (V.list.map SV.enc) .sh,eP V.arr] [(0,.mp 2 0),(1,.mp f.fid 0),(5,.ip none [aI t.kind,aI t.arg,aI t.n,eIs t.cases,eEdges t.to]),(6,.ip none [aI V.kind,aI V.n,.lst 4 (V.list.map SV.enc) .sh,eP V.arr])] rfl hsh (by omega) (by simp [putS,dropS,Go.Av.look]) hup ?_ ?_
 ·simp only [uptoL,AVal.upto,true_and,and_true] at hVu
  simp [AVal.upto,uptoL,hfl,hml0,aI_upto,Edge.map_upto,hVu]
 refine zh1 (za0 ?_)
 refine awp_block ?_
 refine zh1 (za0 ?_)
 apply zk0 rfl<;>intro h
 ·exact ab h (by omega)
 refine zh1 (za0 ?_)
 apply zk0 rfl<;>intro h
 ·exact ab h (by omega)
 refine zh1 (za0 ?_)
 apply zk0 rfl<;>intro h
 ·exact ab h (by omega)
 refine zg2 ?_
 simp -dsimp only [simprocAttr,↓vpre,zp,hd]
 refine za0 ?_
 refine zu0 rfl ?_
 refine zb0 ?_
 refine zh0 ?_
 refine .inl ⟨_,hch,by simp only [uptoL,AVal.upto,zt,zu,aI_upto],later_intro ?_⟩
 simp -dsimp only [simprocAttr,↓vpre,zp,he]
 refine .inr (.inl ⟨_,_,hC,.inl (later_intro (zj ?_))⟩)
 refine⟨ob (by kernel_rfl),?_⟩
 (refine at_intro ?_;simp -dsimp only [vend,ne_eq,Nat.reduceEqDiff,reduceCtorEq])
 skip
 simp -dsimp only [simprocAttr,↓vpre,zp,zr,Try.results72,hlen,List.take_length]
 exact⟨hup',trivial⟩
theorem cells7(B:Block):AVal.agg [eIs B.params,eInss B.ins,aI B.term.kind,aI B.term.arg,aI B.term.n,eIs B.term.cases,eEdges B.term.to]=B.enc:=rfl
theorem step_end{u:Unt}{m:Mach}{O:List AObj}(hup:∀o∈O,o.upto O.length)(h0:O[2]?=some (.cells (mcells u m)))(f:Fr)(r:List Fr)(hfr:m.frames=f::r)(hf:O[f.fid]?=some (.cells (fcells f)))(hn0:f.fid≠2)
  {cs:List AVal} (hst:O[m.sid]?=some (.cells cs)) (hcs:cs[r.length]?=some (.mp f.fid 0)) (hrl:r.length≤2 ^ 40) (F:Func) (hF:u.fns[f.fn.toNat]?=some F) (hfn:0≤f.fn) (B:Block) (hB:F.blocks[f.blk.toNat]?=some B) (hbl:0≤f.blk) (hpos:f.pos=B.ins.length) {O':List AObj} (hC:ECall Try.prog 72 O [.mp 2 0,.mp f.fid 0,B.term.enc] (fun r O1=>r=.tup []∧O1=O')) (hlen:O.length≤O'.length) (hup':∀o∈O',o.upto O'.length) :
  ECall Try.prog 61 O [.mp 2 0] (fun r O1=>r=.tup []∧O1=O'):=by
 have hfl:=lt_of_getElem? hf
 have hml0:=lt_of_getElem? h0
 have hff:=hf
 unfold fcells at hff
 have hm0:O[2]?=some (.cells [eFuncs u.fns,aI u.main,.os m.sid (r.length+1) 1,aI m.left,.v (.bool m.short),.v (.bool m.over),.lst 1 (m.out.map aI) (.tok 3),aI m.fin,aI m.val]):=by
  rw [h0]
  unfold mcells
  rw [hfr]
  rfl
 have hr1:((r.length+1:Nat):Int) - 1=(r.length:Nat):=by omega
 refine ecall_of hT true (O'.length) Try.func61 rfl (by kernel_rfl) (by simp [Try.ntmps61]) (by assumption) ?_
 show AWP Try.prog _ _ _ ⟨137,_,_⟩
 dsimp only [Tmp,TypeId,slotsOf]
 refine zg1 ?_
 simp -dsimp only [simprocAttr,↓vpre,zp,hm0,hr1,Nat.mul_one,hst,hcs]
 repeat(refine⟨by omega,?_⟩)
 refine⟨ob (by kernel_rfl),?_⟩
 refine za0 ?_
 refine zg1 ?_
 simp -dsimp only [simprocAttr,↓vpre,zp,hm0,hff,hF,hB,cells7]
 repeat(refine⟨by omega,?_⟩)
 refine⟨orderB_ren [2,f.fid] O.length [.pure,.pure,.pure,.pure,.rd 0,.pure,.pure,.pure,.rd 1,.pure,.pure,.pure,.pure,.pure,.pure,.rd 1,.pure,.pure,.wr 2 [],.wr 3 [2]] (by simp;omega) (by simp;omega) rfl rfl (by kernel_rfl),at_intro ?_⟩
 simp -dsimp only [vend,ne_eq,Nat.reduceEqDiff,reduceCtorEq]
 refine awp_local 3 ([eIs B.params,eInss B.ins,aI B.term.kind,aI B.term.arg,aI B.term.n,eIs B.term.cases,eEdges B.term.to]) [(0,.mp 2 0),(2,.mp f.fid 0),(3,.ip none [eIs B.params,eInss B.ins,aI B.term.kind,aI B.term.arg,aI B.term.n,eIs B.term.cases,eEdges B.term.to])] rfl (by rfl) (by omega) (by simp [putS,dropS,Go.Av.look]) ?_ ?_ ?_
 ·exact hup
 ·simp [AVal.upto,uptoL,hfl,hml0,aI_upto,Edge.map_upto,Ins.map_upto]
 refine zg2 ?_
 simp -dsimp only [simprocAttr,↓vpre,zp,hff]
 refine⟨ob (by kernel_rfl),?_⟩
 refine za0 ?_
 apply zk0 rfl<;>intro h
 ·refine zh1 ?_
  refine .inr (.inl ⟨_,_,hC,.inl (later_intro (zj ?_))⟩)
  refine za0 ?_
  refine awp_ret ?_
  simp -dsimp only [simprocAttr,↓vpre,zp,zr,Try.results61,List.take_length]
  exact⟨hup',trivial⟩
 exact af h (by omega)
theorem step_call{u:Unt}{m:Mach}{O:List AObj}(hup:∀o∈O,o.upto O.length)(h0:O[2]?=some (.cells (mcells u m)))(f:Fr)(r:List Fr)(hfr:m.frames=f::r)(hf:O[f.fid]?=some (.cells (fcells f)))(hn0:f.fid≠2)
  {cs:List AVal} (hst:O[m.sid]?=some (.cells cs)) (hcs:cs[r.length]?=some (.mp f.fid 0)) (hrl:r.length≤2 ^ 40) (F:Func) (hF:u.fns[f.fn.toNat]?=some F) (hfn:0≤f.fn) (B:Block) (hB:F.blocks[f.blk.toNat]?=some B) (hbl:0≤f.blk) (hv:O[f.mid]?=some (.map (.int .i64) (f.vals.map ent))) (nfm:f.fid≠f.mid) (hu:∀e∈f.vals,SV.Under O.length e.2) (i:Ins) (hi:B.ins[f.pos]?=some i) (hpl:f.pos≤2 ^ 41) (hal:i.args.length≤4096) (f':Fr) (hf':f' = { f with pos:=f.pos+1 }) (args:List SV) (hargs:args=takeS f.vals i.args) (O1:List AObj) (hO1:O1=O.set f.fid (.cells (fcells f'))) (hop:i.op=13) {O':List AObj} (hC:ECall Try.prog 59 O1 [.mp 2 0,aI i.n,.lst 4 (args.map SV.enc) .sh,aI i.to] (fun r O2=>r=.tup []∧O2=O')) (hlen:O.length≤O'.length) (hup':∀o∈O',o.upto O'.length) :
  ECall Try.prog 61 O [.mp 2 0] (fun r O1=>r=.tup []∧O1=O'):=by
 have hfl:=lt_of_getElem? hf
 have hml0:=lt_of_getElem? h0
 have hff:=hf
 unfold fcells at hff
 have hm0:O[2]?=some (.cells [eFuncs u.fns,aI u.main,.os m.sid (r.length+1) 1,aI m.left,.v (.bool m.short),.v (.bool m.over),.lst 1 (m.out.map aI) (.tok 3),aI m.fin,aI m.val]):=by
  rw [h0]
  unfold mcells
  rw [hfr]
  rfl
 have hr1:((r.length+1:Nat):Int) - 1=(r.length:Nat):=by omega
 have hilt:=lt_of_getElem? hi
 have hs:=set_self hf
 have hlen1:O.length=O1.length:=by rw [hO1];simp
 have hc1:[aI f.fn,aI f.blk,aI ((f.pos:Int)+1),aI f.to,.mm f.mid]=fcells f':=by
  rw [hf']
  simp [fcells]
 have hf1:O1[f'.fid]?=some (.cells (fcells f')):=by rw [hO1,hf'];exact hs _
 have hv1:O1[f'.mid]?=some (.map (.int .i64) (f'.vals.map ent)):=by rw [hO1,hf'];exact at_set_ne hv nfm
 have hup1:∀o∈O1,o.upto O1.length:=by
  rw [←hlen1,hO1]
  refine uptoO_cells hup hf fun h=>?_
  simp only [fcells,uptoL,AVal.upto,true_and,and_true] at h ⊢
  rw [hf']
  exact h
 have htake:=take_spec hup1 hf1 hv1 (by rw [hf',←hlen1];exact hu) i.args hal
 have hfid:f'.fid=f.fid:=by rw [hf']
 have hvals:f'.vals=f.vals:=by rw [hf']
 rw [hfid,hvals,←hargs] at htake
 rw [hfid] at hf1
 refine ecall_of hT true (O'.length) Try.func61 rfl (by kernel_rfl) (by simp [Try.ntmps61]) (by assumption) ?_
 show AWP Try.prog _ _ _ ⟨137,_,_⟩
 dsimp only [Tmp,TypeId,slotsOf]
 refine zg1 ?_
 simp -dsimp only [simprocAttr,↓vpre,zp,hm0,hr1,Nat.mul_one,hst,hcs]
 repeat(refine⟨by omega,?_⟩)
 refine⟨ob (by kernel_rfl),?_⟩
 refine za0 ?_
 refine zg1 ?_
 simp -dsimp only [simprocAttr,↓vpre,zp,hm0,hff,hF,hB,cells7]
 repeat(refine⟨by omega,?_⟩)
 refine⟨orderB_ren [2,f.fid] O.length [.pure,.pure,.pure,.pure,.rd 0,.pure,.pure,.pure,.rd 1,.pure,.pure,.pure,.pure,.pure,.pure,.rd 1,.pure,.pure,.wr 2 [],.wr 3 [2]] (by simp;omega) (by simp;omega) rfl rfl (by kernel_rfl),at_intro ?_⟩
 simp -dsimp only [vend,ne_eq,Nat.reduceEqDiff,reduceCtorEq]
 refine awp_local 3 ([eIs B.params,eInss B.ins,aI B.term.kind,aI B.term.arg,aI B.term.n,eIs B.term.cases,eEdges B.term.to]) [(0,.mp 2 0),(2,.mp f.fid 0),(3,.ip none [eIs B.params,eInss B.ins,aI B.term.kind,aI B.term.arg,aI B.term.n,eIs B.term.cases,eEdges B.term.to])] rfl (by rfl) (by omega) (by simp [putS,dropS,Go.Av.look]) ?_ ?_ ?_
 ·exact hup
 ·simp [AVal.upto,uptoL,hfl,hml0,aI_upto,Edge.map_upto,Ins.map_upto]
 refine zg2 ?_
 simp -dsimp only [simprocAttr,↓vpre,zp,hff]
 refine⟨ob (by kernel_rfl),?_⟩
 refine za0 ?_
 apply zk0 rfl<;>intro h
 ·exact ab h (by omega)
 refine zb0 ?_
 refine zg1 ?_
 simp -dsimp only [simprocAttr,↓vpre,zp,hff,hi,Int.toNat_natCast]
 repeat(refine⟨by omega,?_⟩)
 refine⟨orderB_ren [f.fid] O.length [.pure,.pure,.pure,.pure,.pure,.rd 0,.pure,.pure,.wr 1 [],.wr 2 [1]] (by simp) (by simp;omega) rfl rfl (by kernel_rfl),at_intro ?_⟩
 simp -dsimp only [vend,ne_eq,Nat.reduceEqDiff,reduceCtorEq]
 refine awp_local 4 ([aI i.to,aI i.op,aI i.n,eIs i.args]) [(0,.mp 2 0),(2,.mp f.fid 0),(4,.ip none [aI i.to,aI i.op,aI i.n,eIs i.args])] rfl (by rfl) (by omega) (by simp [putS,dropS,Go.Av.look]) ?_ ?_ ?_
 ·exact hup
 ·simp [AVal.upto,uptoL,hfl,hml0,aI_upto]
 refine zg1 ?_
 simp -dsimp only [simprocAttr,↓vpre,zp,hff,hs,hc1,←hO1]
 repeat(refine⟨by omega,?_⟩)
 refine za0 ?_
 refine zh1 ?_
 refine .inr (.inr ⟨_,htake,later_intro (zj ?_)⟩)
 refine za0 ?_
 refine zh1 (za0 ?_)
 refine awp_block ?_
 refine zh1 (za0 ?_)
 apply zk0 rfl<;>intro h
 ·refine zh0 ?_
  refine .inr (.inl ⟨_,_,hC,.inl (later_intro (zj ?_))⟩)
  (refine at_intro ?_;simp -dsimp only [vend,ne_eq,Nat.reduceEqDiff,reduceCtorEq])
  skip
  simp -dsimp only [simprocAttr,↓vpre,zp,zr,Try.results61,List.take_length]
  exact⟨hup',trivial⟩
 exact af h (by omega)
theorem step_app{u:Unt}{m:Mach}{O:List AObj}(hup:∀o∈O,o.upto O.length)(h0:O[2]?=some (.cells (mcells u m)))(f:Fr)(r:List Fr)(hfr:m.frames=f::r)(hf:O[f.fid]?=some (.cells (fcells f)))(hn0:f.fid≠2)
  {cs:List AVal} (hst:O[m.sid]?=some (.cells cs)) (hcs:cs[r.length]?=some (.mp f.fid 0)) (hrl:r.length≤2 ^ 40) (F:Func) (hF:u.fns[f.fn.toNat]?=some F) (hfn:0≤f.fn) (B:Block) (hB:F.blocks[f.blk.toNat]?=some B) (hbl:0≤f.blk) (hv:O[f.mid]?=some (.map (.int .i64) (f.vals.map ent))) (nfm:f.fid≠f.mid) (hu:∀e∈f.vals,SV.Under O.length e.2) (i:Ins) (hi:B.ins[f.pos]?=some i) (hpl:f.pos≤2 ^ 41) (hal:i.args.length≤4096) (f':Fr) (hf':f' = { f with pos:=f.pos+1 }) (args:List SV) (hargs:args=takeS f.vals i.args) (O1:List AObj) (hO1:O1=O.set f.fid (.cells (fcells f'))) (hop:i.op=14) (c:SV) (hcv:args[0]?=some c) (hk:c.kind=2) (hcn:0≤c.n) (G:Func) (hG:u.fns[c.n.toNat]?=some G) (D:Block) (hD:G.blocks[0]?=some D) (hpn:D.params.length=args.length) (huA:∀v∈args,SV.Under O1.length v) {O':List AObj} (hC:ECall Try.prog 59 O1 [.mp 2 0,aI c.n,.lst 4 (args.map SV.enc) .sh,aI i.to] (fun r O2=>r=.tup []∧O2=O')) (hlen:O.length≤O'.length) (hup':∀o∈O',o.upto O'.length) (hm1:O1[2]?=some (.cells (mcells u m))) :
  ECall Try.prog 61 O [.mp 2 0] (fun r O1=>r=.tup []∧O1=O'):=by
 have hfl:=lt_of_getElem? hf
 have hml0:=lt_of_getElem? h0
 have hff:=hf
 unfold fcells at hff
 have hm0:O[2]?=some (.cells [eFuncs u.fns,aI u.main,.os m.sid (r.length+1) 1,aI m.left,.v (.bool m.short),.v (.bool m.over),.lst 1 (m.out.map aI) (.tok 3),aI m.fin,aI m.val]):=by
  rw [h0]
  unfold mcells
  rw [hfr]
  rfl
 have hr1:((r.length+1:Nat):Int) - 1=(r.length:Nat):=by omega
 have hilt:=lt_of_getElem? hi
 have hs:=set_self hf
 have hlen1:O.length=O1.length:=by rw [hO1];simp
 have hc1:[aI f.fn,aI f.blk,aI ((f.pos:Int)+1),aI f.to,.mm f.mid]=fcells f':=by
  rw [hf']
  simp [fcells]
 have hf1:O1[f'.fid]?=some (.cells (fcells f')):=by rw [hO1,hf'];exact hs _
 have hv1:O1[f'.mid]?=some (.map (.int .i64) (f'.vals.map ent)):=by rw [hO1,hf'];exact at_set_ne hv nfm
 have hup1:∀o∈O1,o.upto O1.length:=by
  rw [←hlen1,hO1]
  refine uptoO_cells hup hf fun h=>?_
  simp only [fcells,uptoL,AVal.upto,true_and,and_true] at h ⊢
  rw [hf']
  exact h
 have htake:=take_spec hup1 hf1 hv1 (by rw [hf',←hlen1];exact hu) i.args hal
 have hfid:f'.fid=f.fid:=by rw [hf']
 have hvals:f'.vals=f.vals:=by rw [hf']
 rw [hfid,hvals,←hargs] at htake
 rw [hfid] at hf1
 unfold mcells at hm1
 have hd:decide (c.kind=2)=true:=decide_eq_true hk
 have hd2:decide ((D.params.length:Int)=args.length)=true:=decide_eq_true (by omega)
 refine ecall_of hT true (O'.length) Try.func61 rfl (by kernel_rfl) (by simp [Try.ntmps61]) (by assumption) ?_
 show AWP Try.prog _ _ _ ⟨137,_,_⟩
 dsimp only [Tmp,TypeId,slotsOf]
 refine zg1 ?_
 simp -dsimp only [simprocAttr,↓vpre,zp,hm0,hr1,Nat.mul_one,hst,hcs]
 repeat(refine⟨by omega,?_⟩)
 refine⟨ob (by kernel_rfl),?_⟩
 refine za0 ?_
 refine zg1 ?_
 simp -dsimp only [simprocAttr,↓vpre,zp,hm0,hff,hF,hB,cells7]
 repeat(refine⟨by omega,?_⟩)
 refine⟨orderB_ren [2,f.fid] O.length [.pure,.pure,.pure,.pure,.rd 0,.pure,.pure,.pure,.rd 1,.pure,.pure,.pure,.pure,.pure,.pure,.rd 1,.pure,.pure,.wr 2 [],.wr 3 [2]] (by simp;omega) (by simp;omega) rfl rfl (by kernel_rfl),at_intro ?_⟩
 simp -dsimp only [vend,ne_eq,Nat.reduceEqDiff,reduceCtorEq]
 refine awp_local 3 ([eIs B.params,eInss B.ins,aI B.term.kind,aI B.term.arg,aI B.term.n,eIs B.term.cases,eEdges B.term.to]) [(0,.mp 2 0),(2,.mp f.fid 0),(3,.ip none [eIs B.params,eInss B.ins,aI B.term.kind,aI B.term.arg,aI B.term.n,eIs B.term.cases,eEdges B.term.to])] rfl (by rfl) (by omega) (by simp [putS,dropS,Go.Av.look]) ?_ ?_ ?_
 ·exact hup
 ·simp [AVal.upto,uptoL,hfl,hml0,aI_upto,Edge.map_upto,Ins.map_upto]
 refine zg2 ?_
 simp -dsimp only [simprocAttr,↓vpre,zp,hff]
 refine⟨ob (by kernel_rfl),?_⟩
 refine za0 ?_
 apply zk0 rfl<;>intro h
 ·exact ab h (by omega)
 refine zb0 ?_
 refine zg1 ?_
 simp -dsimp only [simprocAttr,↓vpre,zp,hff,hi,Int.toNat_natCast]
 repeat(refine⟨by omega,?_⟩)
 refine⟨orderB_ren [f.fid] O.length [.pure,.pure,.pure,.pure,.pure,.rd 0,.pure,.pure,.wr 1 [],.wr 2 [1]] (by simp) (by simp;omega) rfl rfl (by kernel_rfl),at_intro ?_⟩
 simp -dsimp only [vend,ne_eq,Nat.reduceEqDiff,reduceCtorEq]
 refine awp_local 4 ([aI i.to,aI i.op,aI i.n,eIs i.args]) [(0,.mp 2 0),(2,.mp f.fid 0),(4,.ip none [aI i.to,aI i.op,aI i.n,eIs i.args])] rfl (by rfl) (by omega) (by simp [putS,dropS,Go.Av.look]) ?_ ?_ ?_
 ·exact hup
 ·simp [AVal.upto,uptoL,hfl,hml0,aI_upto]
 refine zg1 ?_
 simp -dsimp only [simprocAttr,↓vpre,zp,hff,hs,hc1,←hO1]
 repeat(refine⟨by omega,?_⟩)
 refine za0 ?_
 refine zh1 ?_
 refine .inr (.inr ⟨_,htake,later_intro (zj ?_)⟩)
 refine za0 ?_
 refine zh1 (za0 ?_)
 refine awp_block ?_
 refine zh1 (za0 ?_)
 apply zk0 rfl<;>intro h
 ·exact ab h (by omega)
 refine zh1 (za0 ?_)
 apply zk0 rfl<;>intro h
 ·refine zg1 ?_
  simp -dsimp only [simprocAttr,↓vpre,zp,hcv]
  refine za0 ?_
  refine awp_local 6 [aI c.kind,aI c.n,.lst 4 (c.list.map SV.enc) .sh,eP c.arr] [(0,.mp 2 0),(2,.mp f.fid 0),(4,.ip none [aI i.to,aI i.op,aI i.n,eIs i.args]),(5,.lst 4 (args.map SV.enc) .sh),(6,.ip none [aI c.kind,aI c.n,.lst 4 (c.list.map SV.enc) .sh,eP c.arr])] rfl (by simp only [List.map_cons,List.map_nil,shareCell_v,shareCell_lst,eP_shareCell]) (by omega) (by simp [putS,dropS,Go.Av.look]) hup1 ?_ ?_
  ·have hcu:=(huA c (List.mem_of_getElem? hcv)).enc_upto
   rw [SV.enc_eq] at hcu
   simp only [uptoL,AVal.upto,true_and,and_true] at hcu
   have hmu:=SV.map_upto huA
   simp [AVal.upto,uptoL,←hlen1,hfl,hml0,aI_upto,hcu,hmu]
   simp [hlen1,hcu,hmu]
  refine zg1 ?_
  simp -dsimp only [simprocAttr,↓vpre,zp,hd,hm1,hG,hD,hd2]
  repeat(refine⟨by omega,?_⟩)
  refine⟨ob (by kernel_rfl),?_⟩
  refine za0 ?_
  refine zw0 rfl ?_
  refine zh0 ?_
  refine .inr (.inl ⟨_,_,hC,.inl (later_intro (zj ?_))⟩)
  (refine at_intro ?_;simp -dsimp only [vend,ne_eq,Nat.reduceEqDiff,reduceCtorEq])
  skip
  simp -dsimp only [simprocAttr,↓vpre,zp,zr,Try.results61,List.take_length]
  exact⟨hup',trivial⟩
 exact af h (by omega)
theorem step_app_kind{u:Unt}{m:Mach}{O:List AObj}(hup:∀o∈O,o.upto O.length)(h0:O[2]?=some (.cells (mcells u m)))(f:Fr)(r:List Fr)(hfr:m.frames=f::r)(hf:O[f.fid]?=some (.cells (fcells f)))(hn0:f.fid≠2)
  {cs:List AVal} (hst:O[m.sid]?=some (.cells cs)) (hcs:cs[r.length]?=some (.mp f.fid 0)) (hrl:r.length≤2 ^ 40) (F:Func) (hF:u.fns[f.fn.toNat]?=some F) (hfn:0≤f.fn) (B:Block) (hB:F.blocks[f.blk.toNat]?=some B) (hbl:0≤f.blk) (hv:O[f.mid]?=some (.map (.int .i64) (f.vals.map ent))) (nfm:f.fid≠f.mid) (hu:∀e∈f.vals,SV.Under O.length e.2) (i:Ins) (hi:B.ins[f.pos]?=some i) (hpl:f.pos≤2 ^ 41) (hal:i.args.length≤4096) (f':Fr) (hf':f' = { f with pos:=f.pos+1 }) (args:List SV) (hargs:args=takeS f.vals i.args) (O1:List AObj) (hO1:O1=O.set f.fid (.cells (fcells f'))) (hop:i.op=14) (c:SV) (hcv:args[0]?=some c) (hk:c.kind≠2) (huA:∀v∈args,SV.Under O1.length v) (hm1:O1[2]?=some (.cells (mcells u m))) :
  ECall Try.prog 61 O [.mp 2 0] (fun r O2=>r=.tup []∧O2=O1.set 2 (.cells (mcells u (m.stop 5 0)))):=by
 have hfl:=lt_of_getElem? hf
 have hml0:=lt_of_getElem? h0
 have hff:=hf
 unfold fcells at hff
 have hm0:O[2]?=some (.cells [eFuncs u.fns,aI u.main,.os m.sid (r.length+1) 1,aI m.left,.v (.bool m.short),.v (.bool m.over),.lst 1 (m.out.map aI) (.tok 3),aI m.fin,aI m.val]):=by
  rw [h0]
  unfold mcells
  rw [hfr]
  rfl
 have hr1:((r.length+1:Nat):Int) - 1=(r.length:Nat):=by omega
 have hilt:=lt_of_getElem? hi
 have hs:=set_self hf
 have hlen1:O.length=O1.length:=by rw [hO1];simp
 have hc1:[aI f.fn,aI f.blk,aI ((f.pos:Int)+1),aI f.to,.mm f.mid]=fcells f':=by
  rw [hf']
  simp [fcells]
 have hf1:O1[f'.fid]?=some (.cells (fcells f')):=by rw [hO1,hf'];exact hs _
 have hv1:O1[f'.mid]?=some (.map (.int .i64) (f'.vals.map ent)):=by rw [hO1,hf'];exact at_set_ne hv nfm
 have hup1:∀o∈O1,o.upto O1.length:=by
  rw [←hlen1,hO1]
  refine uptoO_cells hup hf fun h=>?_
  simp only [fcells,uptoL,AVal.upto,true_and,and_true] at h ⊢
  rw [hf']
  exact h
 have htake:=take_spec hup1 hf1 hv1 (by rw [hf',←hlen1];exact hu) i.args hal
 have hfid:f'.fid=f.fid:=by rw [hf']
 have hvals:f'.vals=f.vals:=by rw [hf']
 rw [hfid,hvals,←hargs] at htake
 rw [hfid] at hf1
 have hkk:O.length≤O.length:=Nat.le_refl _
 have hstop:=stop_spec hup1 hm1 5 0
 have hup2:=uptoO_cells hup1 hm1 (ds:=mcells u (m.stop 5 0)) (fun h=>mcells_upto h rfl)
 have htk:=take_set_len (O:=O1) (k:=2) (x:=.cells (mcells u (m.stop 5 0)))
 unfold mcells at hm1
 have hd:decide (c.kind=2)=false:=decide_eq_false hk
 refine ecall_of hT true (O.length) Try.func61 rfl (by kernel_rfl) (by simp [Try.ntmps61]) (by assumption) ?_
 show AWP Try.prog _ _ _ ⟨137,_,_⟩
 dsimp only [Tmp,TypeId,slotsOf]
 refine zg1 ?_
 simp -dsimp only [simprocAttr,↓vpre,zp,hm0,hr1,Nat.mul_one,hst,hcs]
 repeat(refine⟨by omega,?_⟩)
 refine⟨ob (by kernel_rfl),?_⟩
 refine za0 ?_
 refine zg1 ?_
 simp -dsimp only [simprocAttr,↓vpre,zp,hm0,hff,hF,hB,cells7]
 repeat(refine⟨by omega,?_⟩)
 refine⟨orderB_ren [2,f.fid] O.length [.pure,.pure,.pure,.pure,.rd 0,.pure,.pure,.pure,.rd 1,.pure,.pure,.pure,.pure,.pure,.pure,.rd 1,.pure,.pure,.wr 2 [],.wr 3 [2]] (by simp;omega) (by simp;omega) rfl rfl (by kernel_rfl),at_intro ?_⟩
 simp -dsimp only [vend,ne_eq,Nat.reduceEqDiff,reduceCtorEq]
 refine awp_local 3 ([eIs B.params,eInss B.ins,aI B.term.kind,aI B.term.arg,aI B.term.n,eIs B.term.cases,eEdges B.term.to]) [(0,.mp 2 0),(2,.mp f.fid 0),(3,.ip none [eIs B.params,eInss B.ins,aI B.term.kind,aI B.term.arg,aI B.term.n,eIs B.term.cases,eEdges B.term.to])] rfl (by rfl) (by omega) (by simp [putS,dropS,Go.Av.look]) ?_ ?_ ?_
 ·exact hup
 ·simp [AVal.upto,uptoL,hfl,hml0,aI_upto,Edge.map_upto,Ins.map_upto]
 refine zg2 ?_
 simp -dsimp only [simprocAttr,↓vpre,zp,hff]
 refine⟨ob (by kernel_rfl),?_⟩
 refine za0 ?_
 apply zk0 rfl<;>intro h
 ·exact ab h (by omega)
 refine zb0 ?_
 refine zg1 ?_
 simp -dsimp only [simprocAttr,↓vpre,zp,hff,hi,Int.toNat_natCast]
 repeat(refine⟨by omega,?_⟩)
 refine⟨orderB_ren [f.fid] O.length [.pure,.pure,.pure,.pure,.pure,.rd 0,.pure,.pure,.wr 1 [],.wr 2 [1]] (by simp) (by simp;omega) rfl rfl (by kernel_rfl),at_intro ?_⟩
 simp -dsimp only [vend,ne_eq,Nat.reduceEqDiff,reduceCtorEq]
 refine awp_local 4 ([aI i.to,aI i.op,aI i.n,eIs i.args]) [(0,.mp 2 0),(2,.mp f.fid 0),(4,.ip none [aI i.to,aI i.op,aI i.n,eIs i.args])] rfl (by rfl) (by omega) (by simp [putS,dropS,Go.Av.look]) ?_ ?_ ?_
 ·exact hup
 ·simp [AVal.upto,uptoL,hfl,hml0,aI_upto]
 refine zg1 ?_
 simp -dsimp only [simprocAttr,↓vpre,zp,hff,hs,hc1,←hO1]
 repeat(refine⟨by omega,?_⟩)
 refine za0 ?_
 refine zh1 ?_
 refine .inr (.inr ⟨_,htake,later_intro (zj ?_)⟩)
 refine za0 ?_
 refine zh1 (za0 ?_)
 refine awp_block ?_
 refine zh1 (za0 ?_)
 apply zk0 rfl<;>intro h
 ·exact ab h (by omega)
 refine zh1 (za0 ?_)
 apply zk0 rfl<;>intro h
 ·refine zg1 ?_
  simp -dsimp only [simprocAttr,↓vpre,zp,hcv]
  refine za0 ?_
  refine awp_local 6 [aI c.kind,aI c.n,.lst 4 (c.list.map SV.enc) .sh,eP c.arr] [(0,.mp 2 0),(2,.mp f.fid 0),(4,.ip none [aI i.to,aI i.op,aI i.n,eIs i.args]),(5,.lst 4 (args.map SV.enc) .sh),(6,.ip none [aI c.kind,aI c.n,.lst 4 (c.list.map SV.enc) .sh,eP c.arr])] rfl (by simp only [List.map_cons,List.map_nil,shareCell_v,shareCell_lst,eP_shareCell]) (by omega) (by simp [putS,dropS,Go.Av.look]) hup1 ?_ ?_
  ·have hcu:=(huA c (List.mem_of_getElem? hcv)).enc_upto
   rw [SV.enc_eq] at hcu
   simp only [uptoL,AVal.upto,true_and,and_true] at hcu
   have hmu:=SV.map_upto huA
   simp [AVal.upto,uptoL,←hlen1,hfl,hml0,aI_upto,hcu,hmu]
   simp [hlen1,hcu,hmu]
  refine zg1 ?_
  simp -dsimp only [simprocAttr,↓vpre,zp,hd]
  repeat(refine⟨by omega,?_⟩)
  refine⟨ob (by kernel_rfl),?_⟩
  refine za0 ?_
  refine zu0 rfl ?_
  refine zh0 ?_
  refine .inr (.inl ⟨_,_,hstop,.inl (later_intro ?_)⟩)
  simp -dsimp only [simprocAttr,↓vpre,zp,hlen1]
  (refine at_intro ?_;simp -dsimp only [vend,ne_eq,Nat.reduceEqDiff,reduceCtorEq])
  skip
  simp -dsimp only [simprocAttr,↓vpre,zp,zr,Try.results61,htk,List.length_set,hlen1]
  exact⟨hup2,trivial⟩
 exact af h (by omega)
theorem step_app_len{u:Unt}{m:Mach}{O:List AObj}(hup:∀o∈O,o.upto O.length)(h0:O[2]?=some (.cells (mcells u m)))(f:Fr)(r:List Fr)(hfr:m.frames=f::r)(hf:O[f.fid]?=some (.cells (fcells f)))(hn0:f.fid≠2)
  {cs:List AVal} (hst:O[m.sid]?=some (.cells cs)) (hcs:cs[r.length]?=some (.mp f.fid 0)) (hrl:r.length≤2 ^ 40) (F:Func) (hF:u.fns[f.fn.toNat]?=some F) (hfn:0≤f.fn) (B:Block) (hB:F.blocks[f.blk.toNat]?=some B) (hbl:0≤f.blk) (hv:O[f.mid]?=some (.map (.int .i64) (f.vals.map ent))) (nfm:f.fid≠f.mid) (hu:∀e∈f.vals,SV.Under O.length e.2) (i:Ins) (hi:B.ins[f.pos]?=some i) (hpl:f.pos≤2 ^ 41) (hal:i.args.length≤4096) (f':Fr) (hf':f' = { f with pos:=f.pos+1 }) (args:List SV) (hargs:args=takeS f.vals i.args) (O1:List AObj) (hO1:O1=O.set f.fid (.cells (fcells f'))) (hop:i.op=14) (c:SV) (hcv:args[0]?=some c) (hk:c.kind=2) (hcn:0≤c.n) (G:Func) (hG:u.fns[c.n.toNat]?=some G) (D:Block) (hD:G.blocks[0]?=some D) (hpn:D.params.length≠args.length) (huA:∀v∈args,SV.Under O1.length v) (hm1:O1[2]?=some (.cells (mcells u m))) :
  ECall Try.prog 61 O [.mp 2 0] (fun r O2=>r=.tup []∧O2=O1.set 2 (.cells (mcells u (m.stop 5 0)))):=by
 have hfl:=lt_of_getElem? hf
 have hml0:=lt_of_getElem? h0
 have hff:=hf
 unfold fcells at hff
 have hm0:O[2]?=some (.cells [eFuncs u.fns,aI u.main,.os m.sid (r.length+1) 1,aI m.left,.v (.bool m.short),.v (.bool m.over),.lst 1 (m.out.map aI) (.tok 3),aI m.fin,aI m.val]):=by
  rw [h0]
  unfold mcells
  rw [hfr]
  rfl
 have hr1:((r.length+1:Nat):Int) - 1=(r.length:Nat):=by omega
 have hilt:=lt_of_getElem? hi
 have hs:=set_self hf
 have hlen1:O.length=O1.length:=by rw [hO1];simp
 have hc1:[aI f.fn,aI f.blk,aI ((f.pos:Int)+1),aI f.to,.mm f.mid]=fcells f':=by
  rw [hf']
  simp [fcells]
 have hf1:O1[f'.fid]?=some (.cells (fcells f')):=by rw [hO1,hf'];exact hs _
 have hv1:O1[f'.mid]?=some (.map (.int .i64) (f'.vals.map ent)):=by rw [hO1,hf'];exact at_set_ne hv nfm
 have hup1:∀o∈O1,o.upto O1.length:=by
  rw [←hlen1,hO1]
  refine uptoO_cells hup hf fun h=>?_
  simp only [fcells,uptoL,AVal.upto,true_and,and_true] at h ⊢
  rw [hf']
  exact h
 have htake:=take_spec hup1 hf1 hv1 (by rw [hf',←hlen1];exact hu) i.args hal
 have hfid:f'.fid=f.fid:=by rw [hf']
 have hvals:f'.vals=f.vals:=by rw [hf']
 rw [hfid,hvals,←hargs] at htake
 rw [hfid] at hf1
 have hkk:O.length≤O.length:=Nat.le_refl _
 have hstop:=stop_spec hup1 hm1 5 0
 have hup2:=uptoO_cells hup1 hm1 (ds:=mcells u (m.stop 5 0)) (fun h=>mcells_upto h rfl)
 have htk:=take_set_len (O:=O1) (k:=2) (x:=.cells (mcells u (m.stop 5 0)))
 unfold mcells at hm1
 have hd:decide (c.kind=2)=true:=decide_eq_true hk
 have hd2:decide ((D.params.length:Int)=args.length)=false:=decide_eq_false (by omega)
 refine ecall_of hT true (O.length) Try.func61 rfl (by kernel_rfl) (by simp [Try.ntmps61]) (by assumption) ?_
 show AWP Try.prog _ _ _ ⟨137,_,_⟩
 dsimp only [Tmp,TypeId,slotsOf]
 refine zg1 ?_
 simp -dsimp only [simprocAttr,↓vpre,zp,hm0,hr1,Nat.mul_one,hst,hcs]
 repeat(refine⟨by omega,?_⟩)
 refine⟨ob (by kernel_rfl),?_⟩
 refine za0 ?_
 refine zg1 ?_
 simp -dsimp only [simprocAttr,↓vpre,zp,hm0,hff,hF,hB,cells7]
 repeat(refine⟨by omega,?_⟩)
 refine⟨orderB_ren [2,f.fid] O.length [.pure,.pure,.pure,.pure,.rd 0,.pure,.pure,.pure,.rd 1,.pure,.pure,.pure,.pure,.pure,.pure,.rd 1,.pure,.pure,.wr 2 [],.wr 3 [2]] (by simp;omega) (by simp;omega) rfl rfl (by kernel_rfl),at_intro ?_⟩
 simp -dsimp only [vend,ne_eq,Nat.reduceEqDiff,reduceCtorEq]
 refine awp_local 3 ([eIs B.params,eInss B.ins,aI B.term.kind,aI B.term.arg,aI B.term.n,eIs B.term.cases,eEdges B.term.to]) [(0,.mp 2 0),(2,.mp f.fid 0),(3,.ip none [eIs B.params,eInss B.ins,aI B.term.kind,aI B.term.arg,aI B.term.n,eIs B.term.cases,eEdges B.term.to])] rfl (by rfl) (by omega) (by simp [putS,dropS,Go.Av.look]) ?_ ?_ ?_
 ·exact hup
 ·simp [AVal.upto,uptoL,hfl,hml0,aI_upto,Edge.map_upto,Ins.map_upto]
 refine zg2 ?_
 simp -dsimp only [simprocAttr,↓vpre,zp,hff]
 refine⟨ob (by kernel_rfl),?_⟩
 refine za0 ?_
 apply zk0 rfl<;>intro h
 ·exact ab h (by omega)
 refine zb0 ?_
 refine zg1 ?_
 simp -dsimp only [simprocAttr,↓vpre,zp,hff,hi,Int.toNat_natCast]
 repeat(refine⟨by omega,?_⟩)
 refine⟨orderB_ren [f.fid] O.length [.pure,.pure,.pure,.pure,.pure,.rd 0,.pure,.pure,.wr 1 [],.wr 2 [1]] (by simp) (by simp;omega) rfl rfl (by kernel_rfl),at_intro ?_⟩
 simp -dsimp only [vend,ne_eq,Nat.reduceEqDiff,reduceCtorEq]
 refine awp_local 4 ([aI i.to,aI i.op,aI i.n,eIs i.args]) [(0,.mp 2 0),(2,.mp f.fid 0),(4,.ip none [aI i.to,aI i.op,aI i.n,eIs i.args])] rfl (by rfl) (by omega) (by simp [putS,dropS,Go.Av.look]) ?_ ?_ ?_
 ·exact hup
 ·simp [AVal.upto,uptoL,hfl,hml0,aI_upto]
 refine zg1 ?_
 simp -dsimp only [simprocAttr,↓vpre,zp,hff,hs,hc1,←hO1]
 repeat(refine⟨by omega,?_⟩)
 refine za0 ?_
 refine zh1 ?_
 refine .inr (.inr ⟨_,htake,later_intro (zj ?_)⟩)
 refine za0 ?_
 refine zh1 (za0 ?_)
 refine awp_block ?_
 refine zh1 (za0 ?_)
 apply zk0 rfl<;>intro h
 ·exact ab h (by omega)
 refine zh1 (za0 ?_)
 apply zk0 rfl<;>intro h
 ·refine zg1 ?_
  simp -dsimp only [simprocAttr,↓vpre,zp,hcv]
  refine za0 ?_
  refine awp_local 6 [aI c.kind,aI c.n,.lst 4 (c.list.map SV.enc) .sh,eP c.arr] [(0,.mp 2 0),(2,.mp f.fid 0),(4,.ip none [aI i.to,aI i.op,aI i.n,eIs i.args]),(5,.lst 4 (args.map SV.enc) .sh),(6,.ip none [aI c.kind,aI c.n,.lst 4 (c.list.map SV.enc) .sh,eP c.arr])] rfl (by simp only [List.map_cons,List.map_nil,shareCell_v,shareCell_lst,eP_shareCell]) (by omega) (by simp [putS,dropS,Go.Av.look]) hup1 ?_ ?_
  ·have hcu:=(huA c (List.mem_of_getElem? hcv)).enc_upto
   rw [SV.enc_eq] at hcu
   simp only [uptoL,AVal.upto,true_and,and_true] at hcu
   have hmu:=SV.map_upto huA
   simp [AVal.upto,uptoL,←hlen1,hfl,hml0,aI_upto,hcu,hmu]
   simp [hlen1,hcu,hmu]
  refine zg1 ?_
  simp -dsimp only [simprocAttr,↓vpre,zp,hd,hm1,hG,hD,hd2]
  repeat(refine⟨by omega,?_⟩)
  refine⟨ob (by kernel_rfl),?_⟩
  refine za0 ?_
  refine zu0 rfl ?_
  refine zh0 ?_
  refine .inr (.inl ⟨_,_,hstop,.inl (later_intro ?_)⟩)
  simp -dsimp only [simprocAttr,↓vpre,zp,hlen1]
  (refine at_intro ?_;simp -dsimp only [vend,ne_eq,Nat.reduceEqDiff,reduceCtorEq])
  skip
  simp -dsimp only [simprocAttr,↓vpre,zp,zr,Try.results61,htk,List.length_set,hlen1]
  exact⟨hup2,trivial⟩
 exact af h (by omega)
theorem step_exec{u:Unt}{m:Mach}{O:List AObj}(hup:∀o∈O,o.upto O.length)(h0:O[2]?=some (.cells (mcells u m)))(f:Fr)(r:List Fr)(hfr:m.frames=f::r)(hf:O[f.fid]?=some (.cells (fcells f)))(hn0:f.fid≠2)
  {cs:List AVal} (hst:O[m.sid]?=some (.cells cs)) (hcs:cs[r.length]?=some (.mp f.fid 0)) (hrl:r.length≤2 ^ 40) (F:Func) (hF:u.fns[f.fn.toNat]?=some F) (hfn:0≤f.fn) (B:Block) (hB:F.blocks[f.blk.toNat]?=some B) (hbl:0≤f.blk) (hv:O[f.mid]?=some (.map (.int .i64) (f.vals.map ent))) (nfm:f.fid≠f.mid) (hu:∀e∈f.vals,SV.Under O.length e.2) (i:Ins) (hi:B.ins[f.pos]?=some i) (hpl:f.pos≤2 ^ 41) (hal:i.args.length≤4096) (f':Fr) (hf':f' = { f with pos:=f.pos+1 }) (args:List SV) (hargs:args=takeS f.vals i.args) (O1:List AObj) (hO1:O1=O.set f.fid (.cells (fcells f'))) (hop:i.op≠13∧i.op≠14) {O2:List AObj} (v:SV) (t:Int) (hC:ECall Try.prog 75 O1 [.mp 2 0,i.enc,.lst 4 (args.map SV.enc) .sh] (fun r O3=>r=.tup [v.enc,aI t]∧O3=O2)) (hlen:O.length≤O2.length) (hup2:∀o∈O2,o.upto O2.length) (hvu:SV.Under O2.length v) (m2:Mach) (h02:O2[2]?=some (.cells (mcells u m2)))
  (hf2:O2[f.fid]?=some (.cells (fcells f'))) (hv2:O2[f.mid]?=some (.map (.int .i64) (f.vals.map ent))) (hu2:∀e∈f.vals,SV.Under O2.length e.2) (nm0:f.mid≠2) (ht:t=0) :
  ECall Try.prog 61 O [.mp 2 0] (fun r O3=>r=.tup []∧O3=O2.set f.mid (.map (.int .i64) ((putS' f.vals i.to v).map ent))):=by
 have hfl:=lt_of_getElem? hf
 have hml0:=lt_of_getElem? h0
 have hff:=hf
 unfold fcells at hff
 have hm0:O[2]?=some (.cells [eFuncs u.fns,aI u.main,.os m.sid (r.length+1) 1,aI m.left,.v (.bool m.short),.v (.bool m.over),.lst 1 (m.out.map aI) (.tok 3),aI m.fin,aI m.val]):=by
  rw [h0]
  unfold mcells
  rw [hfr]
  rfl
 have hr1:((r.length+1:Nat):Int) - 1=(r.length:Nat):=by omega
 have hilt:=lt_of_getElem? hi
 have hs:=set_self hf
 have hlen1:O.length=O1.length:=by rw [hO1];simp
 have hc1:[aI f.fn,aI f.blk,aI ((f.pos:Int)+1),aI f.to,.mm f.mid]=fcells f':=by
  rw [hf']
  simp [fcells]
 have hf1:O1[f'.fid]?=some (.cells (fcells f')):=by rw [hO1,hf'];exact hs _
 have hv1:O1[f'.mid]?=some (.map (.int .i64) (f'.vals.map ent)):=by rw [hO1,hf'];exact at_set_ne hv nfm
 have hup1:∀o∈O1,o.upto O1.length:=by
  rw [←hlen1,hO1]
  refine uptoO_cells hup hf fun h=>?_
  simp only [fcells,uptoL,AVal.upto,true_and,and_true] at h ⊢
  rw [hf']
  exact h
 have htake:=take_spec hup1 hf1 hv1 (by rw [hf',←hlen1];exact hu) i.args hal
 have hfid:f'.fid=f.fid:=by rw [hf']
 have hvals:f'.vals=f.vals:=by rw [hf']
 rw [hfid,hvals,←hargs] at htake
 rw [hfid] at hf1
 have hfl2:=lt_of_getElem? hf2
 have hml2:=lt_of_getElem? h02
 have hvc:=hvu.enc_upto
 rw [SV.enc_eq] at hvc
 simp only [uptoL,AVal.upto,true_and,and_true] at hvc
 have hd:decide (t=0)=true:=decide_eq_true ht
 have hgf:fcells f'=[aI f.fn,aI f.blk,aI ((f.pos:Int)+1),aI f.to,.mm f.mid]:=hc1.symm
 have hmapu:uptoE O2.length ((putS' f.vals i.to v).map ent):=entE fun x hx=>by
  rcases mem_putS' hx with q | q
  ·exact hu2 x q
  rw [q]
  exact hvu
 rw [hgf] at hf2
 have hup3:=uptoO_set (k:=f.mid) (x:=.map (.int .i64) ((putS' f.vals i.to v).map ent)) hup2 hmapu
 have htk:=take_set_len (O:=O2) (k:=f.mid) (x:=.map (.int .i64) ((putS' f.vals i.to v).map ent))
 refine ecall_of hT true (O2.length) Try.func61 rfl (by kernel_rfl) (by simp [Try.ntmps61]) (by assumption) ?_
 show AWP Try.prog _ _ _ ⟨137,_,_⟩
 dsimp only [Tmp,TypeId,slotsOf]
 refine zg1 ?_
 simp -dsimp only [simprocAttr,↓vpre,zp,hm0,hr1,Nat.mul_one,hst,hcs]
 repeat(refine⟨by omega,?_⟩)
 refine⟨ob (by kernel_rfl),?_⟩
 refine za0 ?_
 refine zg1 ?_
 simp -dsimp only [simprocAttr,↓vpre,zp,hm0,hff,hF,hB,cells7]
 repeat(refine⟨by omega,?_⟩)
 refine⟨orderB_ren [2,f.fid] O.length [.pure,.pure,.pure,.pure,.rd 0,.pure,.pure,.pure,.rd 1,.pure,.pure,.pure,.pure,.pure,.pure,.rd 1,.pure,.pure,.wr 2 [],.wr 3 [2]] (by simp;omega) (by simp;omega) rfl rfl (by kernel_rfl),at_intro ?_⟩
 simp -dsimp only [vend,ne_eq,Nat.reduceEqDiff,reduceCtorEq]
 refine awp_local 3 ([eIs B.params,eInss B.ins,aI B.term.kind,aI B.term.arg,aI B.term.n,eIs B.term.cases,eEdges B.term.to]) [(0,.mp 2 0),(2,.mp f.fid 0),(3,.ip none [eIs B.params,eInss B.ins,aI B.term.kind,aI B.term.arg,aI B.term.n,eIs B.term.cases,eEdges B.term.to])] rfl (by rfl) (by omega) (by simp [putS,dropS,Go.Av.look]) ?_ ?_ ?_
 ·exact hup
 ·simp [AVal.upto,uptoL,hfl,hml0,aI_upto,Edge.map_upto,Ins.map_upto]
 refine zg2 ?_
 simp -dsimp only [simprocAttr,↓vpre,zp,hff]
 refine⟨ob (by kernel_rfl),?_⟩
 refine za0 ?_
 apply zk0 rfl<;>intro h
 ·exact ab h (by omega)
 refine zb0 ?_
 refine zg1 ?_
 simp -dsimp only [simprocAttr,↓vpre,zp,hff,hi,Int.toNat_natCast]
 repeat(refine⟨by omega,?_⟩)
 refine⟨orderB_ren [f.fid] O.length [.pure,.pure,.pure,.pure,.pure,.rd 0,.pure,.pure,.wr 1 [],.wr 2 [1]] (by simp) (by simp;omega) rfl rfl (by kernel_rfl),at_intro ?_⟩
 simp -dsimp only [vend,ne_eq,Nat.reduceEqDiff,reduceCtorEq]
 refine awp_local 4 ([aI i.to,aI i.op,aI i.n,eIs i.args]) [(0,.mp 2 0),(2,.mp f.fid 0),(4,.ip none [aI i.to,aI i.op,aI i.n,eIs i.args])] rfl (by rfl) (by omega) (by simp [putS,dropS,Go.Av.look]) ?_ ?_ ?_
 ·exact hup
 ·simp [AVal.upto,uptoL,hfl,hml0,aI_upto]
 refine zg1 ?_
 simp -dsimp only [simprocAttr,↓vpre,zp,hff,hs,hc1,←hO1]
 repeat(refine⟨by omega,?_⟩)
 refine za0 ?_
 refine zh1 ?_
 refine .inr (.inr ⟨_,htake,later_intro (zj ?_)⟩)
 refine za0 ?_
 refine zh1 (za0 ?_)
 refine awp_block ?_
 refine zh1 (za0 ?_)
 apply zk0 rfl<;>intro h
 ·exact ab h (by omega)
 refine zh1 (za0 ?_)
 apply zk0 rfl<;>intro h
 ·exact ab h (by omega)
 refine zh1 ?_
 refine .inr (.inl ⟨_,_,hC,.inl (later_intro (zj ?_))⟩)
 refine za0 ?_
 refine awp_local 7 [aI v.kind,aI v.n,.lst 4 (v.list.map SV.enc) .sh,eP v.arr] [(0,.mp 2 0),(2,.mp f.fid 0),(4,.ip none [aI i.to,aI i.op,aI i.n,eIs i.args]),(7,.ip none [aI v.kind,aI v.n,.lst 4 (v.list.map SV.enc) .sh,eP v.arr]),(8,aI t)] rfl (by simp only [List.map_cons,List.map_nil,shareCell_v,shareCell_lst,eP_shareCell]) (by omega) (by simp [putS,dropS,Go.Av.look]) hup2 ?_ ?_
 ·simp [AVal.upto,uptoL,hfl2,hml2,aI_upto,hvc]
 refine zg2 ?_
 simp -dsimp only [simprocAttr,↓vpre,zp,hd]
 refine za0 ?_
 refine zu0 rfl ?_
 refine zb0 ?_
 refine zg0 ?_
 simp -dsimp only [simprocAttr,↓vpre,zp,hf2,hv2,put_ent]
 refine⟨ob (by kernel_rfl),?_⟩
 (refine at_intro ?_;simp -dsimp only [vend,ne_eq,Nat.reduceEqDiff,reduceCtorEq])
 skip
 simp -dsimp only [simprocAttr,↓vpre,zp,zr,Try.results61,htk,List.length_set]
 exact⟨hup3,trivial⟩
theorem step_trap{u:Unt}{m:Mach}{O:List AObj}(hup:∀o∈O,o.upto O.length)(h0:O[2]?=some (.cells (mcells u m)))(f:Fr)(r:List Fr)(hfr:m.frames=f::r)(hf:O[f.fid]?=some (.cells (fcells f)))(hn0:f.fid≠2)
  {cs:List AVal} (hst:O[m.sid]?=some (.cells cs)) (hcs:cs[r.length]?=some (.mp f.fid 0)) (hrl:r.length≤2 ^ 40) (F:Func) (hF:u.fns[f.fn.toNat]?=some F) (hfn:0≤f.fn) (B:Block) (hB:F.blocks[f.blk.toNat]?=some B) (hbl:0≤f.blk) (hv:O[f.mid]?=some (.map (.int .i64) (f.vals.map ent))) (nfm:f.fid≠f.mid) (hu:∀e∈f.vals,SV.Under O.length e.2) (i:Ins) (hi:B.ins[f.pos]?=some i) (hpl:f.pos≤2 ^ 41) (hal:i.args.length≤4096) (f':Fr) (hf':f' = { f with pos:=f.pos+1 }) (args:List SV) (hargs:args=takeS f.vals i.args) (O1:List AObj) (hO1:O1=O.set f.fid (.cells (fcells f'))) (hop:i.op≠13∧i.op≠14) {O2:List AObj} (v:SV) (t:Int) (hC:ECall Try.prog 75 O1 [.mp 2 0,i.enc,.lst 4 (args.map SV.enc) .sh] (fun r O3=>r=.tup [v.enc,aI t]∧O3=O2)) (hlen:O.length≤O2.length) (hup2:∀o∈O2,o.upto O2.length) (hvu:SV.Under O2.length v) (m2:Mach) (h02:O2[2]?=some (.cells (mcells u m2)))
  (hf2:O2[f.fid]?=some (.cells (fcells f'))) (hv2:O2[f.mid]?=some (.map (.int .i64) (f.vals.map ent))) (hu2:∀e∈f.vals,SV.Under O2.length e.2) (nm0:f.mid≠2) (ht:t≠0) :
  ECall Try.prog 61 O [.mp 2 0] (fun r O3=>r=.tup []∧O3=(O2.set 2 (.cells (mcells u (m2.stop t 0)))).set f.mid (.map (.int .i64) ((putS' f.vals i.to v).map ent))):=by
 have hfl:=lt_of_getElem? hf
 have hml0:=lt_of_getElem? h0
 have hff:=hf
 unfold fcells at hff
 have hm0:O[2]?=some (.cells [eFuncs u.fns,aI u.main,.os m.sid (r.length+1) 1,aI m.left,.v (.bool m.short),.v (.bool m.over),.lst 1 (m.out.map aI) (.tok 3),aI m.fin,aI m.val]):=by
  rw [h0]
  unfold mcells
  rw [hfr]
  rfl
 have hr1:((r.length+1:Nat):Int) - 1=(r.length:Nat):=by omega
 have hilt:=lt_of_getElem? hi
 have hs:=set_self hf
 have hlen1:O.length=O1.length:=by rw [hO1];simp
 have hc1:[aI f.fn,aI f.blk,aI ((f.pos:Int)+1),aI f.to,.mm f.mid]=fcells f':=by
  rw [hf']
  simp [fcells]
 have hf1:O1[f'.fid]?=some (.cells (fcells f')):=by rw [hO1,hf'];exact hs _
 have hv1:O1[f'.mid]?=some (.map (.int .i64) (f'.vals.map ent)):=by rw [hO1,hf'];exact at_set_ne hv nfm
 have hup1:∀o∈O1,o.upto O1.length:=by
  rw [←hlen1,hO1]
  refine uptoO_cells hup hf fun h=>?_
  simp only [fcells,uptoL,AVal.upto,true_and,and_true] at h ⊢
  rw [hf']
  exact h
 have htake:=take_spec hup1 hf1 hv1 (by rw [hf',←hlen1];exact hu) i.args hal
 have hfid:f'.fid=f.fid:=by rw [hf']
 have hvals:f'.vals=f.vals:=by rw [hf']
 rw [hfid,hvals,←hargs] at htake
 rw [hfid] at hf1
 have hfl2:=lt_of_getElem? hf2
 have hml2:=lt_of_getElem? h02
 have hvc:=hvu.enc_upto
 rw [SV.enc_eq] at hvc
 simp only [uptoL,AVal.upto,true_and,and_true] at hvc
 have hd:decide (t=0)=false:=decide_eq_false ht
 have hgf:fcells f'=[aI f.fn,aI f.blk,aI ((f.pos:Int)+1),aI f.to,.mm f.mid]:=hc1.symm
 have hmapu:uptoE O2.length ((putS' f.vals i.to v).map ent):=entE fun x hx=>by
  rcases mem_putS' hx with q | q
  ·exact hu2 x q
  rw [q]
  exact hvu
 have hstop:=stop_spec hup2 h02 t 0
 obtain⟨O3,hO3⟩:∃O3,O3=O2.set 2 (.cells (mcells u (m2.stop t 0))):=⟨_,rfl⟩
 have hlen3:O2.length=O3.length:=by rw [hO3];simp
 rw [←hO3] at hstop ⊢
 have hf3:O3[f.fid]?=some (.cells (fcells f')):=by rw [hO3];exact at_set_ne hf2 hn0.symm
 have hv3:O3[f.mid]?=some (.map (.int .i64) (f.vals.map ent)):=by rw [hO3];exact at_set_ne hv2 nm0.symm
 rw [hgf] at hf3
 have hup3:∀o∈O3.set f.mid (.map (.int .i64) ((putS' f.vals i.to v).map ent)),o.upto O3.length:=by
  rw [←hlen3]
  refine uptoO_set ?_ hmapu
  rw [hO3]
  exact uptoO_cells hup2 h02 (fun h=>mcells_upto h rfl)
 have htk:=take_set_len (O:=O3) (k:=f.mid) (x:=.map (.int .i64) ((putS' f.vals i.to v).map ent))
 refine ecall_of hT true (O2.length) Try.func61 rfl (by kernel_rfl) (by simp [Try.ntmps61]) (by assumption) ?_
 show AWP Try.prog _ _ _ ⟨137,_,_⟩
 dsimp only [Tmp,TypeId,slotsOf]
 refine zg1 ?_
 simp -dsimp only [simprocAttr,↓vpre,zp,hm0,hr1,Nat.mul_one,hst,hcs]
 repeat(refine⟨by omega,?_⟩)
 refine⟨ob (by kernel_rfl),?_⟩
 refine za0 ?_
 refine zg1 ?_
 simp -dsimp only [simprocAttr,↓vpre,zp,hm0,hff,hF,hB,cells7]
 repeat(refine⟨by omega,?_⟩)
 refine⟨orderB_ren [2,f.fid] O.length [.pure,.pure,.pure,.pure,.rd 0,.pure,.pure,.pure,.rd 1,.pure,.pure,.pure,.pure,.pure,.pure,.rd 1,.pure,.pure,.wr 2 [],.wr 3 [2]] (by simp;omega) (by simp;omega) rfl rfl (by kernel_rfl),at_intro ?_⟩
 simp -dsimp only [vend,ne_eq,Nat.reduceEqDiff,reduceCtorEq]
 refine awp_local 3 ([eIs B.params,eInss B.ins,aI B.term.kind,aI B.term.arg,aI B.term.n,eIs B.term.cases,eEdges B.term.to]) [(0,.mp 2 0),(2,.mp f.fid 0),(3,.ip none [eIs B.params,eInss B.ins,aI B.term.kind,aI B.term.arg,aI B.term.n,eIs B.term.cases,eEdges B.term.to])] rfl (by rfl) (by omega) (by simp [putS,dropS,Go.Av.look]) ?_ ?_ ?_
 ·exact hup
 ·simp [AVal.upto,uptoL,hfl,hml0,aI_upto,Edge.map_upto,Ins.map_upto]
 refine zg2 ?_
 simp -dsimp only [simprocAttr,↓vpre,zp,hff]
 refine⟨ob (by kernel_rfl),?_⟩
 refine za0 ?_
 apply zk0 rfl<;>intro h
 ·exact ab h (by omega)
 refine zb0 ?_
 refine zg1 ?_
 simp -dsimp only [simprocAttr,↓vpre,zp,hff,hi,Int.toNat_natCast]
 repeat(refine⟨by omega,?_⟩)
 refine⟨orderB_ren [f.fid] O.length [.pure,.pure,.pure,.pure,.pure,.rd 0,.pure,.pure,.wr 1 [],.wr 2 [1]] (by simp) (by simp;omega) rfl rfl (by kernel_rfl),at_intro ?_⟩
 simp -dsimp only [vend,ne_eq,Nat.reduceEqDiff,reduceCtorEq]
 refine awp_local 4 ([aI i.to,aI i.op,aI i.n,eIs i.args]) [(0,.mp 2 0),(2,.mp f.fid 0),(4,.ip none [aI i.to,aI i.op,aI i.n,eIs i.args])] rfl (by rfl) (by omega) (by simp [putS,dropS,Go.Av.look]) ?_ ?_ ?_
 ·exact hup
 ·simp [AVal.upto,uptoL,hfl,hml0,aI_upto]
 refine zg1 ?_
 simp -dsimp only [simprocAttr,↓vpre,zp,hff,hs,hc1,←hO1]
 repeat(refine⟨by omega,?_⟩)
 refine za0 ?_
 refine zh1 ?_
 refine .inr (.inr ⟨_,htake,later_intro (zj ?_)⟩)
 refine za0 ?_
 refine zh1 (za0 ?_)
 refine awp_block ?_
 refine zh1 (za0 ?_)
 apply zk0 rfl<;>intro h
 ·exact ab h (by omega)
 refine zh1 (za0 ?_)
 apply zk0 rfl<;>intro h
 ·exact ab h (by omega)
 refine zh1 ?_
 refine .inr (.inl ⟨_,_,hC,.inl (later_intro (zj ?_))⟩)
 refine za0 ?_
 refine awp_local 7 [aI v.kind,aI v.n,.lst 4 (v.list.map SV.enc) .sh,eP v.arr] [(0,.mp 2 0),(2,.mp f.fid 0),(4,.ip none [aI i.to,aI i.op,aI i.n,eIs i.args]),(7,.ip none [aI v.kind,aI v.n,.lst 4 (v.list.map SV.enc) .sh,eP v.arr]),(8,aI t)] rfl (by simp only [List.map_cons,List.map_nil,shareCell_v,shareCell_lst,eP_shareCell]) (by omega) (by simp [putS,dropS,Go.Av.look]) hup2 ?_ ?_
 ·simp [AVal.upto,uptoL,hfl2,hml2,aI_upto,hvc]
 refine zg2 ?_
 simp -dsimp only [simprocAttr,↓vpre,zp,hd]
 refine za0 ?_
 refine zw0 rfl ?_
 refine zh0 ?_
 refine .inr (.inl ⟨_,_,hstop,.inl (later_intro (zj ?_))⟩)
 refine za0 ?_
 refine zg0 ?_
 simp -dsimp only [simprocAttr,↓vpre,zp,hf3,hv3,put_ent]
 refine⟨ob (by kernel_rfl),?_⟩
 (refine at_intro ?_;simp -dsimp only [vend,ne_eq,Nat.reduceEqDiff,reduceCtorEq])
 skip
 simp -dsimp only [simprocAttr,↓vpre,zp,zr,Try.results61,hlen3,htk,List.length_set]
 exact⟨hup3,trivial⟩
end Go.Proofs.Ytkhnjeblbiocaaa
namespace Go.Proofs.Ytkhnjeblbiocaaa
open Go.Av
def Holds(L:List (Nat×AObj))(O:List AObj):Prop:=∀p∈L,O[p.1]?=some p.2
def keysN(L:List (Nat×AObj)):List Nat:=L.map Prod.fst
theorem keysN_append(A B:List (Nat×AObj)):keysN (A++B)=keysN A++keysN B:=by simp [keysN]
theorem keysN_cons(p:Nat×AObj)(B:List (Nat×AObj)):keysN (p::B)=p.1::keysN B:=rfl
theorem mem_keysN{L:List (Nat×AObj)}{p:Nat×AObj}(h:p∈L):p.1∈keysN L:=List.mem_map.2 ⟨p,h,rfl⟩
theorem holds_set{A B:List (Nat×AObj)}{id:Nat}{y x:AObj}{O:List AObj}(h:Holds (A++(id,y)::B) O)(hn:(keysN (A++(id,y)::B)).Nodup):Holds (A++(id,x)::B) (O.set id x):=by
 rw [keysN_append,keysN_cons,List.nodup_append] at hn
 obtain⟨_,hB,hAB⟩:=hn
 rw [List.nodup_cons] at hB
 intro p hp
 rcases List.mem_append.1 hp with q | q
 ·have hne:id≠p.1:=fun e=>hAB p.1 (mem_keysN q) id List.mem_cons_self e.symm
  exact at_set_ne (h p (by simp [q])) hne
 rcases List.mem_cons.1 q with rfl | q
 ·exact at_set (h (id,y) (by simp))
 have hne:id≠p.1:=fun e=>hB.1 (by
  show id∈keysN B
  rw [e]
  exact mem_keysN q)
 exact at_set_ne (h p (by simp [q])) hne
theorem keysN_set(A B:List (Nat×AObj))(id:Nat)(y x:AObj):keysN (A++(id,y)::B)=keysN (A++(id,x)::B):=by simp [keysN]
theorem Holds.sub{L M:List (Nat×AObj)}{O:List AObj}(h:Holds L O)(hs:∀p∈M,p∈L):Holds M O:=fun p hp=>h p (hs p hp)
theorem Holds.lt{L:List (Nat×AObj)}{O:List AObj}(h:Holds L O):∀k∈keysN L,k<O.length:=fun k hk=>by
 obtain⟨p,hp,rfl⟩:=List.mem_map.1 hk
 exact lt_of_getElem? (h p hp)
def frs:List Fr→List (Nat×AObj)
 | []=>[]
 | f::r=>(f.fid,.cells (fcells f))::(f.mid,.map (.int .i64) (f.vals.map ent))::frs r
def ars:List Arr→List (Nat×AObj)
 | []=>[]
 | a::r=>(a.vid,.cells [.ms a.bid 0 a.l.length a.l.length])::(a.bid,.cells (cellsAll (a.l.map SV.enc)))::ars r
theorem ars_append(A B:List Arr):ars (A++B)=ars A++ars B:=by
 induction A with
 | nil=>rfl
 | cons a r ih=>simp [ars,ih]
def objsOf(u:Unt)(m:Mach)(rest:List AVal):List (Nat×AObj) :=
 (1,.cells [.lst 1 [] .ex,aI 0,aI 0])::(2,.cells (mcells u m))::(3,.spare m.out.length)::(m.sid,.cells (ptrs m.frames++rest))::(frs m.frames++ars m.heap)
structure Tl(u:Unt)(m:Mach)(rest:List AVal)(O:List AObj):Prop where
 len:O.length=m.next
 upto:∀o∈O,o.upto O.length
 holds:Holds (objsOf u m rest) O
 nodup:(keysN (objsOf u m rest)).Nodup
namespace Tl
variable {u:Unt} {m:Mach} {rest:List AVal} {O:List AObj}
theorem mach(h:Tl u m rest O):O[2]?=some (.cells (mcells u m)):=h.holds (2,_) (by simp [objsOf])
theorem outs(h:Tl u m rest O):O[3]?=some (.spare m.out.length):=h.holds (3,_) (by simp [objsOf])
theorem stack(h:Tl u m rest O):O[m.sid]?=some (.cells (ptrs m.frames++rest)):=h.holds (m.sid,_) (by simp [objsOf])
theorem frs_mem{l:List Fr}{f:Fr}(hf:f∈l):(f.fid,AObj.cells (fcells f))∈frs l∧(f.mid,AObj.map (.int .i64) (f.vals.map ent))∈frs l:=by
 induction l with
 | nil=>simp at hf
 | cons g r ih =>
  rcases List.mem_cons.1 hf with rfl | hf
  ·simp [frs]
  simp [frs,ih hf]
theorem ars_mem{l:List Arr}{a:Arr}(ha:a∈l):(a.vid,AObj.cells [.ms a.bid 0 a.l.length a.l.length])∈ars l∧(a.bid,AObj.cells (cellsAll (a.l.map SV.enc)))∈ars l:=by
 induction l with
 | nil=>simp at ha
 | cons g r ih =>
  rcases List.mem_cons.1 ha with rfl | ha
  ·simp [ars]
  simp [ars,ih ha]
theorem frame(h:Tl u m rest O){f:Fr}(hf:f∈m.frames):O[f.fid]?=some (.cells (fcells f))∧O[f.mid]?=some (.map (.int .i64) (f.vals.map ent)) :=
 ⟨h.holds (f.fid,_) (by simp [objsOf,frs_mem hf]),h.holds (f.mid,_) (by simp [objsOf,frs_mem hf])⟩
theorem arr(h:Tl u m rest O){a:Arr}(ha:a∈m.heap):O[a.vid]?=some (.cells [.ms a.bid 0 a.l.length a.l.length])∧O[a.bid]?=some (.cells (cellsAll (a.l.map SV.enc))) :=
 ⟨h.holds (a.vid,_) (by simp [objsOf,ars_mem ha]),h.holds (a.bid,_) (by simp [objsOf,ars_mem ha])⟩
theorem under(h:Tl u m rest O){v:SV}(hv:VOK u m v):SV.Under O.length v :=
 SV.Wf.under (fun id ⟨a,ha,e⟩=>by
  rw [←e]
  exact lt_of_getElem? (h.arr ha).1) hv
theorem setMach(h:Tl u m rest O)(m':Mach)(h1:m'.sid=m.sid)(h2:m'.frames=m.frames)(h3:m'.heap=m.heap)(h4:m'.out.length=m.out.length)(h5:m'.next=m.next):Tl u m' rest (O.set 2 (.cells (mcells u m'))):=by
 have e:objsOf u m' rest=[(1,.cells [.lst 1 [] .ex,aI 0,aI 0])]++(2,.cells (mcells u m'))::((3,.spare m.out.length)::(m.sid,.cells (ptrs m.frames++rest))::(frs m.frames++ars m.heap)):=by
  simp [objsOf,h1,h2,h3,h4]
 refine⟨by simp [h.len,h5],?_,?_,?_⟩
 ·rw [List.length_set]
  exact uptoO_cells h.upto h.mach (fun q=>mcells_upto q h1)
 ·rw [e]
  exact holds_set (A:=[_]) (y:=.cells (mcells u m)) h.holds h.nodup
 rw [e,←keysN_set _ _ _ (.cells (mcells u m))]
 exact h.nodup
theorem setOut(h:Tl u m rest O)(m':Mach)(h1:m'.sid=m.sid)(h2:m'.frames=m.frames)(h3:m'.heap=m.heap)(h5:m'.next=m.next):Tl u m' rest ((O.set 3 (.spare m'.out.length)).set 2 (.cells (mcells u m'))):=by
 have e:objsOf u m' rest=[(1,.cells [.lst 1 [] .ex,aI 0,aI 0])]++(2,.cells (mcells u m'))::((3,.spare m'.out.length)::(m.sid,.cells (ptrs m.frames++rest))::(frs m.frames++ars m.heap)):=by
  simp [objsOf,h1,h2,h3]
 have hs:=holds_set (A:=[(1,.cells [.lst 1 [] .ex,aI 0,aI 0]),(2,.cells (mcells u m))]) (x:=.spare m'.out.length) (y:=.spare m.out.length) h.holds h.nodup
 have hk:=keysN_set [(1,.cells [.lst 1 [] .ex,aI 0,aI 0]),(2,.cells (mcells u m))] ((m.sid,.cells (ptrs m.frames++rest))::(frs m.frames++ars m.heap)) 3 (.spare m.out.length) (.spare m'.out.length)
 have hn:(keysN ([(1,.cells [.lst 1 [] .ex,aI 0,aI 0]),(2,.cells (mcells u m))]++(3,.spare m'.out.length)::((m.sid,.cells (ptrs m.frames++rest))::(frs m.frames++ars m.heap)))).Nodup:=by
  rw [←hk]
  exact h.nodup
 refine⟨by simp [h.len,h5],?_,?_,?_⟩
 ·rw [List.length_set,List.length_set]
  exact uptoO_cells (uptoO_set h.upto trivial) (at_set_ne h.mach (by omega)) (fun q=>mcells_upto q h1)
 ·rw [e]
  exact holds_set (A:=[_]) (y:=.cells (mcells u m)) hs hn
 rw [e,←keysN_set _ _ _ (.cells (mcells u m))]
 exact hn
theorem setTop(h:Tl u m rest O){f f':Fr}{r:List Fr}(hfr:m.frames=f::r)(h1:f'.fid=f.fid)(h2:f'.mid=f.mid)(h3:f'.vals=f.vals):Tl u (m.setTop f') rest (O.set f.fid (.cells (fcells f'))):=by
 have hm:mcells u (m.setTop f')=mcells u m:=by simp [mcells,Mach.setTop,hfr]
 have hp:ptrs (f'::r)=ptrs (f::r):=by simp [ptrs,h1]
 have e:objsOf u (m.setTop f') rest=[(1,.cells [.lst 1 [] .ex,aI 0,aI 0]),(2,.cells (mcells u m)),(3,.spare m.out.length),(m.sid,.cells (ptrs m.frames++rest))]++(f.fid,.cells (fcells f'))::((f.mid,.map (.int .i64) (f.vals.map ent))::(frs r++ars m.heap)):=by
  unfold objsOf
  rw [hm]
  simp [Mach.setTop,hfr,frs,h1,h2,h3,hp]
 have e0:objsOf u m rest=[(1,.cells [.lst 1 [] .ex,aI 0,aI 0]),(2,.cells (mcells u m)),(3,.spare m.out.length),(m.sid,.cells (ptrs m.frames++rest))]++(f.fid,.cells (fcells f))::((f.mid,.map (.int .i64) (f.vals.map ent))::(frs r++ars m.heap)):=by
  simp [objsOf,hfr,frs]
 have hh:=h.holds
 have hn:=h.nodup
 rw [e0] at hh hn
 refine⟨by simp [h.len,Mach.setTop],?_,?_,?_⟩
 ·rw [List.length_set]
  refine uptoO_cells h.upto (h.frame (f:=f) (by rw [hfr];simp)).1 (fun q=>?_)
  simp only [fcells,uptoL,AVal.upto,true_and,and_true,h2] at q ⊢
  exact q
 ·rw [e]
  exact holds_set hh hn
 rw [e,←keysN_set _ _ _ (.cells (fcells f))]
 exact hn
theorem setVals(h:Tl u m rest O){f f':Fr}{r:List Fr}(hfr:m.frames=f::r)(h1:f' = { f with vals:=f'.vals })(hu:∀e∈f'.vals,SV.Under O.length e.2):Tl u (m.setTop f') rest (O.set f.mid (.map (.int .i64) (f'.vals.map ent))):=by
 have hm:mcells u (m.setTop f')=mcells u m:=by simp [mcells,Mach.setTop,hfr]
 have hfid:f'.fid=f.fid:=by rw [h1]
 have hmid:f'.mid=f.mid:=by rw [h1]
 have hfc:fcells f'=fcells f:=by rw [h1];rfl
 have hp:ptrs (f'::r)=ptrs (f::r):=by simp [ptrs,hfid]
 have e:objsOf u (m.setTop f') rest=[(1,.cells [.lst 1 [] .ex,aI 0,aI 0]),(2,.cells (mcells u m)),(3,.spare m.out.length),(m.sid,.cells (ptrs m.frames++rest)),(f.fid,.cells (fcells f))]++(f.mid,.map (.int .i64) (f'.vals.map ent))::(frs r++ars m.heap):=by
  unfold objsOf
  rw [hm]
  simp [Mach.setTop,hfr,frs,hfid,hmid,hfc,hp]
 have e0:objsOf u m rest=[(1,.cells [.lst 1 [] .ex,aI 0,aI 0]),(2,.cells (mcells u m)),(3,.spare m.out.length),(m.sid,.cells (ptrs m.frames++rest)),(f.fid,.cells (fcells f))]++(f.mid,.map (.int .i64) (f.vals.map ent))::(frs r++ars m.heap):=by
  simp [objsOf,hfr,frs]
 have hh:=h.holds
 have hn:=h.nodup
 rw [e0] at hh hn
 refine⟨by simp [h.len,Mach.setTop],?_,?_,?_⟩
 ·rw [List.length_set]
  exact uptoO_set h.upto (entE hu)
 ·rw [e]
  exact holds_set hh hn
 rw [e,←keysN_set _ _ _ (.map (.int .i64) (f.vals.map ent))]
 exact hn
theorem pop(h:Tl u m rest O){f g g':Fr}{r:List Fr}(hfr:m.frames=f::g::r)(h1:g' = { g with vals:=g'.vals })(hu:∀e∈g'.vals,SV.Under O.length e.2)(m':Mach)(hm':m' = { m with frames:=g'::r }) :
  Tl u m' (.mp f.fid 0::rest) ((O.set 2 (.cells (mcells u m'))).set g.mid (.map (.int .i64) (g'.vals.map ent))):=by
 have hfid:g'.fid=g.fid:=by rw [h1]
 have hmid:g'.mid=g.mid:=by rw [h1]
 have hfc:fcells g'=fcells g:=by rw [h1];rfl
 have hp:ptrs (f::g::r)++rest=ptrs (g'::r)++.mp f.fid 0::rest:=by simp [ptrs,hfid]
 have e0:objsOf u m rest=[(1,.cells [.lst 1 [] .ex,aI 0,aI 0])]++(2,.cells (mcells u m))::((3,.spare m.out.length)::(m.sid,.cells (ptrs (g'::r)++.mp f.fid 0::rest))::(f.fid,.cells (fcells f))::(f.mid,.map (.int .i64) (f.vals.map ent))::(g.fid,.cells (fcells g))::(g.mid,.map (.int .i64) (g.vals.map ent))::(frs r++ars m.heap)):=by
  simp [objsOf,hfr,frs,←hp]
 have e1:objsOf u m' (.mp f.fid 0::rest)=[(1,.cells [.lst 1 [] .ex,aI 0,aI 0]),(2,.cells (mcells u m')),(3,.spare m.out.length),(m.sid,.cells (ptrs (g'::r)++.mp f.fid 0::rest)),(g.fid,.cells (fcells g))]++(g.mid,.map (.int .i64) (g'.vals.map ent))::(frs r++ars m.heap):=by
  rw [hm']
  simp [objsOf,frs,hfid,hmid,hfc]
 have hh:=h.holds
 have hn:=h.nodup
 rw [e0] at hh hn
 have h2:=holds_set (x:=.cells (mcells u m')) hh hn
 have hsub:∀p∈[(1,AObj.cells [.lst 1 [] .ex,aI 0,aI 0]),(2,.cells (mcells u m')),(3,.spare m.out.length),(m.sid,.cells (ptrs (g'::r)++.mp f.fid 0::rest)),(g.fid,.cells (fcells g))]++(g.mid,.map (.int .i64) (g.vals.map ent))::(frs r++ars m.heap),p∈[(1,.cells [.lst 1 [] .ex,aI 0,aI 0])]++(2,.cells (mcells u m'))::((3,.spare m.out.length)::(m.sid,.cells (ptrs (g'::r)++.mp f.fid 0::rest))::(f.fid,.cells (fcells f))::(f.mid,.map (.int .i64) (f.vals.map ent))::(g.fid,.cells (fcells g))::(g.mid,.map (.int .i64) (g.vals.map ent))::(frs r++ars m.heap)):=by
  intro p hp
  simp only [List.cons_append,List.nil_append,List.mem_cons] at hp ⊢
  rcases hp with q | q | q | q | q | q | q
  all_goals simp [q]
 have hn3:(keysN ([(1,AObj.cells [.lst 1 [] .ex,aI 0,aI 0]),(2,.cells (mcells u m')),(3,.spare m.out.length),(m.sid,.cells (ptrs (g'::r)++.mp f.fid 0::rest)),(g.fid,.cells (fcells g))]++(g.mid,.map (.int .i64) (g.vals.map ent))::(frs r++ars m.heap))).Nodup:=by
  refine List.Nodup.sublist ?_ hn
  simp only [keysN,List.map_cons,List.map_append,List.map_nil,List.cons_append,List.nil_append]
  exact((((List.Sublist.refl _).cons _).cons _).cons₂ _ |>.cons₂ _ |>.cons₂ _ |>.cons₂ _)
 have hg:=h2.sub hsub
 refine⟨by rw [hm'];simp [h.len],?_,?_,?_⟩
 ·rw [List.length_set,List.length_set]
  refine uptoO_set (uptoO_cells h.upto h.mach (fun q=>mcells_upto q (by rw [hm']))) (entE hu)
 ·rw [e1]
  exact holds_set hg hn3
 rw [e1,←keysN_set _ _ _ (.map (.int .i64) (g.vals.map ent))]
 exact hn3
theorem last(h:Tl u m rest O){f:Fr}(hfr:m.frames=[f])(m':Mach)(h1:m'.sid=m.sid)(h2:m'.frames=[])(h3:m'.heap=m.heap)(h4:m'.out.length=m.out.length)(h5:m'.next=m.next):Tl u m' (.mp f.fid 0::rest) (O.set 2 (.cells (mcells u m'))):=by
 have e0:objsOf u m rest=[(1,.cells [.lst 1 [] .ex,aI 0,aI 0])]++(2,.cells (mcells u m))::((3,.spare m.out.length)::(m.sid,.cells (.mp f.fid 0::rest))::(f.fid,.cells (fcells f))::(f.mid,.map (.int .i64) (f.vals.map ent))::ars m.heap):=by
  simp [objsOf,hfr,frs,ptrs]
 have e1:objsOf u m' (.mp f.fid 0::rest)=[(1,.cells [.lst 1 [] .ex,aI 0,aI 0]),(2,.cells (mcells u m')),(3,.spare m.out.length),(m.sid,.cells (.mp f.fid 0::rest))]++ars m.heap:=by
  simp [objsOf,h1,h2,h3,h4,frs,ptrs]
 have hh:=h.holds
 have hn:=h.nodup
 rw [e0] at hh hn
 refine⟨by simp [h.len,h5],?_,?_,?_⟩
 ·rw [List.length_set]
  exact uptoO_cells h.upto h.mach (fun q=>mcells_upto q h1)
 ·rw [e1]
  refine(holds_set (x:=.cells (mcells u m')) hh hn).sub fun p hp=>?_
  simp only [List.cons_append,List.nil_append,List.mem_cons] at hp ⊢
  rcases hp with q | q | q | q | q
  all_goals simp [q]
 rw [e1]
 refine List.Nodup.sublist ?_ hn
 simp only [keysN,List.map_cons,List.map_append,List.map_nil,List.cons_append,List.nil_append]
 exact((((List.Sublist.refl _).cons _).cons _).cons₂ _ |>.cons₂ _ |>.cons₂ _ |>.cons₂ _)
end Tl
end Go.Proofs.Ytkhnjeblbiocaaa
namespace Go.Proofs.Ytkhnjeblbiocaaa
open Go.Av
namespace Tl
variable {u:Unt} {m:Mach} {rest:List AVal} {O:List AObj}
theorem keys(u:Unt)(m:Mach)(rest:List AVal):keysN (objsOf u m rest)=1::2::3::m.sid::keysN (frs m.frames++ars m.heap):=rfl
theorem others(h:Tl u m rest O):Holds (frs m.frames++ars m.heap) O∧(∀k∈keysN (frs m.frames++ars m.heap),k≠1∧k≠2∧k≠3∧k≠m.sid∧k<O.length)∧(keysN (frs m.frames++ars m.heap)).Nodup∧m.sid≠1∧m.sid≠2∧m.sid≠3∧m.sid<O.length∧3<O.length:=by
 have hn:=h.nodup
 have hlt:=h.holds.lt
 rw [keys] at hn hlt
 simp only [List.nodup_cons,List.mem_cons,not_or] at hn
 obtain⟨⟨a1,a2,a3,a4⟩,⟨b1,b2,b3⟩,⟨c1,c2⟩,d,e⟩:=hn
 refine⟨fun p hp=>h.holds p (by simp only [objsOf,List.mem_cons];exact .inr (.inr (.inr (.inr hp)))),fun k hk=>⟨?_,?_,?_,?_,hlt k (by simp [hk])⟩,e,fun q=>a3 q.symm,fun q=>b2 q.symm,fun q=>c1 q.symm,hlt _ (by simp),hlt 3 (by simp)⟩
 ·rintro rfl;exact a4 hk
 ·rintro rfl;exact b3 hk
 ·rintro rfl;exact c2 hk
 rintro rfl;exact d hk
theorem push(h:Tl u m rest O)(fn to:Int)(args:List SV)(m':Mach)(hm':m'=m.enter u fn args to)(hu:∀v∈args,SV.Under O.length v) :
  Tl u m' [] (((O.set m.sid .gone).set 2 (.cells (mcells u m'))) ++
   [.map (.int .i64) ((bindS [] (blkOf (fnOf u fn) 0).params args).map ent),.cells [aI fn,aI 0,aI 0,aI to,.mm O.length],.cells (pushCells (ptrs m.frames++rest) m.frames.length (O.length+1))]):=by
 obtain⟨ho,hk,hnd,s1,s2,s3,s4,s5⟩:=h.others
 have hN:=h.len
 have hpl:(ptrs m.frames).length=m.frames.length:=by simp [ptrs]
 obtain⟨O2,hO2⟩:∃O2,O2=(O.set m.sid .gone).set 2 (.cells (mcells u m')):=⟨_,rfl⟩
 have hl2:O2.length=O.length:=by rw [hO2];simp
 have hpc:pushCells (ptrs m.frames++rest) m.frames.length (O.length+1)=ptrs m'.frames++[]:=by
  rw [hm']
  unfold pushCells
  rw [List.take_append_of_le_length (by omega),List.take_of_length_le (by omega)]
  simp [ptrs,Mach.enter,hN]
 rw [hpc,←hO2]
 have e1:objsOf u m' []=(1,.cells [.lst 1 [] .ex,aI 0,aI 0])::(2,.cells (mcells u m'))::(3,.spare m.out.length)::(O.length+2,.cells (ptrs m'.frames++[]))::(O.length+1,.cells [aI fn,aI 0,aI 0,aI to,.mm O.length])::(O.length,.map (.int .i64) ((bindS [] (blkOf (fnOf u fn) 0).params args).map ent))::(frs m.frames++ars m.heap):=by
  rw [hm']
  simp [objsOf,Mach.enter,frs,hN,fcells]
 have hold:∀k o,O[k]?=some o→k≠m.sid→k≠2→∀X,(O2++X)[k]?=some o:=fun k o hk h1 h2 X=>by
  refine at_left ?_
  rw [hO2]
  exact at_set_ne (at_set_ne hk (Ne.symm h1)) (Ne.symm h2)
 refine⟨by rw [hm'];simp [hl2,Mach.enter,hN],?_,?_,?_⟩
 ·have hlen:(O2++[AObj.map (.int .i64) ((bindS [] (blkOf (fnOf u fn) 0).params args).map ent),.cells [aI fn,aI 0,aI 0,aI to,.mm O.length],.cells (ptrs m'.frames++[])]).length=O.length+3:=by simp [hl2]
  rw [hlen]
  intro o ho'
  rcases List.mem_append.1 ho' with q | q
  ·rw [hO2] at q
   refine uptoO_cells (n:=O.length+3) (ds:=mcells u m') (uptoO_set (k:=m.sid) (x:=.gone) (fun o ho=>AObj.upto_mono (by omega) (h.upto o ho)) trivial) (at_set_ne h.mach s2) (fun q=>?_) o q
   simp only [mcells,uptoL,AVal.upto,aI_upto,Func.map_upto,true_and,and_true,hm',Mach.enter] at q ⊢
   omega
  simp only [List.mem_cons,List.mem_nil_iff,or_false] at q
  rcases q with rfl | rfl | rfl
  ·refine entE fun x hx=>?_
   rcases mem_bindS hx with q | q
   ·simp at q
   exact(hu _ q).mono (by omega)
  ·simp [AObj.upto,uptoL,AVal.upto]
  simp only [AObj.upto,List.append_nil,uptoL_iff]
  intro x hx
  simp only [ptrs,List.mem_map,List.mem_reverse] at hx
  obtain⟨f,hf,rfl⟩:=hx
  rw [hm'] at hf
  simp only [Mach.enter,List.mem_cons] at hf
  rcases hf with rfl | hf
  ·simp [AVal.upto,hN]
  have:=lt_of_getElem? (h.frame hf).1
  simp only [AVal.upto]
  omega
 ·rw [e1]
  intro p hp
  simp only [List.mem_cons] at hp
  rcases hp with rfl | rfl | rfl | rfl | rfl | rfl | hp
  ·exact hold 1 _ (h.holds (1,_) (by simp [objsOf])) (fun e=>s1 e.symm) (by omega) _
  ·refine at_left ?_
   rw [hO2]
   exact at_set (at_set_ne h.mach s2)
  ·exact hold 3 _ h.outs (fun e=>s3 e.symm) (by omega) _
  ·show(O2++_)[O.length+2]?=_
   rw [←hl2,at_newk]
   rfl
  ·show(O2++_)[O.length+1]?=_
   rw [←hl2,at_newk]
   rfl
  ·show(O2++_)[O.length]?=_
   rw [←hl2,at_newz]
   rfl
  have:=hk p.1 (mem_keysN hp)
  exact hold p.1 _ (ho p hp) this.2.2.2.1 this.2.1 _
 rw [e1]
 simp only [keysN_cons,List.nodup_cons,List.mem_cons,not_or]
 refine⟨⟨by omega,by omega,by omega,by omega,by omega,fun q=>(hk 1 q).1 rfl⟩,⟨by omega,by omega,by omega,by omega,fun q=>(hk 2 q).2.1 rfl⟩,⟨by omega,by omega,by omega,fun q=>(hk 3 q).2.2.1 rfl⟩,⟨by omega,by omega,fun q=>?_⟩,⟨by omega,fun q=>?_⟩,fun q=>?_,hnd⟩
 ·have:=(hk _ q).2.2.2.2
  omega
 ·have:=(hk _ q).2.2.2.2
  omega
 have:=(hk _ q).2.2.2.2
 omega
theorem setArr_split:∀(l:List Arr) (a:Arr) (x:List SV),a∈l→(keysN (ars l)).Nodup→∃X Y,l=X++a::Y∧Mach.setArr l (some a.vid) x=X++⟨a.vid,a.bid,x⟩::Y
 | [],_,_,h,_=>by simp at h
 | b::r,a,x,h,hn=>by
  unfold Mach.setArr
  rcases List.mem_cons.1 h with rfl | h
  ·exact⟨[],r,rfl,by simp⟩
  have hne:some a.vid≠some b.vid:=fun e=>by
   simp only [Option.some.injEq] at e
   simp only [ars,keysN_cons,List.nodup_cons,List.mem_cons,not_or] at hn
   exact hn.1.2 (by
    rw [←e]
    exact mem_keysN (ars_mem h).1)
  rw [if_neg hne]
  simp only [ars,keysN_cons,List.nodup_cons] at hn
  obtain⟨X,Y,h1,h2⟩:=setArr_split r a x h hn.2.2
  exact⟨b::X,Y,by simp [h1],by simp [h2]⟩
theorem setHeap(h:Tl u m rest O){a:Arr}(ha:a∈m.heap)(l:List SV)(hl:l.length=a.l.length)(hu:∀v∈l,SV.Under O.length v)(m':Mach)(hm':m' = { m with heap:=Mach.setArr m.heap (some a.vid) l }):Tl u m' rest (O.set a.bid (.cells (cellsAll (l.map SV.enc)))):=by
 obtain⟨ho,hk,hnd,s1,s2,s3,s4,s5⟩:=h.others
 obtain⟨X,Y,e1,e2⟩:=setArr_split m.heap a l ha (by
  rw [keysN_append,List.nodup_append] at hnd
  exact hnd.2.1)
 have hmc:mcells u m'=mcells u m:=by rw [hm'];rfl
 have e0:objsOf u m rest=((1,.cells [.lst 1 [] .ex,aI 0,aI 0])::(2,.cells (mcells u m))::(3,.spare m.out.length)::(m.sid,.cells (ptrs m.frames++rest))::(frs m.frames++(ars X++[(a.vid,.cells [.ms a.bid 0 a.l.length a.l.length])])))++(a.bid,.cells (cellsAll (a.l.map SV.enc)))::ars Y:=by
  unfold objsOf
  rw [e1,ars_append]
  simp [ars]
 have e3:objsOf u m' rest=((1,.cells [.lst 1 [] .ex,aI 0,aI 0])::(2,.cells (mcells u m))::(3,.spare m.out.length)::(m.sid,.cells (ptrs m.frames++rest))::(frs m.frames++(ars X++[(a.vid,.cells [.ms a.bid 0 a.l.length a.l.length])])))++(a.bid,.cells (cellsAll (l.map SV.enc)))::ars Y:=by
  unfold objsOf
  rw [hmc,hm']
  simp only [e2,ars_append]
  simp [ars,hl]
 have hh:=h.holds
 have hn:=h.nodup
 rw [e0] at hh hn
 refine⟨by rw [hm'];simp [h.len],?_,?_,?_⟩
 ·rw [List.length_set]
  exact uptoO_set h.upto (SV.cells_upto hu)
 ·rw [e3]
  exact holds_set hh hn
 rw [e3,←keysN_set _ _ _ (.cells (cellsAll (a.l.map SV.enc)))]
 exact hn
theorem addHeap(h:Tl u m rest O)(l:List SV)(m':Mach)(J:List AObj)(hJ:J.length=7)(hJu:∀o∈J,o.upto (O.length+9))(hu:∀v∈l,SV.Under O.length v)(h1:m'.sid=m.sid)(h2:m'.frames=m.frames)(h3:m'.heap=m.heap++[⟨m.next+8,m.next+7,l⟩])(h4:m'.out=m.out)(h5:m'.next=m.next+9) :
  Tl u m' rest (O.set 2 (.cells (mcells u m'))++(J++[.cells (cellsAll (l.map SV.enc)),.cells [.ms (O.length+7) 0 l.length l.length]])):=by
 obtain⟨ho,hk,hnd,s1,s2,s3,s4,s5⟩:=h.others
 have hN:=h.len
 obtain⟨O2,hO2⟩:∃O2,O2=O.set 2 (.cells (mcells u m')):=⟨_,rfl⟩
 have hl2:O2.length=O.length:=by rw [hO2];simp
 rw [←hO2]
 have e1:objsOf u m' rest=(1,.cells [.lst 1 [] .ex,aI 0,aI 0])::(2,.cells (mcells u m'))::(3,.spare m.out.length)::(m.sid,.cells (ptrs m.frames++rest))::((frs m.frames++ars m.heap)++[(O.length+8,.cells [.ms (O.length+7) 0 l.length l.length]),(O.length+7,.cells (cellsAll (l.map SV.enc)))]):=by
  simp [objsOf,h1,h2,h3,h4,ars_append,ars,hN]
 have hold:∀k o,O[k]?=some o→k≠2→∀X,(O2++X)[k]?=some o:=fun k o hk h2 X=>by
  refine at_left ?_
  rw [hO2]
  exact at_set_ne hk (Ne.symm h2)
 refine⟨by simp [hl2,h5,hN,hJ],?_,?_,?_⟩
 ·have hlen:(O2++(J++[AObj.cells (cellsAll (l.map SV.enc)),.cells [.ms (O.length+7) 0 l.length l.length]])).length=O.length+9:=by simp [hl2,hJ]
  rw [hlen]
  intro o ho'
  rcases List.mem_append.1 ho' with q | q
  ·rw [hO2] at q
   exact uptoO_cells (fun o ho=>AObj.upto_mono (by omega) (h.upto o ho)) h.mach (fun q=>mcells_upto q h1) o q
  rcases List.mem_append.1 q with q | q
  ·exact hJu o q
  simp only [List.mem_cons,List.mem_nil_iff,or_false] at q
  rcases q with rfl | rfl
  ·exact SV.cells_upto fun v hv=>(hu v hv).mono (by omega)
  simp [AObj.upto,uptoL,AVal.upto]
 ·rw [e1]
  intro p hp
  simp only [List.mem_cons,List.mem_append,List.mem_nil_iff,or_false] at hp
  have hJ7:∀k,(J++[AObj.cells (cellsAll (l.map SV.enc)),.cells [.ms (O.length+7) 0 l.length l.length]])[7+k]?=[AObj.cells (cellsAll (l.map SV.enc)),.cells [.ms (O.length+7) 0 l.length l.length]][k]?:=fun k=>by
   rw [←hJ]
   exact at_newk
  rcases hp with rfl | rfl | rfl | rfl | hp | rfl | rfl
  ·exact hold 1 _ (h.holds (1,_) (by simp [objsOf])) (by omega) _
  ·refine at_left ?_
   rw [hO2]
   exact at_set h.mach
  ·exact hold 3 _ h.outs (by omega) _
  ·exact hold m.sid _ h.stack s2 _
  ·have:=hk p.1 (mem_keysN (List.mem_append.2 hp))
   exact hold p.1 _ (ho p (List.mem_append.2 hp)) this.2.1 _
  ·show(O2++_)[O.length+8]?=_
   have hx:O.length+8=O2.length+8:=by omega
   rw [hx,at_newk]
   exact hJ7 1
  show(O2++_)[O.length+7]?=_
  have hx:=at_newk (O:=O2) (k:=7) (X:=J++[AObj.cells (cellsAll (l.map SV.enc)),.cells [.ms (O.length+7) 0 l.length l.length]])
  rw [hl2] at hx
  rw [hx]
  exact hJ7 0
 rw [e1]
 simp only [keysN_cons,keysN_append,List.nodup_cons,List.mem_cons,not_or,List.mem_append]
 have hk':∀k,(k∈keysN (frs m.frames)∨k∈keysN (ars m.heap))→k≠1∧k≠2∧k≠3∧k≠m.sid∧k<O.length:=fun k q=>hk k (by rw [keysN_append];exact List.mem_append.2 q)
 refine⟨⟨by omega,by omega,by omega,⟨fun q=>(hk' 1 (.inl q)).1 rfl,fun q=>(hk' 1 (.inr q)).1 rfl⟩,by omega,by omega,by simp [keysN]⟩,⟨by omega,by omega,⟨fun q=>(hk' 2 (.inl q)).2.1 rfl,fun q=>(hk' 2 (.inr q)).2.1 rfl⟩,by omega,by omega,by simp [keysN]⟩,⟨by omega,⟨fun q=>(hk' 3 (.inl q)).2.2.1 rfl,fun q=>(hk' 3 (.inr q)).2.2.1 rfl⟩,by omega,by omega,by simp [keysN]⟩,⟨⟨fun q=>(hk' _ (.inl q)).2.2.2.1 rfl,fun q=>(hk' _ (.inr q)).2.2.2.1 rfl⟩,by omega,by omega,by simp [keysN]⟩,?_⟩
 rw [List.nodup_append]
 rw [keysN_append] at hnd
 refine⟨hnd,by simp [keysN],?_⟩
 intro x hx y hy e
 have:=(hk' x (List.mem_append.1 hx)).2.2.2.2
 simp only [keysN,List.map_nil,List.mem_cons,List.mem_nil_iff,or_false] at hy
 omega
end Tl
end Go.Proofs.Ytkhnjeblbiocaaa
namespace Go.Proofs.Ytkhnjeblbiocaaa
open Go.Av
theorem at_len{l:List SV}{n:Nat}(h:l.length=n){k:Nat}(hk:k<n):∃x,l[k]?=some x:=⟨l[k]'(by omega),List.getElem?_eq_getElem _⟩
theorem two_of{l:List SV}(h:l.length=2):∃x y,l=[x,y]:=by
 match l,h with
 | [x,y],_=>exact⟨x,y,rfl⟩
theorem arrM_under{O:List AObj}{u:Unt}{m:Mach}{rest:List AVal}(ht:Tl u m rest O)(hm:MachOK u m){v:SV}(hv:VOK u m v)(id:Option Nat)(h:id=v.arr):∀x∈Mach.arrOf m.heap id,SV.Under O.length x:=fun x hx=>by
 subst h
 cases hv0:v.arr with
 | none =>
  rw [hv0] at hx
  have:∀l:List Arr,Mach.arrOf l none=[]:=fun l=>by
   induction l with
   | nil=>rfl
   | cons a r ih=>simp [Mach.arrOf,ih]
  rw [this] at hx
  simp at hx
 | some id =>
  obtain⟨a,ha,h1,h2⟩:=arrOf_mem m.heap id (SV.Wf.ref hv id hv0)
  rw [hv0,h2] at hx
  exact ht.under ((hm.arrs a ha).2 x hx)
theorem exec_tells{u:Unt}{m:Mach}{rest:List AVal}{O:List AObj}(ht:Tl u m rest O)(hm:MachOK u m)(hsh:m.short=false){i:Ins}(hi:InsOK u i)(h13:i.op≠13)(h14:i.op≠14){args:List SV}(hal:args.length=i.args.length)(ha:∀v∈args,VOK u m v) :
  ∃O2,ECall Try.prog 75 O [.mp 2 0,i.enc,.lst 4 (args.map SV.enc) .sh] (fun r O3=>r=.tup [(m.exec i args).2.1.enc,aI (m.exec i args).2.2]∧O3=O2)∧Tl u (m.exec i args).1 rest O2∧O.length≤O2.length:=by
 have hup:=ht.upto
 have hl:∀v∈args,SV.Under O.length v:=fun v hv=>ht.under (ha v hv)
 have hword:∀v∈args,v.kind=0→isW v.n:=fun v hv hk=>SV.Wf.num (ha v hv) (.inl hk)
 have hd2:m.left≤2 ^ 40:=by have:=hm.depth;omega
 have hop:=hi.op
 have stay:∀{v:SV} {t:Int},m.exec i args=(m,v,t)→ECall Try.prog 75 O [.mp 2 0,i.enc,.lst 4 (args.map SV.enc) .sh] (fun r O3=>r=.tup [(m.exec i args).2.1.enc,aI (m.exec i args).2.2]∧O3=O) →
   ∃O2,ECall Try.prog 75 O [.mp 2 0,i.enc,.lst 4 (args.map SV.enc) .sh] (fun r O3=>r=.tup [(m.exec i args).2.1.enc,aI (m.exec i args).2.2]∧O3=O2)∧Tl u (m.exec i args).1 rest O2∧O.length≤O2.length:=fun e hC =>
  ⟨O,hC,by rw [e];exact ht,Nat.le_refl _⟩
 by_cases h0:i.op=0
 ·exact stay (v:=.word i.n) (t:=0) (by simp [Mach.exec,h0]) (exec_int (u:=u) hup i args hl h0)
 by_cases h1:1≤i.op∧i.op≤7
 ·have hl2:=hi.c2 (.inl h1)
  obtain⟨x,hx⟩:=at_len (hal.trans hl2) (k:=0) (by omega)
  obtain⟨y,hy⟩:=at_len (hal.trans hl2) (k:=1) (by omega)
  have hC:=exec_arith (u:=u) (m:=m) hup i args hl h1 x y hx hy (hword x (List.mem_of_getElem? hx)) (hword y (List.mem_of_getElem? hy))
  refine⟨O,hC,?_,Nat.le_refl _⟩
  have e:(m.exec i args).1=m:=by
   unfold Mach.exec
   rw [if_neg h0,if_pos h1]
   split<;>rfl
  rw [e]
  exact ht
 by_cases h8:i.op=8
 ·exact stay (v:=.mk 1 i.n args none) (t:=0) (by simp [Mach.exec,h8]) (exec_con (u:=u) hup i args hl h8)
 by_cases h9:i.op=9
 ·exact stay (v:=.mk 2 i.n args none) (t:=0) (by simp [Mach.exec,h9]) (exec_clos (u:=u) hup i args hl h9)
 by_cases h10:i.op=10∨i.op=11∨i.op=12∨i.op=21
 ·have hlen:0<args.length∧(i.op=21→args.length=2):=by
   rcases h10 with q | q | q | q
   ·have:=hi.c1 (by omega);omega
   ·have:=hi.c1 (by omega);omega
   ·have:=hi.c1 (by omega);omega
   have:=hi.c2 (by omega);omega
  obtain⟨x,hx⟩:=at_len rfl hlen.1
  obtain⟨q1,q2⟩:=objectM_ok (i:=i) ha
  have hC:=object_spec hup i args hl x hx (fun a b c=>at_len (hlen.2 (by omega)) (by omega)) (fun e=>hi.sel (.inl e))
  refine stay (v:=(objectM i args).1) (t:=(objectM i args).2) ?_ (exec_obj (u:=u) (m:=m) hup i args hl h10 hC (ht.under q1))
  unfold Mach.exec
  rw [if_neg h0,if_neg h1,if_neg h8,if_neg h9,if_pos h10]
 by_cases h22:i.op=22∨i.op=23∨i.op=24
 ·have h2:i.op≠22→i.op≠24→∃x y,args=[x,y]:=fun a b=>two_of (hal.trans (hi.c2 (by omega)))
  obtain⟨q1,q2⟩:=vectorM_ok (i:=i) ha (fun e=>by have:=hi.pack e;omega) h2
  have hC:=vector_spec hup i args hl (fun e=>at_len (hal.trans (hi.c1 (by omega))) (by omega)) h2 (fun e=>hi.sel (.inr e)) (fun v hv hk=>vec_words (ha v hv) hk)
  refine stay (v:=(vectorM i args).1) (t:=(vectorM i args).2) ?_ (exec_vec (u:=u) (m:=m) hup i args hl h22 hC (ht.under q1))
  unfold Mach.exec
  rw [if_neg h0,if_neg h1,if_neg h8,if_neg h9,if_neg h10,if_pos h22]
 by_cases h100:i.op=100
 ·obtain⟨x,hx⟩:=at_len (hal.trans (hi.c1 (by omega))) (k:=0) (by omega)
  refine stay (v:=argS args 0) (t:=0) (by simp [Mach.exec,h100]) (exec_copy (u:=u) (m:=m) hup i args hl h100 x hx)
 have hn10:i.op≠10∧i.op≠11∧i.op≠12∧i.op≠21:=by omega
 have hn22:i.op≠22∧i.op≠23∧i.op≠24:=by omega
 have hm0:2<O.length:=lt_of_getElem? ht.mach
 have heff:=exec_effect m i args h0 h1 h8 h9 hn10 hn22 h100
 have hok:=effect_ok hm (i:=i) ha
 by_cases h16:i.op=16
 ·obtain⟨x,y,e⟩:=two_of (hal.trans (hi.c2 (by omega)))
  subst e
  have hxu:=hl x (by simp)
  have hyu:=hl y (by simp)
  have he:m.exec i [x,y]=m.allocate x y:=by
   rw [heff]
   simp [Mach.effect,h16,argS]
  rw [he]
  by_cases hgo:x.kind=0∧0≤x.n∧x.n≤1024∧x.n≤m.left
  ·obtain⟨g1,g2,g3,g4⟩:=hgo
   have hps:(m.pay x.n).short=false:=by simp [Mach.pay,show ¬m.left<x.n by omega,hsh]
   have hres:m.allocate x y=({ m.pay x.n with heap:=m.heap++[⟨m.next+8,m.next+7,List.replicate x.n.toNat y⟩],next:=m.next+9 },.mk 3 0 [] (some (m.next+8)),0):=by
    unfold Mach.allocate
    rw [if_neg (by omega),if_neg (by omega),if_neg (by simp [hps])]
   have hC:=exec_go hup ht.mach i x y hxu hyu h16 hm.left hd2 hsh g1 g2 g3 g4
   rw [hres]
   obtain⟨p1,p2,p3,p4,p5,p6,p7⟩:=pay_fields m x.n
   have hmc:mcells u ({ m.pay x.n with heap:=m.heap++[⟨m.next+8,m.next+7,List.replicate x.n.toNat y⟩],next:=m.next+9 }:Mach)=mcells u (m.pay x.n):=rfl
   have htl:=ht.addHeap (List.replicate x.n.toNat y) ({ m.pay x.n with heap:=m.heap++[⟨m.next+8,m.next+7,List.replicate x.n.toNat y⟩],next:=m.next+9 }:Mach)
    [.gone,.cells [aI 3,aI 0,.lst 4 [] .sh,.mp (O.length+8) 0],.gone,.cells [aI 3,aI 0,.lst 4 [] .sh,.mp (O.length+8) 0],.gone,.gone,.cells [aI 3,aI 0,.lst 4 [] .ex,.mp (O.length+8) 0]] rfl (fun o ho=>by
     simp only [List.mem_cons,List.mem_nil_iff,or_false] at ho
     rcases ho with rfl | rfl | rfl | rfl | rfl | rfl | rfl
     all_goals simp [AObj.upto,uptoL,AVal.upto]) (fun v hv=>by
     rw [(List.mem_replicate.1 hv).2]
     exact hyu) p6 p1 rfl p3 rfl
   rw [hmc] at htl
   simp only [List.length_replicate] at htl
   have henc:(SV.mk 3 0 [] (some (m.next+8))).enc=.agg [aI 3,aI 0,.lst 4 [] .sh,.mp (O.length+8) 0]:=by
    rw [SV.enc_mk,ht.len]
    rfl
   refine⟨_,?_,htl,by simp⟩
   simp only [henc]
   exact hC
  have hsame:(m.allocate x y).2.1=.zero∧(m.allocate x y).1.sid=m.sid∧(m.allocate x y).1.frames=m.frames∧(m.allocate x y).1.heap=m.heap∧(m.allocate x y).1.out=m.out∧(m.allocate x y).1.next=m.next:=by
   obtain⟨p1,p2,p3,p4,p5,p6,p7⟩:=pay_fields m x.n
   unfold Mach.allocate
   split
   ·simp
   split
   ·simp
   split
   ·exact⟨rfl,p6,p1,p2,p3,p7⟩
   rename_i a1 a2 a3
   exfalso
   refine hgo ⟨by omega,by omega,by omega,?_⟩
   by_cases q:m.left<x.n
   ·exact absurd (show(m.pay x.n).short=true by simp [Mach.pay,q]) a3
   omega
  obtain⟨b0,b1,b2,b3,b4,b5⟩:=hsame
  have hC:=effect_stay hup ht.mach i x y hxu hyu h16 hm.left hd2 hsh (fun z=>by rw [b0];simp [SV.zero,SV.arr])
  have htl:=ht.setMach (m.allocate x y).1 b1 b2 b3 (by rw [b4]) b5
  exact⟨_,exec_eff hup i [x,y] hl h0 h1 h8 h9 hn10 hn22 h100 hm0 _ _ (by rw [b0];exact zero_under _) hC (by simp) htl.upto,htl,by simp⟩
 rw [heff]
 by_cases h15:i.op=15
 ·obtain⟨x,hx⟩:=at_len (hal.trans (hi.c1 (by omega))) (k:=0) (by omega)
  have hC:=effect_print hup ht.mach ht.outs i args hl h15 x hx hm.out
  have hsame:(m.effect i args).1.sid=m.sid∧(m.effect i args).1.frames=m.frames∧(m.effect i args).1.heap=m.heap∧(m.effect i args).1.next=m.next:=by
   unfold Mach.effect
   rw [if_pos h15]
   split
   ·simp
   split<;>simp
  obtain⟨b1,b2,b3,b4⟩:=hsame
  have htl:=ht.setOut (m.effect i args).1 b1 b2 b3 b4
  have hv:SV.Under O.length (m.effect i args).2.1:=ht.under (hok.val.of_heap (by rw [b3]))
  exact⟨_,exec_eff hup i args hl h0 h1 h8 h9 hn10 hn22 h100 hm0 _ _ hv hC (by simp) htl.upto,htl,by simp⟩
 by_cases h18:i.op=18
 ·obtain⟨x,y,e⟩:=two_of (hal.trans (hi.c2 (by omega)))
  subst e
  have hC:=effect_check (u:=u) (m:=m) hup i x y (hl x (by simp)) (hl y (by simp)) hm0 h18
  have hsame:(m.effect i [x,y]).1=m:=by
   unfold Mach.effect
   rw [if_neg (by omega),if_neg (by omega),if_pos h18]
   split
   ·rfl
   split<;>rfl
  have hv:SV.Under O.length (m.effect i [x,y]).2.1:=ht.under (hok.val.of_heap (by rw [hsame]))
  exact⟨O,exec_eff hup i [x,y] hl h0 h1 h8 h9 hn10 hn22 h100 hm0 _ _ hv hC rfl hup,by rw [hsame];exact ht,Nat.le_refl _⟩
 have hlen:0<args.length∧(i.op≠17→2≤args.length)∧(i.op≠17→i.op≠19→3≤args.length):=by
  rcases (show i.op=17∨i.op=19∨i.op=20 by omega) with q | q | q
  ·have:=hi.c1 (by omega);omega
  ·have:=hi.c2 (by omega);omega
  have:=hi.c3 (by omega);omega
 obtain⟨x,hx⟩:=at_len rfl hlen.1
 have hxm:=List.mem_of_getElem? hx
 obtain⟨O',hC,hst⟩:=effect_arr (m:=m) hup i args hl x hx h15 h16 h18 (fun a=>at_len rfl (hlen.2.1 a)) (fun a b=>at_len rfl (hlen.2.2 a b)) (arrM_under ht hm (ha x hxm) _ rfl) (fun hk=>by
  obtain⟨a,ha',e1,e2⟩:=arr_ok hm (ha x hxm) hk
  obtain⟨r1,r2⟩:=ht.arr ha'
  refine⟨a.vid,a.bid,e1,?_,?_⟩
  ·rw [e2];exact r1
  rw [e2];exact r2)
 rcases hst with⟨e1,e2⟩ | ⟨vid,bid,k,z,l,e1,e2,e3,e4,e5,e6,e7,e8⟩
 ·have hv:SV.Under O.length (m.effect i args).2.1:=ht.under (hok.val.of_heap (by rw [e2]))
  subst e1
  exact⟨O',exec_eff hup i args hl h0 h1 h8 h9 hn10 hn22 h100 hm0 _ _ hv hC rfl hup,by rw [e2];exact ht,Nat.le_refl _⟩
 obtain⟨a,ha',f1,f2⟩:=arrOf_mem m.heap vid (SV.Wf.ref (ha x hxm) vid e1)
 have hla:l=a.l:=by rw [e5,e1,f2]
 obtain⟨r1,r2⟩:=ht.arr ha'
 have hb:bid=a.bid:=by
  rw [f1,e2] at r1
  simp only [Option.some.injEq,AObj.cells.injEq,List.cons.injEq,AVal.ms.injEq] at r1
  exact r1.1.1
 have htl:=ht.setHeap ha' (l.set k z) (by rw [List.length_set,hla]) (fun v hv=>by
  rcases List.mem_or_eq_of_mem_set hv with q | q
  ·rw [hla] at q
   exact ht.under ((hm.arrs a ha').2 v q)
  rw [q]
  exact e6) (m.effect i args).1 (by rw [e8,e1,f1])
 rw [←hb,←e7] at htl
 have hlO:O.length=O'.length:=by rw [e7];simp
 have hv:SV.Under O.length (m.effect i args).2.1:=by
  have:=htl.under hok.val
  rw [←hlO] at this
  exact this
 exact⟨O',exec_eff hup i args hl h0 h1 h8 h9 hn10 hn22 h100 hm0 _ _ hv hC hlO htl.upto,htl,by omega⟩
theorem Tl.of_eq{u:Unt}{m m':Mach}{rest:List AVal}{O O':List AObj}(h:Tl u m rest O)(e:m'=m)(e':O'=O):Tl u m' rest O':=by
 subst e
 subst e'
 exact h
theorem stack_at{f:Fr}{r:List Fr}{rest:List AVal}:(ptrs (f::r)++rest)[r.length]?=some (.mp f.fid 0):=by
 have h:ptrs (f::r)=r.reverse.map (fun f=>AVal.mp f.fid 0)++[.mp f.fid 0]:=by simp [ptrs]
 rw [h,List.append_assoc]
 have hl:(r.reverse.map (fun f=>AVal.mp f.fid 0)).length=r.length:=by simp
 rw [List.getElem?_append_right (by omega),hl,Nat.sub_self]
 rfl
theorem stack_at2{f g:Fr}{r:List Fr}{rest:List AVal}:(ptrs (f::g::r)++rest)[r.length]?=some (.mp g.fid 0):=by
 have h:ptrs (f::g::r)++rest=ptrs (g::r)++(.mp f.fid 0::rest):=by simp [ptrs]
 rw [h]
 exact stack_at
theorem Tl.apart{u:Unt}{m:Mach}{rest:List AVal}{O:List AObj}(ht:Tl u m rest O){f:Fr}{r:List Fr}(hfr:m.frames=f::r):f.fid≠2∧f.mid≠2∧f.fid≠f.mid:=by
 obtain⟨_,hk,hnd,_⟩:=ht.others
 rw [hfr] at hk hnd
 refine⟨(hk f.fid ?_).2.1,(hk f.mid ?_).2.1,?_⟩
 ·rw [keysN_append]
  exact List.mem_append.2 (.inl (mem_keysN (Tl.frs_mem (f:=f) (by simp)).1))
 ·rw [keysN_append]
  exact List.mem_append.2 (.inl (mem_keysN (Tl.frs_mem (f:=f) (by simp)).2))
 simp only [frs,List.cons_append,keysN_cons,List.nodup_cons,List.mem_cons,not_or] at hnd
 exact hnd.1.1
theorem Tl.apart2{u:Unt}{m:Mach}{rest:List AVal}{O:List AObj}(ht:Tl u m rest O){g:Fr}(hg:g∈m.frames):g.fid≠2∧g.mid≠2:=by
 obtain⟨_,hk,hnd,_⟩:=ht.others
 refine⟨(hk g.fid ?_).2.1,(hk g.mid ?_).2.1⟩
 ·rw [keysN_append]
  exact List.mem_append.2 (.inl (mem_keysN (Tl.frs_mem hg).1))
 rw [keysN_append]
 exact List.mem_append.2 (.inl (mem_keysN (Tl.frs_mem hg).2))
theorem setTop_setTop(m:Mach)(f g:Fr):(m.setTop f).setTop g=m.setTop g:=rfl
theorem follow_tells{u:Unt}{m:Mach}{rest:List AVal}{O:List AObj}(ht:Tl u m rest O)(hm:MachOK u m){f:Fr}{r:List Fr}(hfr:m.frames=f::r){e:Edge}(he:EdgeOK (fnOf u f.fn) e) :
  ∃O',ECall Try.prog 92 O [.mp 2 0,.mp f.fid 0,e.enc] (fun r O1=>r=.tup []∧O1=O')∧Tl u (m.follow u f e) rest O'∧O.length=O'.length:=by
 have hff:=hm.frames f (by rw [hfr];simp)
 obtain⟨t1,t2⟩:=ht.frame (f:=f) (by rw [hfr];simp)
 obtain⟨n1,n2,n3⟩:=ht.apart hfr
 have hu:∀e∈f.vals,SV.Under O.length e.2:=fun e he=>ht.under (hff.vals e he)
 obtain⟨f',hf'⟩:∃f',f' = { f with blk:=e.block,pos:=0,vals:=bindS f.vals (blkOf (fnOf u f.fn) e.block).params (takeS f.vals e.args) }:=⟨_,rfl⟩
 have hC:=follow_spec ht.upto ht.mach f t1 t2 hu n1.symm n2.symm n3 hff.fn e he f' hf'
 have h1:=ht.setTop (f':={ f' with vals:=f.vals }) hfr (by rw [hf']) (by rw [hf']) rfl
 have hfc:fcells { f' with vals:=f.vals }=fcells f':=rfl
 rw [hfc] at h1
 have h2:=h1.setVals (f:={ f' with vals:=f.vals }) (f':=f') (r:=r) (by simp [Mach.setTop,hfr]) rfl (by
  rw [List.length_set,hf']
  intro x hx
  rcases mem_bindS hx with q | q
  ·exact hu x q
  exact takeS_under hu e.args _ q)
 rw [setTop_setTop] at h2
 have hmid:f'.mid=f.mid:=by rw [hf']
 have hres:m.follow u f e=m.setTop f':=by rw [hf'];rfl
 rw [hres]
 refine⟨_,hC,?_,by simp⟩
 exact h2.of_eq rfl (by rw [←hmid])
theorem finish_tells{u:Unt}{m:Mach}{rest:List AVal}{O:List AObj}(ht:Tl u m rest O)(hm:MachOK u m){f:Fr}{r:List Fr}(hfr:m.frames=f::r){t:Term}(hto:TermOK (fnOf u f.fn) t) :
  ∃O' rest',ECall Try.prog 72 O [.mp 2 0,.mp f.fid 0,t.enc] (fun r O1=>r=.tup []∧O1=O')∧Tl u (m.finish u f t) rest' O'∧O.length=O'.length:=by
 have hff:=hm.frames f (by rw [hfr];simp)
 obtain⟨t1,t2⟩:=ht.frame (f:=f) (by rw [hfr];simp)
 obtain⟨n1,n2,n3⟩:=ht.apart hfr
 obtain⟨_,_,_,s1,s2,s3,s4,s5⟩:=ht.others
 have hu:∀e∈f.vals,SV.Under O.length e.2:=fun e he=>ht.under (hff.vals e he)
 have hk:=hto.kind
 unfold Mach.finish
 by_cases h4:t.kind=4
 ·rw [if_pos h4]
  exact⟨_,rest,end_trap ht.upto ht.mach f t1 t2 hu n3 t h4,ht.setMach (m.stop t.n 0) rfl rfl rfl rfl rfl,by simp⟩
 rw [if_neg h4]
 by_cases h1:t.kind=1
 ·rw [if_pos h1]
  have hl:=hto.jump h1
  have he:t.to[0]?=some (t.to[0]'(by omega)):=List.getElem?_eq_getElem _
  obtain⟨O',q1,q2,q3⟩:=follow_tells ht hm hfr (hto.edges _ (List.mem_of_getElem? he))
  refine⟨O',rest,end_jump ht.upto ht.mach f t1 t2 hu n3 t h1 _ he q1 q3 q2.upto,?_,q3⟩
  rw [he]
  exact q2
 rw [if_neg h1]
 by_cases h0:t.kind=0
 ·rw [if_pos h0]
  have hv:=getS_ok hff.vals t.arg
  have hvu:=ht.under hv
  cases hr:r with
  | nil =>
   subst hr
   have hC:=leave_last ht.upto ht.mach f hfr (lt_of_getElem? t1) _ hvu
   have htl:=ht.last hfr (m.leave f (getS f.vals t.arg)) (by simp [Mach.leave,hfr,Mach.stop]) (by simp [Mach.leave,hfr,Mach.stop]) (by simp [Mach.leave,hfr,Mach.stop]) (by simp [Mach.leave,hfr,Mach.stop]) (by simp [Mach.leave,hfr,Mach.stop])
   exact⟨_,_,end_ret ht.upto ht.mach f t1 t2 hu n3 t h0 hC (by simp) htl.upto,htl,by simp⟩
  | cons g r' =>
   subst hr
   have hg:g∈m.frames:=by rw [hfr];simp
   obtain⟨g1,g2⟩:=ht.frame hg
   obtain⟨k1,k2⟩:=ht.apart2 hg
   have hgu:∀e∈g.vals,SV.Under O.length e.2:=fun e he=>ht.under ((hm.frames g hg).vals e he)
   have hdl:r'.length≤2 ^ 40:=by
    have h1:=hm.depth
    have h2:=hm.left
    rw [hfr] at h1
    simp only [List.length_cons] at h1
    omega
   have hst:=ht.stack
   rw [hfr] at hst
   have hC:=leave_more ht.upto ht.mach f g r' hfr t1 g1 g2 hgu hst stack_at2 s2 hdl n1 k1 k2 _ hvu
   have hres:m.leave f (getS f.vals t.arg) = { m with frames:={ g with vals:=putS' g.vals f.to (getS f.vals t.arg) }::r' }:=by
    unfold Mach.leave
    rw [hfr]
    rfl
   have htl:=ht.pop (g':={ g with vals:=putS' g.vals f.to (getS f.vals t.arg) }) hfr rfl (fun x hx=>by
    rcases mem_putS' hx with q | q
    ·exact hgu x q
    rw [q]
    exact hvu) _ hres
   exact⟨_,_,end_ret ht.upto ht.mach f t1 t2 hu n3 t h0 hC (by simp) htl.upto,htl,by simp⟩
 rw [if_neg h0]
 by_cases hV:(getS f.vals t.arg).kind=0
 ·rw [if_neg (by simp [hV])]
  obtain⟨e,he⟩:=choice_at hto h0 h1 h4 (getS f.vals t.arg).n
  obtain⟨O',q1,q2,q3⟩:=follow_tells ht hm hfr (hto.edges _ (List.mem_of_getElem? he))
  refine⟨O',rest,end_choice ht.upto ht.mach f t1 t2 hu n3 t ⟨h0,h1,h4⟩ hV (by have:=hto.cl;omega) e he q1 q3 q2.upto,?_,q3⟩
  rw [he]
  exact q2
 rw [if_pos hV]
 exact⟨_,rest,end_type ht.upto ht.mach f t1 t2 hu n3 t ⟨h0,h1,h4⟩ hV,ht.setMach (m.stop 5 0) rfl rfl rfl rfl rfl,by simp⟩
theorem step_tells{u:Unt}{m:Mach}{rest:List AVal}{O:List AObj}(hu:UnitOK u)(ht:Tl u m rest O)(hm:MachOK u m)(ho:m.over=false)(hd:m.frames.length+m.left+1≤2 ^ 40) :
  ∃O' rest',ECall Try.prog 61 O [.mp 2 0] (fun r O1=>r=.tup []∧O1=O')∧Tl u (m.step u) rest' O'∧O.length≤O'.length:=by
 obtain⟨hne,hsh⟩:=hm.over ho
 unfold Mach.step
 cases hfr:m.frames with
 | nil=>exact absurd hfr hne
 | cons f r =>
  have hff:=hm.frames f (by rw [hfr];simp)
  obtain⟨t1,t2⟩:=ht.frame (f:=f) (by rw [hfr];simp)
  obtain⟨n1,n2,n3⟩:=ht.apart hfr
  obtain⟨_,_,_,s1,s2,s3,s4,s5⟩:=ht.others
  have huv:∀e∈f.vals,SV.Under O.length e.2:=fun e he=>ht.under (hff.vals e he)
  have hst:=ht.stack
  rw [hfr] at hst
  have hdl:r.length≤2 ^ 40:=by
   have h2:=hm.left
   rw [hfr] at hd
   simp only [List.length_cons] at hd
   omega
  have hF:=fnOf_at hff.fn.1 hff.fn.2
  have hB:=blkOf_at hff.blk.1 hff.blk.2
  have hbok:=hu.blocks _ (fnOf_mem hff.fn.1 hff.fn.2) _ (blkOf_mem hff.blk.1 hff.blk.2)
  simp only
  cases hi:(blkOf (fnOf u f.fn) f.blk).ins[f.pos]? with
  | none =>
   have hpos:f.pos=(blkOf (fnOf u f.fn) f.blk).ins.length:=by
    have:=List.getElem?_eq_none_iff.1 hi
    have:=hff.pos
    omega
   obtain⟨O',rest',q1,q2,q3⟩:=finish_tells ht hm hfr hbok.term
   exact⟨O',rest',step_end ht.upto ht.mach f r hfr t1 n1 hst stack_at hdl _ hF hff.fn.1 _ hB hff.blk.1 hpos q1 (by omega) q2.upto,q2,by omega⟩
  | some i =>
   simp only
   have hio:=hbok.ins i (List.mem_of_getElem? hi)
   have hlt:=lt_of_getElem? hi
   have hbl:=hbok.len
   obtain⟨f',hf'⟩:∃f',f' = { f with pos:=f.pos+1 }:=⟨_,rfl⟩
   rw [←hf']
   have hv':f'.vals=f.vals:=by rw [hf']
   have hfid:f'.fid=f.fid:=by rw [hf']
   have hmid:f'.mid=f.mid:=by rw [hf']
   obtain⟨O1,hO1⟩:∃O1,O1=O.set f.fid (.cells (fcells f')):=⟨_,rfl⟩
   have h1:=ht.setTop (f':=f') hfr hfid hmid hv'
   rw [←hO1] at h1
   have hlen1:O.length=O1.length:=by rw [hO1];simp
   have hf1:FrOK u m f':=by
    rw [hf']
    exact⟨hff.fn,hff.blk,hlt,hff.vals⟩
   have hm1:MachOK u (m.setTop f'):=hm.setTop hne hf1
   have hfr1:(m.setTop f').frames=f'::r:=by simp [Mach.setTop,hfr]
   have hmc:mcells u (m.setTop f')=mcells u m:=by simp [mcells,Mach.setTop,hfr]
   have hmo1:O1[2]?=some (.cells (mcells u m)):=by rw [←hmc];exact h1.mach
   obtain⟨args,hargs⟩:∃args,args=takeS f.vals i.args:=⟨_,rfl⟩
   rw [←hargs]
   have hal:args.length=i.args.length:=by rw [hargs];exact takeS_len _ _
   have hav:∀v∈args,VOK u (m.setTop f') v:=by
    rw [hargs]
    exact fun v hv=>(takeS_ok hff.vals i.args v hv).of_heap (by rfl)
   have hau:∀v∈args,SV.Under O1.length v:=fun v hv=>h1.under (hav v hv)
   have hst1:=h1.stack
   have hdl1:(m.setTop f').frames.length≤2 ^ 41:=by
    rw [hfr1]
    simp only [List.length_cons]
    omega
   have hpush:∀fn:Int,0≤fn∧fn<u.fns.length→(blkOf (fnOf u fn) 0).params.length=args.length →
     ∃O',ECall Try.prog 59 O1 [.mp 2 0,aI fn,.lst 4 (args.map SV.enc) .sh,aI i.to] (fun r O2=>r=.tup []∧O2=O')∧Tl u ((m.setTop f').enter u fn args i.to) [] O'∧O.length≤O'.length:=fun fn hfn hp=>by
    have hC:=enter_push h1.upto h1.mach hst1 (by simp [ptrs]) s2 h1.len hdl1 fn hfn (hu.ne _ (fnOf_mem hfn.1 hfn.2)).1 args hau hp i.to
    have htl:=h1.push fn i.to args _ rfl hau
    exact⟨_,hC,htl,by simp;omega⟩
   unfold Mach.act
   by_cases h13:i.op=13
   ·rw [if_pos h13]
    obtain⟨c1,c2,c3⟩:=hio.call h13
    obtain⟨O',q1,q2,q3⟩:=hpush i.n ⟨c1,c2⟩ (by rw [hal];exact c3)
    exact⟨O',[],step_call ht.upto ht.mach f r hfr t1 n1 hst stack_at hdl _ hF hff.fn.1 _ hB hff.blk.1 t2 n3 huv i hi (by omega) hio.len f' hf' args hargs O1 hO1 h13 q1 q3 q2.upto,q2,q3⟩
   rw [if_neg h13]
   by_cases h14:i.op=14
   ·rw [if_pos h14]
    obtain⟨c,hc⟩:=at_len (hal.trans rfl) (k:=0) (by have:=hio.app h14;omega)
    have hac:=argS_of hc
    rw [hac]
    have hcv:=hav c (List.mem_of_getElem? hc)
    have htl:=h1.setMach ((m.setTop f').stop 5 0) rfl rfl rfl rfl rfl
    have hstop:mcells u ((m.setTop f').stop 5 0)=mcells u (m.stop 5 0):=by simp [mcells,Mach.setTop,Mach.stop,hfr]
    by_cases hk:c.kind=2
    ·obtain⟨k1,k2⟩:=SV.Wf.fn hcv hk
     have hG:=fnOf_at k1 k2
     have hD:(fnOf u c.n).blocks[0]?=some (blkOf (fnOf u c.n) 0):=by
      obtain⟨z1,z2⟩:=blk0 hu k1 k2
      exact blkOf_at z1 z2
     by_cases hp:(blkOf (fnOf u c.n) 0).params.length=args.length
     ·rw [if_pos ⟨hk,hp⟩]
      obtain⟨O',q1,q2,q3⟩:=hpush c.n ⟨k1,k2⟩ hp
      exact⟨O',[],step_app ht.upto ht.mach f r hfr t1 n1 hst stack_at hdl _ hF hff.fn.1 _ hB hff.blk.1 t2 n3 huv i hi (by omega) hio.len f' hf' args hargs O1 hO1 h14 c hc hk k1 _ hG _ hD hp hau q1 q3 q2.upto hmo1,q2,q3⟩
     rw [if_neg (fun q=>hp q.2)]
     refine⟨_,rest,step_app_len ht.upto ht.mach f r hfr t1 n1 hst stack_at hdl _ hF hff.fn.1 _ hB hff.blk.1 t2 n3 huv i hi (by omega) hio.len f' hf' args hargs O1 hO1 h14 c hc hk k1 _ hG _ hD hp hau hmo1,?_,by simp;omega⟩
     rw [←hstop]
     exact htl
    rw [if_neg (fun q=>hk q.1)]
    refine⟨_,rest,step_app_kind ht.upto ht.mach f r hfr t1 n1 hst stack_at hdl _ hF hff.fn.1 _ hB hff.blk.1 t2 n3 huv i hi (by omega) hio.len f' hf' args hargs O1 hO1 h14 c hc hk hau hmo1,?_,by simp;omega⟩
    rw [←hstop]
    exact htl
   rw [if_neg h14]
   have hshx:(m.setTop f').short=false:=hsh
   obtain⟨O2,q1,q2,q3⟩:=exec_tells h1 hm1 hshx hio h13 h14 hal hav
   have hok:=exec_ok hm1 hio hal hav
   generalize (m.setTop f').exec i args=R at *
   have hfr2:R.1.frames=f'::r:=by rw [hok.frames,hfr1]
   obtain⟨w1,w2⟩:=q2.frame (f:=f') (by rw [hfr2];simp)
   rw [hfid] at w1
   rw [hmid,hv'] at w2
   have hvu:=q2.under hok.val
   have hu2:∀e∈f.vals,SV.Under O2.length e.2:=fun e he=>(huv e he).mono (by omega)
   have huP:∀e∈putS' f.vals i.to R.2.1,SV.Under O2.length e.2:=fun x hx=>by
    rcases mem_putS' hx with q | q
    ·exact hu2 x q
    rw [q]
    exact hvu
   unfold Mach.settle
   rw [hv']
   by_cases ht0:R.2.2=0
   ·rw [if_neg (by simp [ht0])]
    have hC:=step_exec ht.upto ht.mach f r hfr t1 n1 hst stack_at hdl _ hF hff.fn.1 _ hB hff.blk.1 t2 n3 huv i hi (by omega) hio.len f' hf' args hargs O1 hO1 ⟨h13,h14⟩ R.2.1 R.2.2 q1 (by omega) q2.upto hvu R.1 q2.mach w1 w2 hu2 n2 ht0
    have htl:=q2.setVals (f':={ f' with vals:=putS' f.vals i.to R.2.1 }) hfr2 rfl huP
    exact⟨_,rest,hC,htl.of_eq rfl (by rw [hmid]),by simp;omega⟩
   rw [if_pos ht0]
   have hC:=step_trap ht.upto ht.mach f r hfr t1 n1 hst stack_at hdl _ hF hff.fn.1 _ hB hff.blk.1 t2 n3 huv i hi (by omega) hio.len f' hf' args hargs O1 hO1 ⟨h13,h14⟩ R.2.1 R.2.2 q1 (by omega) q2.upto hvu R.1 q2.mach w1 w2 hu2 n2 ht0
   have q4:=q2.setMach (R.1.stop R.2.2 0) rfl rfl rfl rfl rfl
   have htl:=q4.setVals (f':={ f' with vals:=putS' f.vals i.to R.2.1 }) hfr2 rfl (by
    rw [List.length_set]
    exact huP)
   exact⟨_,rest,hC,htl.of_eq rfl (by rw [hmid]),by simp;omega⟩
def Ans.enc(a:Ans):AVal:=.tup [.agg [.lst 1 (a.out.map aI) .sh,aI a.fin,aI a.val],aI a.n,aI a.e]
theorem ecall_nil3{f:FuncId}{O:List AObj}{a b d:AVal}{sz:Nat}{R:AVal→List AObj→Prop}(h:ECall Try.prog f O [a,b,.lst sz [] .sh,d] R):ECall Try.prog f O [a,b,.v (.slice none 0 0),d] R :=
 ⟨h.1,fun g vs hg ho ha=>h.2 g vs hg ho ⟨ha.1,fun i c u hc hu=>by
  match i,hc,hu with
  | 0,hc,hu=>exact ha.2 0 c u hc hu
  | 1,hc,hu=>exact ha.2 1 c u hc hu
  | 2,hc,hu =>
   simp only [List.getElem?_cons_succ,List.getElem?_cons_zero,Option.some.injEq] at hc
   subst hc
   have:=(ha.2 2 _ u rfl hu).v_inv.1
   subst this
   exact .nil (fun id e=>by cases e) (by simp)
  | 3,hc,hu=>exact ha.2 3 c u hc hu
  | i+4,hc,_=>simp at hc⟩⟩
theorem start_ok{u:Unt}(hu:UnitOK u){fuel:Int}(h0:0≤fuel)(h1:fuel≤1000000):MachOK u ((Mach.start fuel).enter u u.main [] 0):=by
 have hs:MachOK u { Mach.start fuel with over:=true } :=
  ⟨by simp [Mach.start],by simp [Mach.start],h0,by simp [Mach.start];omega,by simp [Mach.start],by simp [Mach.start],by simp [Mach.start],by simp [Mach.start,isW],by simp [Mach.start],by simp⟩
 have h:=hs.enter hu (by simp) (by simp [Mach.start];omega) hu.main (args:=[]) (by simp) 0
 exact⟨fun f hf=>(h.frames f hf).of_heap (by rfl),fun a ha=>by simp [Mach.start,Mach.enter] at ha,h.left,h.depth,h.out,h.words,h.fin,h.val,h.done,fun _=>⟨by simp [Mach.enter],rfl⟩⟩
theorem start_tells{u:Unt}(hu:UnitOK u){fuel:Int}(hp:(blkOf (fnOf u u.main) 0).params=[]):Tl u ((Mach.start fuel).enter u u.main [] 0) [] [.gone,.cells [.lst 1 [] .ex,aI 0,aI 0],.cells (mcells u ((Mach.start fuel).enter u u.main [] 0)),.spare 0,.map (.int .i64) [],.cells [aI u.main,aI 0,aI 0,aI 0,.mm 4],.cells [.mp 5 0]] where
 len:=rfl
 upto:=by simp [AObj.upto,uptoL,uptoE,AVal.upto,mcells,Func.map_upto,Mach.enter,Mach.start]
 holds:=by
  intro p hp'
  simp only [objsOf,Mach.enter,Mach.start,frs,ars,hp,bindS,List.append_nil,List.mem_cons,List.mem_nil_iff,or_false,List.mem_append] at hp'
  rcases hp' with rfl | rfl | rfl | rfl | rfl | rfl
  all_goals rfl
 nodup:=by
  simp [keysN,objsOf,Mach.enter,Mach.start,frs,ars]
theorem run_over{u:Unt}{m:Mach}(h:m.over=true)(k:Nat):Mach.run u k m=m:=by
 cases k with
 | zero=>rfl
 | succ k=>simp [Mach.run,h]
theorem perform_spec{u:Unt}(hu:UnitOK u){fuel:Int}(hf0:0≤fuel)(hf1:fuel≤1000000):PCall Try.prog 34 [u.enc,aI fuel] (performM u fuel).enc:=by
 have hp:=hu.none
 have hen:=ecall_nil3 (enter_first (fuel:=fuel) hu.main (hu.ne _ (fnOf_mem hu.main.1 hu.main.2)).1 hp 4 .sh)
 have hst:=start_tells hu (fuel:=fuel) hp
 have hsok:=start_ok hu hf0 hf1
 obtain⟨K,hK⟩:∃K,K=fuel.toNat+2:=⟨_,rfl⟩
 obtain⟨E,hE⟩:∃E,E=Mach.run u K ((Mach.start fuel).enter u u.main [] 0):=⟨_,rfl⟩
 have hres:performM u fuel=if E.short then ⟨[],0,0,0,13⟩ else ⟨E.out,E.fin,E.val,fuel - E.left,0⟩:=by
  rw [hE,hK]
  rfl
 rw [hres]
 have hleft:((Mach.start fuel).enter u u.main [] 0).left=fuel:=rfl
 unfold mcells0 at hen
 generalize hm0:(Mach.start fuel).enter u u.main [] 0=m0 at *
 refine zf true 0 Try.func34 Try.ntmps34 ?_
 dsimp only [Tmp,TypeId,slotsOf]
 refine zh1 (za0 ?_)
 refine awp_freeze1 2 0 (.ip none [eFuncs u.fns,aI u.main]) rfl (by simp [AObj.isSpare]) trivial rfl ?_ ?_
 rotate_left
 simp -dsimp only [simprocAttr,↓vpre,zp]
 ·refine zh1 (za0 ?_)
  refine awp_ownCell 2 6 rfl rfl ?_
  simp -dsimp only [simprocAttr,↓vpre,zp]
  refine zh1 ?_
  refine .inr (.inl ⟨_,_,hen,.inl (later_intro (zj ?_))⟩)
  refine za0 ?_
  refine awp_seq (awp_block (awp_loop (ι:={p:Mach×List AVal×List AObj // MachOK u p.1∧Tl u p.1 p.2.1 p.2.2∧p.1.left≤fuel∧∃k,p.1.left.toNat+2≤k∧Mach.run u k p.1=E}) (fun p=>⟨45,[(1,aI fuel),(4,.mp 1 0),(5,aI 0),(6,aI 0),(7,.mp 2 0)],p.1.2.2⟩) (fun p=>p.1.1.left.toNat) ⟨(m0,[],_),hsok,hst,by simp only [hleft];omega,K,by simp only [hleft];omega,hE.symm⟩ ?_ ?_))
  ·refine zq rfl ?_ ?_
   simp -dsimp only [simprocAttr,↓vpre,zp,zc]
   rfl
  rintro⟨⟨m,rest,O⟩,hm,ht,hlf,k,hk,hrun⟩
  simp only at hm ht hlf hk hrun
  have hmo:=ht.mach
  unfold mcells at hmo
  have hdep:=hm.depth
  have hl0:=hm.left
  have hr1:O[1]?=some (.cells [.lst 1 [] .ex,aI 0,aI 0]):=ht.holds (1,_) (by simp [objsOf])
  have hrs:=set_self hr1
  have hml:=lt_of_getElem? ht.mach
  have hpay:=pay_spec ht.upto ht.mach 1 hl0 (by omega) (by omega)
  cases hov:m.over with
  | true =>
   rw [run_over hov] at hrun
   subst hrun
   rw [hov] at hmo
   refine zg2 ?_
   simp -dsimp only [simprocAttr,↓vpre,zp,hmo]
   refine za0 ?_
   refine zu0 rfl ?_
   refine awp_exit ?_
   simp -dsimp only [vend,ne_eq,Nat.reduceEqDiff,reduceCtorEq]
   cases hsh:m.short with
   | true =>
    rw [hsh] at hmo
    refine zg2 ?_
    simp -dsimp only [simprocAttr,↓vpre,zp,hmo]
    refine za0 ?_
    refine zw0 rfl ?_
    refine zg1 ?_
    simp -dsimp only [simprocAttr,↓vpre,zp,hr1]
    refine za0 ?_
    refine awp_ret ?_
    simp -dsimp only [simprocAttr,↓vpre,zp,zr,Try.results34,hrs]
    exact⟨by simp [uptoL,AVal.upto],rfl⟩
   | false =>
    rw [hsh] at hmo
    refine zg2 ?_
    simp -dsimp only [simprocAttr,↓vpre,zp,hmo]
    refine za0 ?_
    refine zu0 rfl ?_
    refine zb0 ?_
    refine zg1 ?_
    simp -dsimp only [simprocAttr,↓vpre,zp,hmo,hr1]
    repeat(refine⟨by omega,?_⟩)
    refine⟨orderB_ren [1,2] O.length [.pure,.pure,.pure,.rd 1,.pure,.pure,.pure,.pure,.rd 1,.pure,.wr 2 [0],.pure,.pure] (by simp) (by simp;omega) rfl rfl (by kernel_rfl),at_intro ?_⟩
    simp -dsimp only [vend,ne_eq,Nat.reduceEqDiff,reduceCtorEq]
    refine awp_ret ?_
    simp -dsimp only [simprocAttr,↓vpre,zp,zr,Try.results34,hrs]
    exact⟨by simp [uptoL,AVal.upto,aI_upto],rfl⟩
  | false =>
   obtain⟨k,rfl⟩:∃j,k=j+1:=⟨k - 1,by omega⟩
   have hrun':(if (m.pay 1).short then m.pay 1 else Mach.run u k (Mach.step u (m.pay 1)))=E:=by
    rw [←hrun]
    simp [Mach.run,hov]
   have ht1:=ht.setMach (m.pay 1) (pay_fields m 1).2.2.2.2.2.1 (pay_fields m 1).1 (pay_fields m 1).2.1 (by rw [(pay_fields m 1).2.2.1]) (pay_fields m 1).2.2.2.2.2.2
   have hmo1:=ht1.mach
   have hr2:(O.set 2 (.cells (mcells u (m.pay 1))))[1]?=some (.cells [.lst 1 [] .ex,aI 0,aI 0]):=ht1.holds (1,_) (by simp [objsOf])
   have hrs2:=set_self hr2
   rw [hov] at hmo
   by_cases hp1:m.left<1
   ·have hps:(m.pay 1).short=true:=by simp [Mach.pay,hp1]
    rw [hps,if_pos rfl] at hrun'
    have hEs:E.short=true:=by
     rw [←hrun']
     exact hps
    obtain⟨O1,hO1⟩:∃O1,O1=O.set 2 (.cells (mcells u (m.pay 1))):=⟨_,rfl⟩
    rw [←hO1] at hpay hmo1 hr2
    simp only [←hO1] at hrs2
    unfold mcells at hmo1
    rw [hps] at hmo1
    refine zg2 ?_
    simp -dsimp only [simprocAttr,↓vpre,zp,hmo]
    refine za0 ?_
    refine zw0 rfl ?_
    refine zb0 ?_
    refine awp_block ?_
    refine zh1 ?_
    refine .inr (.inl ⟨_,_,hpay,.inl (later_intro (zj ?_))⟩)
    refine za0 ?_
    refine zg2 ?_
    simp -dsimp only [simprocAttr,↓vpre,zp,hmo1]
    refine za0 ?_
    refine zw0 rfl ?_
    refine zg1 ?_
    simp -dsimp only [simprocAttr,↓vpre,zp,hr2]
    refine za0 ?_
    refine awp_ret ?_
    simp -dsimp only [simprocAttr,↓vpre,zp,zr,Try.results34,hrs2,hEs]
    exact⟨by simp [uptoL,AVal.upto],rfl⟩
   have hm1e:m.pay 1 = { m with left:=m.left - 1 }:=by simp [Mach.pay,hp1]
   have hps:(m.pay 1).short=false:=by
    rw [hm1e]
    exact(hm.over hov).2
   have hov1:(m.pay 1).over=false:=by
    rw [hm1e]
    exact hov
   have hm1:MachOK u (m.pay 1):=by
    rw [hm1e]
    exact⟨fun f hf=>(hm.frames f hf).of_heap (by rfl),fun a ha=>⟨(hm.arrs a ha).1,fun v hv=>((hm.arrs a ha).2 v hv).of_heap (by rfl)⟩,by simp;omega,by simp;omega,hm.out,hm.words,hm.fin,hm.val,hm.done,fun h=>hm.over h⟩
   have hd1:(m.pay 1).frames.length+(m.pay 1).left+1≤2 ^ 40:=by
    rw [hm1e]
    simp
    omega
   obtain⟨O2,rest2,q1,q2,q3⟩:=step_tells hu ht1 hm1 hov1 hd1
   have hsk:=hm1.step hu hov1 hd1
   have hsl:(Mach.step u (m.pay 1)).left≤m.left - 1:=by
    have:=step_left u (m.pay 1) hm1 hu hov1
    rw [hm1e] at this ⊢
    exact this
   have hsl0:=hsk.left
   rw [hps,if_neg (by simp)] at hrun'
   obtain⟨O1,hO1⟩:∃O1,O1=O.set 2 (.cells (mcells u (m.pay 1))):=⟨_,rfl⟩
   rw [←hO1] at hpay hmo1 q1
   unfold mcells at hmo1
   rw [hps] at hmo1
   refine zg2 ?_
   simp -dsimp only [simprocAttr,↓vpre,zp,hmo]
   refine za0 ?_
   refine zw0 rfl ?_
   refine zb0 ?_
   refine awp_block ?_
   refine zh1 ?_
   refine .inr (.inl ⟨_,_,hpay,.inl (later_intro (zj ?_))⟩)
   refine za0 ?_
   refine zg2 ?_
   simp -dsimp only [simprocAttr,↓vpre,zp,hmo1]
   refine za0 ?_
   refine zu0 rfl ?_
   refine zb0 ?_
   refine zh0 ?_
   refine .inr (.inl ⟨_,_,q1,.inl (later_intro (zj ?_))⟩)
   refine zl1 ?_
   refine⟨⟨(Mach.step u (m.pay 1),rest2,O2),hsk,q2,by simp only;omega,k,by simp only;omega,hrun'⟩,by simp only;omega,?_⟩
   refine zq rfl ?_ ?_
   simp -dsimp only [simprocAttr,↓vpre,zp,zc]
   rfl
 exact FSub.mp rfl rfl
theorem callsI_all{u:Unt}:∀{l:List Ins},callsI u l=0→∀i∈l,callsE u i=0
 | [],_,f,h=>by simp at h
 | g::r,h,f,hf=>by
  have:=orE_eq h
  rcases List.mem_cons.1 hf with q | q
  ·subst q
   exact this.1
  exact callsI_all this.2 f q
theorem callsB_all{u:Unt}:∀{l:List Block},callsB u l=0→∀b∈l,∀i∈b.ins,callsE u i=0
 | [],_,f,h=>by simp at h
 | g::r,h,f,hf=>by
  have:=orE_eq h
  rcases List.mem_cons.1 hf with q | q
  ·subst q
   exact callsI_all this.1
  exact callsB_all this.2 f q
theorem callsF_all{u:Unt}:∀{l:List Func},callsF u l=0→∀f∈l,∀b∈f.blocks,∀i∈b.ins,callsE u i=0
 | [],_,f,h=>by simp at h
 | g::r,h,f,hf=>by
  have:=orE_eq h
  rcases List.mem_cons.1 hf with q | q
  ·subst q
   exact callsB_all this.1
  exact callsF_all this.2 f q
theorem calls_ok{u:Unt}{i:Ins}(h:callsE u i=0):(i.op=13∨i.op=9→i.n<u.fns.length)∧(i.op=13→(blkOf (fnOf u i.n) 0).params.length=i.args.length)∧(i.op=9→(blkOf (fnOf u i.n) 0).params.length≠0):=by
 unfold callsE at h
 split at h
 ·exact⟨by omega,by omega,by omega⟩
 split at h
 ·simp at h
 split at h
 ·simp at h
 exact⟨by omega,by omega,by omega⟩
structure UnitW(u:Unt):Prop where
 few:u.fns.length≤256
 main:0≤u.main∧u.main<u.fns.length
 none:(blkOf (fnOf u u.main) 0).params=[]
 fns:∀f∈u.fns,FnW f
 calls:∀f∈u.fns,∀b∈f.blocks,∀i∈b.ins,callsE u i=0
theorem check_ok{u:Unt}(hfit:u.fit)(h:checkM u=0):UnitW u:=by
 unfold checkM at h
 split at h
 ·simp at h
 split at h
 ·simp at h
 split at h
 ·simp at h
 rename_i h3
 have h4:=orE_eq h
 have h5:=h4.2
 split at h5
 ·simp at h5
 rename_i h6
 have hw:0≤u.main∧u.main≤(u.fns.length:Int) - 1:=by simpa [within] using h3
 refine⟨by omega,by omega,List.length_eq_zero_iff.1 (by omega),fun f hf=>checkFunc_ok (hfit.2.2 f hf) (funcsE_all h4.1 f hf),callsF_all h5⟩
theorem unit_ok{u:Unt}(hfit:u.fit)(h:checkM u=0):UnitOK u:=by
 have hw:=check_ok hfit h
 refine⟨hw.main,hw.few,hw.none,fun f hf=>⟨(hw.fns f hf).ne,by have:=(hw.fns f hf).few;omega⟩,fun f hf b hb=>?_⟩
 have hF:=hw.fns f hf
 have hB:=hF.blk b hb
 have hE:=end_ok hB.fin
 refine⟨fun i hi=>?_,⟨hE.kind,?_,hE.jump,hE.cond,hE.switch,fun e he=>?_,by have:=hE.cases;omega⟩,by have:=hF.ins b hb;omega⟩
 ·have hi':=form_ok (hB.forms i hi)
  have hc:=calls_ok (hw.calls f hf b hb i hi)
  have hif:=((hfit.2.2 f hf).2.2 b hb).2.2.2.1 i hi
  have hlen:=hi'.len
  refine⟨.inl hi'.op,by omega,⟨hif.1,hif.2.2.1⟩,fun q=>(hi'.c0 q).1,hi'.c2,fun q=>hi'.c1 (by have:=hi'.op;omega),hi'.c3,fun q=>⟨?_,hlen⟩,fun q=>?_,fun q=>?_,hi'.app,hi'.sel,fun _=>hlen,hi'.vec⟩
  ·have:=hi'.con q
   unfold isW
   omega
  ·have:=hi'.call (.inl q)
   have:=hc.1 (.inr q)
   exact⟨by omega,by omega,hlen⟩
  have:=hi'.call (.inr q)
  exact⟨by omega,hc.1 (.inl q),hc.2.1 q⟩
 ·by_cases h4:b.term.kind=4
  ·have:=hE.trap h4
   omega
  have:=hE.n h4
  omega
 have he':=hE.edges e he
 have hm:=blkOf_mem (f:=f) (k:=e.block) (by omega) (by omega)
 have:=(hF.blk _ hm).few
 exact⟨by omega,by omega,he'.2,by omega⟩
def runM(u:Unt)(fuel:Int):Ans :=
 if checkM u≠0 then ⟨[],0,0,0,checkM u⟩
 else if within fuel 1 1000000=false then ⟨[],0,0,0,4⟩
 else performM u fuel
theorem run_spec(u:Unt)(hfit:u.fit)(fuel:Int):PCall Try.prog 12 [u.enc,aI fuel] (runM u fuel).enc:=by
 have hck:=check_spec u hfit
 have hw:=within_spec fuel 1 1000000
 obtain⟨R,hR⟩:∃R,R=runM u fuel:=⟨_,rfl⟩
 rw [←hR]
 unfold runM at hR
 by_cases hc:checkM u=0
 ·rw [if_neg (by simp [hc])] at hR
  have hu:=unit_ok hfit hc
  rw [hc] at hck
  cases hwb:within fuel 1 1000000 with
  | false =>
   rw [if_pos hwb] at hR
   rw [hwb] at hw
   refine zf true 0 Try.func12 Try.ntmps12 ?_
   dsimp only [Tmp,TypeId,slotsOf]
   refine zh1 (za0 ?_)
   refine awp_freeze1 2 0 (.ip none [eFuncs u.fns,aI u.main]) rfl (by simp [AObj.isSpare]) trivial rfl ?_ ?_
   rotate_left
   simp -dsimp only [simprocAttr,↓vpre,zp]
   ·refine zh2 ?_
    refine zi hck ?_
    refine za0 ?_
    refine zh1 (za0 ?_)
    refine zu0 rfl ?_
    refine zb0 ?_
    refine zh2 ?_
    refine zi hw ?_
    refine za0 ?_
    refine zw0 rfl ?_
    refine zh1 (za0 ?_)
    refine awp_ret ?_
    simp -dsimp only [simprocAttr,↓vpre,zp,zr,Try.results12]
    rw [hR]
    exact⟨by simp [uptoL,AVal.upto],rfl⟩
   exact FSub.mp rfl rfl
  | true =>
   rw [if_neg (by simp [hwb])] at hR
   have hwr:=within_iff.1 hwb
   have hper:=perform_spec hu (fuel:=fuel) (by omega) hwr.2
   rw [←hR] at hper
   unfold Ans.enc at hper
   rw [hwb] at hw
   refine zf true 0 Try.func12 Try.ntmps12 ?_
   dsimp only [Tmp,TypeId,slotsOf]
   refine zh1 (za0 ?_)
   refine awp_freeze1 2 0 (.ip none [eFuncs u.fns,aI u.main]) rfl (by simp [AObj.isSpare]) trivial rfl ?_ ?_
   rotate_left
   simp -dsimp only [simprocAttr,↓vpre,zp]
   ·refine zh2 ?_
    refine zi hck ?_
    refine za0 ?_
    refine zh1 (za0 ?_)
    refine zu0 rfl ?_
    refine zb0 ?_
    refine zh2 ?_
    refine zi hw ?_
    refine za0 ?_
    refine zu0 rfl ?_
    refine zb0 ?_
    refine zh1 ?_
    refine zi hper ?_
    refine za0 ?_
    refine awp_ret ?_
    simp -dsimp only [simprocAttr,↓vpre,zp,zr,Try.results12]
    exact⟨by simp [uptoL,AVal.upto,aI_upto],rfl⟩
   exact FSub.mp rfl rfl
 rw [if_pos hc] at hR
 obtain⟨e,he⟩:∃e,e=checkM u:=⟨_,rfl⟩
 rw [←he] at hc hck hR
 have hde:decide (e=0)=false:=decide_eq_false hc
 refine zf true 0 Try.func12 Try.ntmps12 ?_
 dsimp only [Tmp,TypeId,slotsOf]
 refine zh1 (za0 ?_)
 refine awp_freeze1 2 0 (.ip none [eFuncs u.fns,aI u.main]) rfl (by simp [AObj.isSpare]) trivial rfl ?_ ?_
 rotate_left
 simp -dsimp only [simprocAttr,↓vpre,zp]
 ·refine zh2 ?_
  refine zi hck ?_
  refine za0 ?_
  refine zg1 ?_
  simp -dsimp only [simprocAttr,↓vpre,zp,hde]
  refine za0 ?_
  refine zw0 rfl ?_
  refine zh1 (za0 ?_)
  refine awp_ret ?_
  simp -dsimp only [simprocAttr,↓vpre,zp,zr,Try.results12]
  rw [hR]
  exact⟨by simp [uptoL,AVal.upto],rfl⟩
 exact FSub.mp rfl rfl
theorem sameInts_spec(l m:List Int):PCall Try.prog 36 [eIs l,eIs m] (.v (.bool (decide (l=m)))):=by
 by_cases hlen:l.length=m.length
 ·have hdl:decide ((l.length:Int)=m.length)=true:=decide_eq_true (by omega)
  obtain⟨R,hR⟩:∃R,R=decide (l=m):=⟨_,rfl⟩
  rw [←hR]
  refine zf true 0 Try.func36 Try.ntmps36 ?_
  dsimp only [Tmp,TypeId,slotsOf]
  refine zh1 (za0 ?_)
  refine awp_len 0 rfl (fun hll=>?_)
  simp only [List.length_map] at hll
  refine zg2 ?_
  simp -dsimp only [simprocAttr,↓vpre,zp,hdl]
  refine za0 ?_
  apply zk0 rfl<;>intro h
  ·cases h
  refine zb0 ?_
  refine zh2 (za0 ?_)
  refine awp_block (awp_loop (ι:={k:Nat // k≤l.length∧R=decide (l.drop k=m.drop k)}) (fun k=>⟨26,[(0,eIs l),(1,eIs m),(4,.v (.bool false)),(12,eIs l),(13,aI l.length),(14,aI k.1)],[]⟩) (fun k=>l.length - k.1) ⟨0,by omega,hR⟩ ?_ ?_)
  ·refine zq rfl ?_ ?_
   simp -dsimp only [simprocAttr,↓vpre,zp,zc]
   rfl
  rintro⟨k,hk,hke⟩
  refine zh1 (za0 ?_)
  apply zk1 rfl<;>intro h
  ·refine zb0 ?_
   have hlt:k<l.length:=by simpa using h
   obtain⟨a,ha⟩:∃a,l[k]?=some a:=⟨l[k],by simp [hlt]⟩
   obtain⟨b,hb⟩:∃b,m[k]?=some b:=⟨m[k]'(by omega),List.getElem?_eq_getElem _⟩
   rw [drop_at ha,drop_at hb] at hke
   simp only [List.cons.injEq,Bool.decide_and] at hke
   refine awp_seq (awp_block ?_)
   refine zg1 ?_
   simp -dsimp only [simprocAttr,↓vpre,zp,ha]
   refine za0 ?_
   by_cases hab:b=a
   ·have hdab:decide (b=a)=true:=decide_eq_true hab
    rw [decide_eq_true hab.symm,Bool.true_and] at hke
    refine zg1 ?_
    simp -dsimp only [simprocAttr,↓vpre,zp,hb,hdab]
    repeat(refine⟨by omega,?_⟩)
    refine za0 ?_
    refine zu0 rfl ?_
    refine zb1 ?_
    refine zh0 ?_
    repeat(refine⟨by omega,?_⟩)
    refine zl0 ?_
    refine⟨⟨k+1,hlt,hke⟩,by simp;omega,?_⟩
    refine zq rfl ?_ ?_
    simp -dsimp only [simprocAttr,↓vpre,zp,zc]
    ·exact Sub.int (by simp)
    rfl
   have hdab:decide (b=a)=false:=decide_eq_false hab
   rw [decide_eq_false (fun e=>hab e.symm),Bool.false_and] at hke
   refine zg1 ?_
   simp -dsimp only [simprocAttr,↓vpre,zp,hb,hdab]
   repeat(refine⟨by omega,?_⟩)
   refine za0 ?_
   refine zw0 rfl ?_
   refine zh1 (za0 ?_)
   refine awp_ret ?_
   simp -dsimp only [simprocAttr,↓vpre,zp,zr,Try.results36]
   rw [hke]
  refine awp_exit ?_
  simp -dsimp only [vend,ne_eq,Nat.reduceEqDiff,reduceCtorEq]
  have hkk:k=l.length:=by simp at h;omega
  subst hkk
  rw [List.drop_length,hlen,List.drop_length] at hke
  refine zh1 (za0 ?_)
  refine awp_ret ?_
  simp -dsimp only [simprocAttr,↓vpre,zp,zr,Try.results36]
  rw [hke]
  rfl
 have hdl:decide ((l.length:Int)=m.length)=false:=decide_eq_false (by omega)
 rw [decide_eq_false (fun e=>hlen (by rw [e]))]
 refine zf true 0 Try.func36 Try.ntmps36 ?_
 dsimp only [Tmp,TypeId,slotsOf]
 refine zh1 (za0 ?_)
 refine zg2 ?_
 simp -dsimp only [simprocAttr,↓vpre,zp,hdl]
 refine za0 ?_
 refine zw0 rfl ?_
 refine zh1 (za0 ?_)
 refine awp_ret ?_
 simp -dsimp only [simprocAttr,↓vpre,zp,zr,Try.results36]
abbrev eRes(out:List Int)(fin val:Int):AVal:=.agg [.lst 1 (out.map aI) .sh,aI fin,aI val]
theorem sameResult_spec(l m:List Int)(e f v w:Int):PCall Try.prog 16 [eRes l e v,eRes m f w] (.v (.bool ((decide (e=f)&&decide (v=w))&&decide (l=m)))):=by
 have hs:=sameInts_spec l m
 cases h1:decide (e=f)
 ·refine zf true 0 Try.func16 Try.ntmps16 ?_
  dsimp only [Tmp,TypeId,slotsOf]
  refine zh1 (za0 ?_)
  refine zg1 ?_
  simp -dsimp only [simprocAttr,↓vpre,zp,h1]
  refine za0 ?_
  refine awp_ret ?_
  simp -dsimp only [simprocAttr,↓vpre,zp,zr,Try.results16]
 cases h2:decide (v=w)
 ·refine zf true 0 Try.func16 Try.ntmps16 ?_
  dsimp only [Tmp,TypeId,slotsOf]
  refine zh1 (za0 ?_)
  refine zg1 ?_
  simp -dsimp only [simprocAttr,↓vpre,zp,h1,h2]
  refine za0 ?_
  refine awp_ret ?_
  simp -dsimp only [simprocAttr,↓vpre,zp,zr,Try.results16]
 refine zf true 0 Try.func16 Try.ntmps16 ?_
 dsimp only [Tmp,TypeId,slotsOf]
 refine zh1 (za0 ?_)
 refine zg1 ?_
 simp -dsimp only [simprocAttr,↓vpre,zp,h1,h2]
 refine .inl ⟨_,hs,by simp only [uptoL,AVal.upto,zt,zu,aI_upto],later_intro ?_⟩
 simp -dsimp only [simprocAttr,↓vpre,zp,h1,h2]
 refine za0 ?_
 refine awp_ret ?_
 simp -dsimp only [simprocAttr,↓vpre,zp,zr,Try.results16]
theorem mkIns_spec(to op n:Int)(l:List Int):PCall Try.prog 57 [aI to,aI op,aI n,eIs l] (.agg [aI to,aI op,aI n,eIs l]):=by
 refine zf true 0 Try.func57 Try.ntmps57 ?_
 dsimp only [Tmp,TypeId,slotsOf]
 refine zh1 (za0 ?_)
 refine zh1 (za0 ?_)
 refine awp_ret ?_
 simp -dsimp only [simprocAttr,↓vpre,zp,zr,Try.results57]
 simp [uptoL,AVal.upto,aI_upto]
theorem mkJump_spec(k:Int)(l:List Int):PCall Try.prog 58 [aI k,eIs l] (.agg [aI 1,aI 0,aI 0,eIs [],.lst 2 [.agg [aI k,eIs l]] .sh]):=by
 refine zf true 0 Try.func58 Try.ntmps58 ?_
 dsimp only [Tmp,TypeId,slotsOf]
 refine zh1 (za0 ?_)
 refine zh1 (za0 ?_)
 refine awp_ret ?_
 simp -dsimp only [simprocAttr,↓vpre,zp,zr,Try.results58]
 simp [uptoL,AVal.upto,aI_upto]
theorem mkIns_nil(to op n:Int):PCall Try.prog 57 [aI to,aI op,aI n,.v (.slice none 0 0)] (.agg [aI to,aI op,aI n,eIs []]):=by
 have h:=mkIns_spec to op n []
 exact⟨h.1,fun g vs hg ho ha=>h.2 g vs hg ho ⟨ha.1,fun i c u hc hu=>by
  match i,hc,hu with
  | 0,hc,hu=>exact ha.2 0 c u hc hu
  | 1,hc,hu=>exact ha.2 1 c u hc hu
  | 2,hc,hu=>exact ha.2 2 c u hc hu
  | 3,hc,hu =>
   simp only [List.getElem?_cons_succ,List.getElem?_cons_zero,Option.some.injEq] at hc
   subst hc
   have:=(ha.2 3 _ u rfl hu).v_inv.1
   subst this
   exact .nil (fun id e=>by cases e) (by simp)
  | i+4,hc,_=>simp at hc⟩⟩
def countU:Unt:=⟨[⟨-1,[
 ⟨[],[⟨0,0,0,[]⟩],⟨1,0,0,[],[⟨1,[0]⟩]⟩⟩,
 ⟨[1],[⟨2,0,3,[]⟩,⟨3,6,0,[1,2]⟩],⟨2,3,0,[],[⟨2,[]⟩,⟨3,[]⟩]⟩⟩,
 ⟨[],[⟨4,15,0,[1]⟩,⟨5,0,1,[]⟩,⟨6,1,0,[1,5]⟩],⟨1,0,0,[],[⟨1,[6]⟩]⟩⟩,
 ⟨[],[],⟨0,1,0,[],[]⟩⟩]⟩],0⟩
theorem count_run:runM countU 27=⟨[0,1,2],0,3,27,0⟩:=by kernel_rfl
theorem count_spec:PCall Try.prog 32 [] countU.enc:=by
 refine zf true 0 Try.func32 Try.ntmps32 ?_
 dsimp only [Tmp,TypeId,slotsOf]
 refine zh1 (za0 ?_)
 refine zh1 (za0 ?_)
 refine zh1 (za0 ?_)
 refine zh1 ?_
 refine zi ((mkIns_nil 0 0 0)) ?_
 refine zi ((mkJump_spec 1 [0])) ?_
 refine zi ((mkIns_nil 2 0 3)) ?_
 refine zi ((mkIns_spec 3 6 0 [1,2])) ?_
 refine zi ((mkIns_spec 4 15 0 [1])) ?_
 refine zi ((mkIns_nil 5 0 1)) ?_
 refine zi ((mkIns_spec 6 1 0 [1,5])) ?_
 refine zi ((mkJump_spec 1 [6])) ?_
 refine za0 ?_
 refine awp_ret ?_
 simp -dsimp only [simprocAttr,↓vpre,zp,zr,Try.results32]
 exact⟨by simp [uptoL,AVal.upto,aI_upto],rfl⟩
theorem countU_fit:countU.fit:=by
 simp [countU,Unt.fit,Func.fit,Block.fit,Ins.fit,Term.fit,Edge.fit,fitI,fitIs]
theorem works_spec:PCall Try.prog 11 [] (.v (.bool true)):=by
 have hrun:=run_spec countU countU_fit 27
 rw [count_run] at hrun
 have hsr:=sameResult_spec [0,1,2] [0,1,2] 0 0 3 3
 have hcnt:=count_spec
 unfold Ans.enc at hrun
 unfold eRes at hsr
 simp only [List.map_cons,List.map_nil,decide_true,Bool.and_self] at hrun hsr
 generalize countU=u at *
 refine zf true 0 Try.func11 Try.ntmps11 ?_
 dsimp only [Tmp,TypeId,slotsOf]
 refine zh1 (za0 ?_)
 refine zh1 ?_
 refine zi hcnt ?_
 refine zi hrun ?_
 refine za0 ?_
 refine zh1 ?_
 refine zi hsr ?_
 refine za0 ?_
 refine awp_ret ?_
 simp -dsimp only [simprocAttr,↓vpre,zp,zr,Try.results11]
end Go.Proofs.Ytkhnjeblbiocaaa
