/- Texts of the proof, bound together and shortened by a program of mine. -/
import Derived.Test.YtjdnhamngpafmaaGreatG7
set_option linter.all false
set_option maxRecDepth 100000
set_option maxHeartbeats 4000000
namespace Go.Proofs.YtjdnhamngpafmaaGreat
open Go.Av Tryz
theorem qfZ{u:Ad}(AO:u.fit)(hc:Hh u=0)(he:OV u≠0):OV u=2:=by
 unfold OV at he ⊢;rw[A9 hc,A9 (ua AO hc)]at he ⊢;split at he
 ·exact B3 rfl he
 rename_i q2;rw[A4 q2]
theorem qaD{u:Ad}(he:OV u=0):Hh u=0∧Gc LA u.fns=0∧GN (GR u)=0:=by
 have Jo:Hh u=0:=by
  unfold OV at he;split at he
  ·assumption
  assumption
 have Vh:Gc LA u.fns=0:=by
  unfold OV at he;rw[A9 Jo]at he;split at he
  ·assumption
  exact he
 refine⟨Jo,Vh,?_⟩;unfold OV at he;rw[A9 Jo,A9 Vh]at he;split at he
 ·assumption
 simp at he
theorem qaM(u:Ad)(AO:u.fit):BR prog 7 [u.enc] (.v (.bool true)):=by
 have hwk:=qdb;have Qo:=qdm u AO;have Fb:=qa2 u AO;unfold ZD at Fb;by_cases he:OV u=0
 ·rw[A9 he]at Fb;obtain⟨h1,h2,h3⟩:=qaD he;have Z0:=lE AO h1 h2;have hle:=qc1 (GR u) Z0 fun hc h=>(ng Z0 hc h).1;unfold eY at hle;obtain⟨U,hU⟩:∃U,U=GR u:=⟨_,rfl⟩
  rw[<-hU]at Fb h3 Z0 hle;cases hs:nj u with
  | false =>
   rw[hs]at Qo;unfold Ad.enc at Fb Qo;refine dw ?_ ?_
   ·exact Be
   refine eA ?_;apply AZ rfl<;>intro h
   ·cases h
   refine jl ?_ ?_
   ·exact Be
   refine GX ?_;refine zi Qo ?_;refine Rn ?_;exact dp
  | true =>
   rw[hs]at Qo;by_cases hl:UM U=0
   ·rw[A9 hl]at hle;have Bt:Gc Jv U.fns=0:=by
     unfold UM at hl;rw[A9 h3]at hl;split at hl
     ·assumption
     simp at hl
    have hmq:Hh (Gp U)=0:=by
     unfold UM at hl;rw[A9 h3,A9 Bt]at hl;split at hl
     ·assumption
     simp at hl
    have Wm:=(ng Z0 h3 Bt).1;have VK:=qa2 (Gp U) Wm;unfold ZD at VK;by_cases NY:OV (Gp U)=0
    ·rw[A9 NY]at VK;obtain⟨k1,k2,k3⟩:=qaD NY;have qm9:=lE Wm k1 k2;have DK:=qcw U (GR (Gp U)) Z0 qm9 fun q1 q2=>by
      have hB:runM (GR (Gp U)) 1000000=D2 (GR (Gp U)) 1000000:=by
       unfold runM;rw[A4 (by simp[k3]),A4 EW]
      rw[hB];exact qbl Z0 h3 Bt hmq k3 q1 q2
     generalize GR (Gp U)=V at *;generalize Gp U=Q at *;unfold Ad.enc at Fb Qo hle VK DK;refine dw ?_ ?_
     ·exact Be
     refine eA ?_;apply AZ rfl<;>intro h
     ·cases h
     refine jl ?_ ?_
     ·exact Be
     refine GX ?_;refine zi Qo ?_;refine Ak ?_;apply AZ rfl<;>intro h
     ·cases h
     refine acy ?_ ?_
     ·exact Be
     refine BF ?_;apply AZ rfl<;>intro h
     ·cases h
     refine WW ?_;refine zi VK ?_;refine Ak ?_;refine Cz 6 3 (.ip none [C8 V.fns,aI V.main]) rfl Bd trivial rfl ?_ ?_;rotate_left;refine BL ?_;rotate_left
     ·exact Be
     refine BM ?_;refine zi DK ?_;refine E9 ?_;exact dp
    have e2:=qfZ Wm hmq NY;rw[A4 NY,e2]at VK;unfold zUe at VK;generalize Gp U=Q at *;unfold Ad.enc at Fb Qo hle VK;refine dw ?_ ?_
    ·exact Be
    refine eA ?_;apply AZ rfl<;>intro h
    ·cases h
    refine jl ?_ ?_
    ·exact Be
    refine GX ?_;refine zi Qo ?_;refine Ak ?_;apply AZ rfl<;>intro h
    ·cases h
    refine acy ?_ ?_
    ·exact Be
    refine BF ?_;apply AZ rfl<;>intro h
    ·cases h
    refine WW ?_;refine zi VK ?_;refine Ak ?_;refine D7 ?_;exact dp
   have e2:UM U=2:=by
    unfold UM at hl ⊢;rw[A9 h3]at hl ⊢;split at hl
    ·rename_i q;rw[A9 q];split at hl
     ·exact B3 rfl hl
     rename_i q2;rw[A4 q2]
    rename_i q;rw[A4 q]
   rw[A4 hl,e2]at hle;unfold zU at hle;unfold Ad.enc at Fb Qo hle;refine dw ?_ ?_
   ·exact Be
   refine eA ?_;apply AZ rfl<;>intro h
   ·cases h
   refine jl ?_ ?_
   ·exact Be
   refine GX ?_;refine zi Qo ?_;refine Ak ?_;apply AZ rfl<;>intro h
   ·cases h
   refine WW ?_;refine zi hle ?_;refine Ak ?_;refine BF ?_;refine E3 ?_;exact dp
 rw[A4 he]at Fb;unfold zUe at Fb;obtain⟨e,GV⟩:∃e,e=OV u:=⟨_,rfl⟩
 rw[<-GV]at he Fb;have Ca:decide (e=0)=false:=Ac he;unfold Ad.enc at Fb Qo;refine dw ?_ ?_
 ·exact Be
 refine eA ?_;apply AZ rfl<;>intro h
 ·cases h
 refine WW ?_;refine zi Fb ?_;refine Rm Ca ?_;refine E3 ?_;exact dp
end Go.Proofs.YtjdnhamngpafmaaGreat
