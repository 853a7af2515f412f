/- Merged out of: Vv Td. -/
import Derived.Test.YteembinfgbapgaaGreatC00
import Derived.Test.YteembinfgbapgaaGreatC30
import Derived.Test.YteembinfgbapgaaGreatC29
import Derived.Test.YteembinfgbapgaaGreatC28
import Derived.Deep.RegionHeld3
set_option linter.unusedSimpArgs false
set_option linter.unusedVariables false
set_option maxRecDepth 100000
set_option maxHeartbeats 8000000
namespace Go.Proofs.YteembinfgbapgaaGreat
section
open Go.RowKit Go.Lib Go.Maps
def ValsP (r:Bool) (m:Nat) (vs:List Vl) (w:World) (e:Ending) (w':World):Prop:=∃B k d,e=.returned (.tuple #[.slice B k d,.bool r])∧(r=true→k=m∧m≤d∧Rd w' B (cellsVl vs))∧Below w.heap.size w w'
def valT (l:List Fd) (b:List UInt8) (k:Nat):List Vl:=(l.take k).map fun f=>getV b l f.s
theorem vals_take {l:List Fd} {b:List UInt8} {k:Nat} {f:Fd} (hf:l[k]?=some f):cellsVl (valT l b (k+1))=cellsVl (valT l b k)++[.int .i64 (getV b l f.s).k,.int .u64 (getV b l f.s).b,.string (getV b l f.s).t]:=by
 rw[valT,valT,Vq,hf]
 simp[cellsVl]
theorem rValues_m (s:ByteArray) (b:List UInt8) (hsb:bl s=b) (A:Option Addr) (c m:Nat) (l:List Fd) (hm:l.length=m) (hl:m≤1000) (r:Bool) (hr:checkB l b=r) (w:World) (hA:Rd w A (cellsF l)) (hs:∀f∈l,f.s.size≤9223372036854775807):
 Calls Tryz.prog 41 #[.string s,.slice A m c] w fun e w'=>ValsP r m (valsL l b) w e w':=by
 obtain⟨i0,hi,hz0,hz1,hz2⟩:=info_parts infoVal
 obtain⟨z,hz⟩:∃z,sizeF l=z:=⟨_,rfl⟩
 obtain⟨ls,hls⟩:∃ls,layL l=ls:=⟨_,rfl⟩
 obtain⟨rb,hrb⟩:∃rb,rightF l=rb:=⟨_,rfl⟩
 have hsl:s.size=b.length:=by rw[←hsb];simp[bl]
 have HSB:=J0 hsb;have HM:=J0 hm;have HR:=J0 hr;have HZ:=J0 hz;have HLS:=J0 hls;have HRB:=J0 hrb;have HS:=J0 hs;have HSL:=J0 hsl
 have HB:=Jy w.heap.size w
 clear hsb hm hr hz hls hrb hs hsl
 have no:rb=false∨b.length≠z→r=false:=fun h=>by
  rw[←HR.out]
  cases hc:checkB l b with
  |false=>rfl
  |true=>
   obtain⟨a1,a2,_⟩:=checkB_iff.1 hc
   rcases h with h|h
   ·rw[HRB.out,h] at a1;cases a1
   ·exact absurd (a2.trans HZ.out) h
 go_enter Tryz.func41,Tryz.ntmps41
 go_upto_region 2 with (go_at_call 76;refine(rLayout_m A c m l HM.out z HZ.out ls HLS.out ls.length rfl _ hA (by omega) HS.out).mono ?_;rintro e W1 ⟨B,c',rfl,_,hb⟩;replace HB:=HB.trans (hb.mono HB.size);clear hb)
 cases rb
 ·obtain rfl:=no (.inl rfl)
  clear no
  go_wp2_with (go_at_call 77;refine(rRight_m A c m l HM.out false HRB.out _ (hA.below HB) (by omega) HS.out).mono ?_;rintro e W2 ⟨rfl,hb⟩;replace HB:=HB.trans (hb.mono HB.size);clear hb)
  refine bodyPost_ret (v:=.tuple #[.slice none 0 0,.bool false]) (by simp[results,Tryz.results41,go_sem, *];done) rfl ⟨_,_,_,rfl,(fun h=>by cases h),HB⟩
 by_cases hzl:s.size=z
 ·have h1:((s.size:Int) != (z:Int))=false:=by simp[hzl]
  have hzl':=J0 hzl
  clear hzl no
  go_upto_region 6 with (go_at_call 77;refine(rRight_m A c m l HM.out true HRB.out _ (hA.below HB) (by omega) HS.out).mono ?_;rintro e W2 ⟨rfl,hb⟩;replace HB:=HB.trans (hb.mono HB.size);clear hb)
  have HB0:=HB
  clear HB
  go_loopw [4,5,8,9,10,11] (fun _ _ o i _ _ wr=>∃(k:Nat),k≤m∧i=.int .i64 k∧wr.ownsRow w.heap.size 71 3 o k (cellsVl (valT l b k))∧Hid (∀f∈l.take k,getE b l f.s=0)∧Below w.heap.size w wr) (fun _ _ _ i _ _ _=>m - (intOf i).toNat)
  case atStart=>exact⟨0,by omega,rfl,own_nil _ _ _ _,J0 (fun f hf=>by simp at hf),HB0⟩
  case round=>
   obtain⟨k,hk,rfl,hown,hok,HB⟩:=hrel
   clear HB0
   by_cases hlt:k<m
   ·obtain⟨f,hf⟩:∃f,l[k]?=some f:=⟨_,J4 (by rw[HM.out];exact hlt)⟩
    obtain⟨x,hx⟩:∃x,getV b l f.s=x:=⟨_,rfl⟩
    obtain⟨q,hq⟩:∃q,getE b l f.s=q:=⟨_,rfl⟩
    obtain⟨ad,rfl,f0,f1,f2⟩:=(hA.below HB).fld hf
    have htk:=vals_take (b:=b) hf
    rw[hx] at htk
    have hi0:(0:Int)≤(k:Int):=by omega
    have hi1:(k:Int)<(m:Int):=by omega
    have HX:=J0 hx;have HQ:=J0 hq;have HF:=J0 hf;have HT:=J0 htk
    clear hx hq hf htk
    go_upto_region 9 with (go_at_call 78;refine(rGet_m s b HSB.out _ c m l HM.out f.s x HX.out q HQ.out _ (hA.below HB) (by omega) HS.out).mono ?_;rintro e w1 ⟨rfl,hb1⟩;replace hown:=own_below hown hb1;replace HB:=HB.trans (hb1.mono HB.size);clear hb1 f0 f1 f2)
    have P:=OBox.new w1 [.int .i64 x.k,.int .u64 x.b,.string x.t] 71
    have nb:=below_new (w:=w1) (.cells #[.int .i64 x.k,.int .u64 x.b,.string x.t] 71)
    replace hown:=own_below hown nb
    replace HB:=HB.trans (nb.mono HB.size)
    generalize w1.alloc (.cells #[.int .i64 x.k,.int .u64 x.b,.string x.t] 71)=W3 at *
    clear nb
    by_cases hq0:q=0
    ·have e1:(q == 0)=true:=by simpa using hq0
     have HQ0:=J0 hq0
     clear hq0
     obtain⟨p0,p1,p2⟩:=VBox3 P
     go_wp2_with (at_builtin;refine wpList_append_own _ rfl _ _ 103 rfl w.heap.size 71 i0 (.agg #[.int .i64 0,.int .u64 0,.string ⟨#[]⟩]) 3 32 Tryz.underlying103 hi hz0 hz1 hz2 rfl (by decide) _ _ _ rfl (hown.alloc _) ⟨W3.heap.size,0,none⟩ 1 1 [.int .i64 x.k,.int .u64 x.b,.string x.t] rfl rfl ?c1 ?c2 ?c3 ?c4 ?c5 ?_)
     case c1=>exact news3 _ _ _ _ _
     case c2=>intro u hu;simp at hu;rcases hu with rfl|rfl|rfl <;> rfl
     case c3=>simp only[maxLen];omega
     case c4=>omega
     case c5=>have:=HB.size;simp;omega
     intro v' w4 hown' hgrow _
     have BG:Below w.heap.size w w4:=(HB.alloc HB.size (.cells #[.int .i64 x.k,.int .u64 x.b,.string x.t] 71)).grown hgrow (by have:=HB.size;simp;omega) (fun q hq=>own_base hown q hq)
     have hown4:w4.ownsRow w.heap.size 71 3 v' (k+1) (cellsVl (valT l b (k+1))):=own_eq hown' (by simp) (by rw[HT.out])
     clear hown' hgrow hown p0 p1 p2
     have hok':Hid (∀f∈l.take (k+1),getE b l f.s=0):=J0 (fun y hy=>by
      rw[Vq,HF.out] at hy
      rcases X7.1 hy with h|h
      ·exact hok.out y h
      ·simp at h;subst h;rw[HQ.out];exact HQ0.out)
     go_wp2
     go_roundw
     case rel=>exact⟨k+1,by omega,by go_num,hown4,hok',BG⟩
     case measure=>simp[intOf];omega
    ·have e1:(q == 0)=false:=by simpa using hq0
     have hrf:r=false:=by
      rw[←HR.out]
      cases hc:checkB l b with
      |false=>rfl
      |true=>exact absurd (HQ.out.symm.trans ((checkB_iff.1 hc).2.2 f (J7 HF.out))) hq0
     subst hrf
     clear hq0
     go_wp2
     refine bodyPost_ret (v:=.tuple #[.slice none 0 0,.bool false]) (by simp[results,Tryz.results41,go_sem, *];done) rfl ⟨_,_,_,rfl,(fun h=>by cases h),HB⟩
   ·obtain rfl:k=m:=by omega
    have hrt:r=true:=by
     rw[←HR.out,checkB_iff]
     exact⟨HRB.out,by rw[←HSL.out,hzl'.out,HZ.out],fun f hf=>hok.out f (by rw[Vz (Nat.le_of_eq HM.out)];exact hf)⟩
    subst hrt
    obtain⟨B',c',rfl,hd,_,hrd⟩:=own_rd hown
    go_wp2
    refine bodyPost_ret (v:=.tuple #[.slice B' k c',.bool true]) (by simp[results,Tryz.results41,go_sem, *];done) rfl ⟨_,_,_,rfl,(fun _=>⟨rfl,hd,?_⟩),HB⟩
    rw[valT,Vz (Nat.le_of_eq HM.out)] at hrd
    exact hrd
 ·obtain rfl:=no (.inr (by rw[←HSL.out];exact hzl))
  have h1:((s.size:Int) != (z:Int))=true:=by simp;omega
  clear no hzl
  go_wp2_with (go_at_call 77;refine(rRight_m A c m l HM.out true HRB.out _ (hA.below HB) (by omega) HS.out).mono ?_;rintro e W2 ⟨rfl,hb⟩;replace HB:=HB.trans (hb.mono HB.size);clear hb)
  refine bodyPost_ret (v:=.tuple #[.slice none 0 0,.bool false]) (by simp[results,Tryz.results41,go_sem, *];done) rfl ⟨_,_,_,rfl,(fun h=>by cases h),HB⟩
end
section
open Go.RowKit Go.Lib
def CoL (t:Tb) (code:Int) (w:World) (e:Ending) (w':World):Prop:=
 ∃X0 z0 X1 z1 X2 z2,e=.returned (.tuple #[.agg #[.slice X0 t.o.length z0,.slice X1 t.n.length z1,.slice X2 t.m.length z2],.int .i64 code])∧t.o.length≤z0∧t.n.length≤z1∧RdP (fun g=>w.heap.size≤g) w' X0 (cellsF t.o)∧RdP (fun g=>w.heap.size≤g) w' X1 (cellsF t.n)∧RdP (fun g=>w.heap.size≤g) w' X2 (cellsM t.m)∧Below w.heap.size w w'
theorem ComposeL_no (a b:Tb) (X0 X1 X2 Z0 Z1 Z2:Option Addr) (x0 x1 x2 z0 z1 z2 ao an am bo bn bm:Nat) (hao:a.o.length=ao) (han:a.n.length=an) (ham:a.m.length=am) (hbo:b.o.length=bo) (hbn:b.n.length=bn) (hbm:b.m.length=bm) (l0:ao≤9223372036854775807) (l1:an≤9223372036854775807) (l2:am≤9223372036854775807) (l3:bo≤9223372036854775807) (l4:bn≤9223372036854775807) (l5:bm≤9223372036854775807) (wa:MvW a.m) (wb:MvW b.m) (w:World) (r0:Rd w X0 (cellsF a.o)) (r1:Rd w X1 (cellsF a.n)) (r2:Rd w X2 (cellsM a.m)) (s0:Rd w Z0 (cellsF b.o)) (s1:Rd w Z1 (cellsF b.n)) (s2:Rd w Z2 (cellsM b.m)) (hmeet:meetB a b=false):
 Calls Tryz.prog 98 #[.agg #[.slice X0 ao x0,.slice X1 an x1,.slice X2 am x2],.agg #[.slice Z0 bo z0,.slice Z1 bn z1,.slice Z2 bm z2]] w fun e w'=>CoL Tb.z 70 w e w':=by
 obtain⟨q1,hq1⟩:∃r,rightT a=r:=⟨_,rfl⟩
 obtain⟨q2,hq2⟩:∃r,rightT b=r:=⟨_,rfl⟩
 obtain⟨q3,hq3⟩:∃r,sameFB a.n b.o=r:=⟨_,rfl⟩
 rw[meetB,hq1,hq2,hq3] at hmeet
 have S:CoS w _ 96 [.slice X0 ao x0,.slice X1 an x1,.slice X2 am x2] [.slice Z0 bo z0,.slice Z1 bn z1,.slice Z2 bm z2] [.slice none 0 0,.slice none 0 0,.slice none 0 0]:=CoS.new w _ _ _ _
 obtain⟨P0,P1,P2,P3,P4,P5⟩:=S.P.f3
 obtain⟨Q0,Q1,Q2,Q3,Q4,Q5⟩:=S.Q.f3
 obtain⟨N0,N1,N2,N3,N4,N5⟩:=S.N.f3
 have HAO:=J0 hao;have HAN:=J0 han;have HAM:=J0 ham
 have HBO:=J0 hbo;have HBN:=J0 hbn;have HBM:=J0 hbm
 have HR1:=J0 hq1;have HR2:=J0 hq2;have HR3:=J0 hq3
 have WA:=J0 wa;have WB:=J0 wb
 have tok1:=True.intro
 clear hao han ham hbo hbn hbm hq1 hq2 hq3 wa wb
 cases q1
 ·clear hmeet
  go_enter Tryz.func98,Tryz.ntmps98
  go_wp2_with (first|(have _t:=tok1;go_at_call 72;refine(TRight_m a X0 X1 X2 x0 x1 x2 ao an am HAO.out HAN.out HAM.out l0 l1 l2 WA.out _ (r0.below S.B) (r1.below S.B) (r2.below S.B)).mono ?_;rintro e W1 ⟨rfl,hb⟩;rw[HR1.out];replace S:=S.below hb;clear P0 P1 P2 P3 P4 P5 Q0 Q1 Q2 Q3 Q4 Q5 N0 N1 N2 N3 N4 N5;obtain⟨P0,P1,P2,P3,P4,P5⟩:=S.P.f3;obtain⟨Q0,Q1,Q2,Q3,Q4,Q5⟩:=S.Q.f3;obtain⟨N0,N1,N2,N3,N4,N5⟩:=S.N.f3;clear hb tok1;have tok2:=True.intro))
  refine bodyPost_ret (v:=.tuple #[.agg #[.slice none 0 0,.slice none 0 0,.slice none 0 0],.int .i64 70]) (by simp[results,Tryz.results98,go_sem, *];done) rfl ⟨none,0,none,0,none,0,rfl,J9 _,J9 _,fun h=>absurd rfl h,fun h=>absurd rfl h,fun h=>absurd rfl h,?_⟩
  have HB:=S.B
  (repeat (first|exact HB|refine J8 ?_ (by dsimp only;omega) _|refine Jk ?_ (by have hs_:=HB.size;first|(simp;done)|(simp;omega)|omega) _|apply Jv))
 cases q2
 ·clear hmeet
  go_enter Tryz.func98,Tryz.ntmps98
  go_wp2_with (first|(have _t:=tok1;go_at_call 72;refine(TRight_m a X0 X1 X2 x0 x1 x2 ao an am HAO.out HAN.out HAM.out l0 l1 l2 WA.out _ (r0.below S.B) (r1.below S.B) (r2.below S.B)).mono ?_;rintro e W1 ⟨rfl,hb⟩;rw[HR1.out];replace S:=S.below hb;clear P0 P1 P2 P3 P4 P5 Q0 Q1 Q2 Q3 Q4 Q5 N0 N1 N2 N3 N4 N5;obtain⟨P0,P1,P2,P3,P4,P5⟩:=S.P.f3;obtain⟨Q0,Q1,Q2,Q3,Q4,Q5⟩:=S.Q.f3;obtain⟨N0,N1,N2,N3,N4,N5⟩:=S.N.f3;clear hb tok1;have tok2:=True.intro)|(have _t:=tok2;go_at_call 72;refine(TRight_m b Z0 Z1 Z2 z0 z1 z2 bo bn bm HBO.out HBN.out HBM.out l3 l4 l5 WB.out _ (s0.below S.B) (s1.below S.B) (s2.below S.B)).mono ?_;rintro e W2 ⟨rfl,hb⟩;rw[HR2.out];replace S:=S.below hb;clear P0 P1 P2 P3 P4 P5 Q0 Q1 Q2 Q3 Q4 Q5 N0 N1 N2 N3 N4 N5;obtain⟨P0,P1,P2,P3,P4,P5⟩:=S.P.f3;obtain⟨Q0,Q1,Q2,Q3,Q4,Q5⟩:=S.Q.f3;obtain⟨N0,N1,N2,N3,N4,N5⟩:=S.N.f3;clear hb tok2))
  refine bodyPost_ret (v:=.tuple #[.agg #[.slice none 0 0,.slice none 0 0,.slice none 0 0],.int .i64 70]) (by simp[results,Tryz.results98,go_sem, *];done) rfl ⟨none,0,none,0,none,0,rfl,J9 _,J9 _,fun h=>absurd rfl h,fun h=>absurd rfl h,fun h=>absurd rfl h,?_⟩
  have HB:=S.B
  (repeat (first|exact HB|refine J8 ?_ (by dsimp only;omega) _|refine Jk ?_ (by have hs_:=HB.size;first|(simp;done)|(simp;omega)|omega) _|apply Jv))
 obtain rfl:q3=false:=by simpa using hmeet
 clear hmeet
 go_enter Tryz.func98,Tryz.ntmps98
 go_wp2_with (first|(have _t:=tok1;go_at_call 72;refine(TRight_m a X0 X1 X2 x0 x1 x2 ao an am HAO.out HAN.out HAM.out l0 l1 l2 WA.out _ (r0.below S.B) (r1.below S.B) (r2.below S.B)).mono ?_;rintro e W1 ⟨rfl,hb⟩;rw[HR1.out];replace S:=S.below hb;clear P0 P1 P2 P3 P4 P5 Q0 Q1 Q2 Q3 Q4 Q5 N0 N1 N2 N3 N4 N5;obtain⟨P0,P1,P2,P3,P4,P5⟩:=S.P.f3;obtain⟨Q0,Q1,Q2,Q3,Q4,Q5⟩:=S.Q.f3;obtain⟨N0,N1,N2,N3,N4,N5⟩:=S.N.f3;clear hb tok1;have tok2:=True.intro)|(have _t:=tok2;go_at_call 72;refine(TRight_m b Z0 Z1 Z2 z0 z1 z2 bo bn bm HBO.out HBN.out HBM.out l3 l4 l5 WB.out _ (s0.below S.B) (s1.below S.B) (s2.below S.B)).mono ?_;rintro e W2 ⟨rfl,hb⟩;rw[HR2.out];replace S:=S.below hb;clear P0 P1 P2 P3 P4 P5 Q0 Q1 Q2 Q3 Q4 Q5 N0 N1 N2 N3 N4 N5;obtain⟨P0,P1,P2,P3,P4,P5⟩:=S.P.f3;obtain⟨Q0,Q1,Q2,Q3,Q4,Q5⟩:=S.Q.f3;obtain⟨N0,N1,N2,N3,N4,N5⟩:=S.N.f3;clear hb tok2)|(go_at_call 141;refine(SlEqual_m X1 Z0 x1 z0 an bo a.n b.o HAN.out HBO.out _ HR3.out _ (r1.below S.B) (s0.below S.B) l1 l3).mono ?_;rintro e W3 ⟨rfl,hb⟩;replace S:=S.below hb;clear P0 P1 P2 P3 P4 P5 Q0 Q1 Q2 Q3 Q4 Q5 N0 N1 N2 N3 N4 N5;obtain⟨P0,P1,P2,P3,P4,P5⟩:=S.P.f3;obtain⟨Q0,Q1,Q2,Q3,Q4,Q5⟩:=S.Q.f3;obtain⟨N0,N1,N2,N3,N4,N5⟩:=S.N.f3;clear hb))
 refine bodyPost_ret (v:=.tuple #[.agg #[.slice none 0 0,.slice none 0 0,.slice none 0 0],.int .i64 70]) (by simp[results,Tryz.results98,go_sem, *];done) rfl ⟨none,0,none,0,none,0,rfl,J9 _,J9 _,fun h=>absurd rfl h,fun h=>absurd rfl h,fun h=>absurd rfl h,?_⟩
 have HB:=S.B
 (repeat (first|exact HB|refine J8 ?_ (by dsimp only;omega) _|refine Jk ?_ (by have hs_:=HB.size;first|(simp;done)|(simp;omega)|omega) _|apply Jv))
theorem ComposeL_yes (a b:Tb) (X0 X1 X2 Z0 Z1 Z2:Option Addr) (x0 x1 x2 z0 z1 z2 ao an am bo bn bm:Nat) (hao:a.o.length=ao) (han:a.n.length=an) (ham:a.m.length=am) (hbo:b.o.length=bo) (hbn:b.n.length=bn) (hbm:b.m.length=bm) (l0:ao≤9223372036854775807) (l1:an≤9223372036854775807) (l2:am≤9223372036854775807) (l3:bo≤9223372036854775807) (l4:bn≤9223372036854775807) (l5:bm≤9223372036854775807) (wa:MvW a.m) (wb:MvW b.m) (w:World) (r0:Rd w X0 (cellsF a.o)) (r1:Rd w X1 (cellsF a.n)) (r2:Rd w X2 (cellsM a.m)) (s0:Rd w Z0 (cellsF b.o)) (s1:Rd w Z1 (cellsF b.n)) (s2:Rd w Z2 (cellsM b.m)) (hcap:ao≤x0) (hcap1:bn≤z1) (hmeet:meetB a b=true) (r:Bool) (hr:rightT (compT a b)=r):
 Calls Tryz.prog 98 #[.agg #[.slice X0 ao x0,.slice X1 an x1,.slice X2 am x2],.agg #[.slice Z0 bo z0,.slice Z1 bn z1,.slice Z2 bm z2]] w fun e w'=>CoL (bif r then compT a b else Tb.z) (bif r then 0 else 70) w e w':=by
 obtain⟨i0,hi,hz0,hz1,hz2⟩:=info_parts infoMv
 obtain⟨hq1,hq2,hq⟩:=meetB_iff.1 hmeet
 have hq3:sameFB a.n b.o=true:=by simp[sameFB,hq]
 obtain⟨_,_,_⟩:=rightT_16 hq1
 obtain⟨_,_,_⟩:=rightT_16 hq2
 have hmn:bm=bn:=by rw[←hbm,←hbn];exact(rightT_iff.1 hq2).2.2.1
 have hna:an=bo:=by rw[←han,←hbo,hq]
 have hma:am=an:=by rw[←ham,←han];exact(rightT_iff.1 hq1).2.2.1
 have hat:=fun k x g hx hg=>comp_at (k:=k) (m:=x) (g:=g) wa hq1 hq2 hq hx hg
 have S:CoS w _ 96 [.slice X0 ao x0,.slice X1 an x1,.slice X2 am x2] [.slice Z0 bo z0,.slice Z1 bn z1,.slice Z2 bm z2] [.slice none 0 0,.slice none 0 0,.slice none 0 0]:=CoS.new w _ _ _ _
 obtain⟨P0,P1,P2,P3,P4,P5⟩:=S.P.f3
 obtain⟨Q0,Q1,Q2,Q3,Q4,Q5⟩:=S.Q.f3
 obtain⟨N0,N1,N2,N3,N4,N5⟩:=S.N.f3
 have HAO:=J0 hao;have HAN:=J0 han;have HAM:=J0 ham
 have HBO:=J0 hbo;have HBN:=J0 hbn;have HBM:=J0 hbm
 have HR1:=J0 hq1;have HR2:=J0 hq2;have HR3:=J0 hq3
 have WA:=J0 wa;have WB:=J0 wb;have HAT:=J0 hat;have HRR:=J0 hr
 have tok1:=True.intro
 have hb16:bm≤16:=by omega
 have ha16:ao≤16:=by omega
 have hao4:ao≤4398046511104:=by omega
 have hbn4:bn≤4398046511104:=by omega
 have HMN:=J0 hmn;have HNA:=J0 hna;have HMA:=J0 hma
 clear hao han ham hbo hbn hbm hq1 hq2 hq3 wa wb hat hq hr hmeet hmn hna hma
 go_enter Tryz.func98,Tryz.ntmps98
 go_upto_region 3 with (first|(have _t:=tok1;go_at_call 72;refine(TRight_m a X0 X1 X2 x0 x1 x2 ao an am HAO.out HAN.out HAM.out l0 l1 l2 WA.out _ (r0.below S.B) (r1.below S.B) (r2.below S.B)).mono ?_;rintro e W1 ⟨rfl,hb⟩;rw[HR1.out];replace S:=S.below hb;clear P0 P1 P2 P3 P4 P5 Q0 Q1 Q2 Q3 Q4 Q5 N0 N1 N2 N3 N4 N5;obtain⟨P0,P1,P2,P3,P4,P5⟩:=S.P.f3;obtain⟨Q0,Q1,Q2,Q3,Q4,Q5⟩:=S.Q.f3;obtain⟨N0,N1,N2,N3,N4,N5⟩:=S.N.f3;clear hb tok1;have tok2:=True.intro)|(have _t:=tok2;go_at_call 72;refine(TRight_m b Z0 Z1 Z2 z0 z1 z2 bo bn bm HBO.out HBN.out HBM.out l3 l4 l5 WB.out _ (s0.below S.B) (s1.below S.B) (s2.below S.B)).mono ?_;rintro e W2 ⟨rfl,hb⟩;rw[HR2.out];replace S:=S.below hb;clear P0 P1 P2 P3 P4 P5 Q0 Q1 Q2 Q3 Q4 Q5 N0 N1 N2 N3 N4 N5;obtain⟨P0,P1,P2,P3,P4,P5⟩:=S.P.f3;obtain⟨Q0,Q1,Q2,Q3,Q4,Q5⟩:=S.Q.f3;obtain⟨N0,N1,N2,N3,N4,N5⟩:=S.N.f3;clear hb tok2)|(go_at_call 141;refine(SlEqual_m X1 Z0 x1 z0 an bo a.n b.o HAN.out HBO.out _ HR3.out _ (r1.below S.B) (s0.below S.B) l1 l3).mono ?_;rintro e W3 ⟨rfl,hb⟩;replace S:=S.below hb;clear P0 P1 P2 P3 P4 P5 Q0 Q1 Q2 Q3 Q4 Q5 N0 N1 N2 N3 N4 N5;obtain⟨P0,P1,P2,P3,P4,P5⟩:=S.P.f3;obtain⟨Q0,Q1,Q2,Q3,Q4,Q5⟩:=S.Q.f3;obtain⟨N0,N1,N2,N3,N4,N5⟩:=S.N.f3;clear hb))
 have hzS:=S.N.lt
 have r0':=r0.below S.B
 have s1':=s1.below S.B
 go_cut [6] (fun s6 wx=>∃p B d B2 d2,s6=.pointer (some ⟨p,0,none⟩)∧OBox wx p [.slice B ao d,.slice B2 bn d2,.slice none 0 0] 96∧ao≤d∧bn≤d2∧RdP (fun g=>g≠p∧w.heap.size+2<g) wx B (cellsF a.o)∧RdP (fun g=>g≠p∧w.heap.size+2<g) wx B2 (cellsF b.n)∧Below W3.heap.size W3 wx∧W3.heap.size≤p)
 case first=>
  go_region_held3 (fun W=>W.cell? ⟨w.heap.size,0,none⟩=some (.slice X0 ao x0)∧W.cell? ⟨w.heap.size+1,1,none⟩=some (.slice Z1 bn z1)∧Below W3.heap.size W3 W) ((refine S.two ?_;repeat (first|assumption|exact Jy _ _|refine J8 ?_ (by dsimp only;first|exact J9 _|omega) _|refine Jk ?_ (by first|exact J9 _|omega) _|apply Jv)))
   (first
     |(go_at_call 35;obtain⟨_,_,HBx⟩:=‹_∧_∧Below W3.heap.size W3 _›;(with_reducible refine(CloneF_m X0 x0 ao a.o HAO.out _ (r0'.below HBx) hao4 hcap).mono ?_);rintro e Wa ⟨B,d,rfl,hd,own,hb1⟩;have q1:=own_PL own;have HBa:=below_seq HBx hb1;have hza:=HBa.size;have hza':=hb1.size;(first|(have PB:=OBox.below PB hb1)|(have PB:=OBox.below (OBox.new _ [.slice none 0 0,.slice none 0 0,.slice none 0 0] 96) hb1)|(have PB:=OBox.newB (cs:=[.slice none 0 0,.slice none 0 0,.slice none 0 0]) hb1)|skip);(first|(obtain⟨p0,p1,p2,p3,p4,p5⟩:=PB.f3)|skip))
     |(go_at_call 35;obtain⟨_,_,HBx⟩:=‹_∧_∧Below W3.heap.size W3 _›;(with_reducible refine(CloneF_m Z1 z1 bn b.n HBN.out _ (s1'.below HBx) hbn4 hcap1).mono ?_);rintro e Wb ⟨B2,d2,rfl,hd2,own,hb2⟩;have q2:=own_PL own;have HBb:=below_seq HBx hb2;have hzb:=HBb.size;have hzb':=hb2.size;(first|(have PB:=OBox.below PB hb2)|(have PB:=OBox.below (OBox.new _ [.slice none 0 0,.slice none 0 0,.slice none 0 0] 96) hb2)|(have PB:=OBox.newB (cs:=[.slice none 0 0,.slice none 0 0,.slice none 0 0]) hb2)|skip);(first|(obtain⟨p0,p1,p2,p3,p4,p5⟩:=PB.f3)|skip)))
  all_goals (go_wp2_with fail;go_meet;refine⟨_,B,d,B2,d2,rfl,?_,hd,hd2,?_,?_,?_,?_⟩)
  all_goals first|(have T1:=RdP.up q1 hb2)|(have T1:=RdP.up (RdP.up q1 (below_new (.cells #[.slice none 0 0,.slice none 0 0,.slice none 0 0] 96))) hb2)
  all_goals first
   |(show OBox _ _ _ _;first
      |(have:=obox_set (obox_set (obox_set PB 0 (.slice B ao d)) 1 (.slice B2 bn d2)) 2 (.slice none 0 0);exact this)
      |(exact OBox.new _ _ _))
   |exact(T1.set3 _ (fun g hg=>by simp at hg ⊢;omega) 0 1 2 _ _ _).mono (fun g hg=>by simp at hg ⊢;omega)
   |exact(q2.set3 _ (fun g hg=>by simp at hg ⊢;omega) 0 1 2 _ _ _).mono (fun g hg=>by simp at hg ⊢;omega)
   |exact(q2.set3 _ (fun g hg=>by simp at hg hza' ⊢;omega) 0 1 2 _ _ _).mono (fun g hg=>by simp at hg hza' ⊢;omega)
   |exact(RdP.up T1 (below_new _)).mono (fun g hg=>by simp at hg ⊢;omega)
   |exact(RdP.up q2 (below_new _)).mono (fun g hg=>by simp at hg ⊢;omega)
   |exact J9 _
   |(dsimp only;first|exact J9 _|(simp;done)|omega)
   |(repeat (first|assumption|exact Jy _ _|refine J8 ?_ (by dsimp only;first|exact J9 _|omega) _|refine Jk ?_ (by first|exact J9 _|omega) _|apply Jv))
   |skip
 case rest=>
  obtain⟨p,B,d,B2,d2,rfl,PB,hd,hd2,R1,R2,hbc,hp⟩:=hcut
  replace S:=S.below hbc
  clear r0' s1' hbc P0 P1 P2 P3 P4 P5 Q0 Q1 Q2 Q3 Q4 Q5 N0 N1 N2 N3 N4 N5
  have hp2:w.heap.size+2<p:=by omega
  clear hp hzS
  clear W1 W2 W3
  rename World=>Wc
  have hpz:=PB.lt
  replace R1:=R1.lt
  replace R2:=R2.lt
  obtain⟨Q0,Q1,Q2,Q3,Q4,Q5⟩:=S.Q.f3
  have HP2:=J0 hp2
  have HPZ:=J0 hpz
  clear hp2 hpz
  have PB0:=PB
  have S0:=S
  have R10:=R1
  have R20:=R2
  clear PB S R1 R2
  go_wp2
  go_loopw [7,8,9,37] (fun _ _ _ i wr=>∃(k:Nat) (v:Value),k≤bm∧i=.int .i64 k∧wr.ownsRow Wc.heap.size 137 4 v k (cellsM (compM a b k))∧OBox wr p [.slice B ao d,.slice B2 bn d2,v] 96∧Wc.heap.size≤wr.heap.size∧CoS w wr 96 [.slice X0 ao x0,.slice X1 an x1,.slice X2 am x2] [.slice Z0 bo z0,.slice Z1 bn z1,.slice Z2 bm z2] [.slice none 0 0,.slice none 0 0,.slice none 0 0]∧RdP (fun g=>(g≠p∧w.heap.size+2<g)∧g<Wc.heap.size) wr B (cellsF a.o)∧RdP (fun g=>(g≠p∧w.heap.size+2<g)∧g<Wc.heap.size) wr B2 (cellsF b.n)) (fun _ _ _ i _=>bm - (intOf i).toNat)
  case atStart=>exact⟨0,_,by omega,rfl,own_nil _ _ _ _,PB0,J9 _,S0,R10,R20⟩
  case round=>
   obtain⟨k,v,hk,rfl,hown,PB,hwcr,S,R1,R2⟩:=hrel
   clear S0 PB0 R10 R20 Q0 Q1 Q2 Q3 Q4 Q5
   by_cases hlt:k<bm
   ·obtain⟨x,hx⟩:∃x,b.m[k]?=some x:=⟨_,J4 (by rw[HBM.out];exact hlt)⟩
    obtain⟨g,hg⟩:∃y,b.n[k]?=some y:=⟨_,J4 (by rw[HBN.out,←HMN.out];exact hlt)⟩
    obtain⟨y,hy⟩:∃y,compMv a b k=y:=⟨_,rfl⟩
    have hw:=HAT.out k x g hx hg
    have HK:=J0 (comp_cells a b hy)
    rw[hy] at hw
    have HWY:=J0 hw
    have HX:=J0 hx
    have HG:=J0 hg
    have hi0:(0:Int)≤(k:Int):=by omega
    have hi1:(k:Int)<(bm:Int):=by omega
    have hi2:(k:Int)<(bn:Int):=by have:=HMN.out;omega
    have RM:=s2.below S.B
    obtain⟨ad,ea,c0,c1,c2,c3⟩:=RM.mv hx
    subst ea
    clear RM hw hx hg hy
    obtain⟨Q0,Q1,Q2,Q3,Q4,Q5⟩:=S.Q.f3
    go_upto_if 47 with fail
    have MB:=OBox.new wr [.int .i64 x.f,.int .i64 x.d.k,.int .u64 x.d.b,.string x.d.t] 137
    have nb:=below_new (w:=wr) (.cells #[.int .i64 x.f,.int .i64 x.d.k,.int .u64 x.d.b,.string x.d.t] 137)
    have hsz:wr.heap.size<(wr.alloc (.cells #[.int .i64 x.f,.int .i64 x.d.k,.int .u64 x.d.b,.string x.d.t] 137)).heap.size:=by simp
    generalize wr.alloc (.cells #[.int .i64 x.f,.int .i64 x.d.k,.int .u64 x.d.b,.string x.d.t] 137)=W4 at *
    clear c0 c1 c2 c3 Q0 Q1 Q2 Q3 Q4 Q5
    have S4:=S.below nb
    obtain⟨m0,m1,m2,m3,z0',z1',z2',z3'⟩:=MBox4 MB
    go_cut [9] (fun _ wx=>MBox wx wr.heap.size y∧Below wr.heap.size wr wx∧wr.heap.size<wx.heap.size)
    case first=>
     rcases HWY.out with ⟨hxf,e,_⟩|⟨hxf,n,f,hn,hf1,hf2,h3⟩
     ·have e1:decide ((0:Int)≤x.f)=false:=by simp;omega
      go_wp2_with fail
      go_meet
      exact⟨by rw[e];exact MBox.of MB,nb,hsz⟩
     ·have e1:decide ((0:Int)≤x.f)=true:=by simpa using hxf
      have hxl:x.f<(bo:Int):=by have:=(J6.1 hf2).1;have:=HBO.out;omega
      have hxm:x.f<(am:Int):=by have:=(J6.1 hn).1;have:=HAM.out;omega
      obtain⟨od,eo,f0,f1,f2⟩:=(s0.below S4.B).fld hf2
      subst eo
      obtain⟨Q0,Q1,Q2,Q3,Q4,Q5⟩:=S4.Q.f3
      obtain⟨b0,b1⟩:=WA.out n (J7 hn)
      have HN:=J0 hn
      clear hn hf1 hf2
      have nb5:=below_new (w:=W4) (.cells #[.string f.s,.int .i64 f.k,.int .i64 f.l] 68)
      have FB:=OBox.new W4 [.string f.s,.int .i64 f.k,.int .i64 f.l] 68
      go_upto_region 10 with fail
      generalize W4.alloc (.cells #[.string f.s,.int .i64 f.k,.int .i64 f.l] 68)=W5 at *
      clear f0 f1 f2 m0 m1 m2 m3 z0' z1' z2' z3' Q0 Q1 Q2 Q3 Q4 Q5
      have S5:=S4.below nb5
      have M5:=MB.below nb5
      obtain⟨m0,m1,m2,m3,z0',z1',z2',z3'⟩:=MBox4 M5
      obtain⟨nd,en,n0,n1,n2,n3⟩:=(r2.below S5.B).mv HN.out
      subst en
      obtain⟨P0,P1,P2,P3,P4,P5⟩:=S5.P.f3
      have q0:=S.N.lt
      have qf:=FB.lt
      have M6:OBox _ wr.heap.size [.int .i64 n.f,.int .i64 n.d.k,.int .u64 n.d.b,.string n.d.t] 137:=obox_set (obox_set (obox_set (obox_set M5 0 (.int .i64 n.f)) 1 (.int .i64 n.d.k)) 2 (.int .u64 n.d.b)) 3 (.string n.d.t)
      have hb6:=((((below_seq nb nb5).setCell (p:=⟨wr.heap.size,0,none⟩) (J9 _) (.int .i64 n.f)).setCell (p:=⟨wr.heap.size,1,none⟩) (J9 _) (.int .i64 n.d.k)).setCell (p:=⟨wr.heap.size,2,none⟩) (J9 _) (.int .u64 n.d.b)).setCell (p:=⟨wr.heap.size,3,none⟩) (J9 _) (.string n.d.t)
      have F6:=OBox.far (OBox.far (OBox.far (OBox.far FB (p:=⟨wr.heap.size,0,none⟩) (by show wr.heap.size≠_;omega) (.int .i64 n.f)) (p:=⟨wr.heap.size,1,none⟩) (by show wr.heap.size≠_;omega) (.int .i64 n.d.k)) (p:=⟨wr.heap.size,2,none⟩) (by show wr.heap.size≠_;omega) (.int .u64 n.d.b)) (p:=⟨wr.heap.size,3,none⟩) (by show wr.heap.size≠_;omega) (.string n.d.t)
      go_upto_region 11 with fail
      generalize (((W5.setCell ⟨wr.heap.size,0,none⟩ (.int .i64 n.f)).setCell ⟨wr.heap.size,1,none⟩ (.int .i64 n.d.k)).setCell ⟨wr.heap.size,2,none⟩ (.int .u64 n.d.b)).setCell ⟨wr.heap.size,3,none⟩ (.string n.d.t)=W6 at *
      clear n0 n1 n2 n3 m0 m1 m2 m3 z0' z1' z2' z3' P0 P1 P2 P3 P4 P5 M5 S5 nb5
      obtain⟨m0,m1,m2,m3,z0',z1',z2',z3'⟩:=MBox4 M6
      obtain⟨f0,f1,f2⟩:=FBox3 F6
      have S6:=S.below hb6
      rcases h3 with ⟨hnf,e,_⟩|⟨hnf,e,_⟩
      ·have e2:decide (n.f<(0:Int))=true:=by simpa using hnf
       obtain⟨gd,eg,g0,g1,g2⟩:=(s1.below S6.B).fld HG.out
       subst eg
       obtain⟨Q0,Q1,Q2,Q3,Q4,Q5⟩:=S6.Q.f3
       obtain⟨c,hc⟩:∃c,castL n.d f g=c:=⟨_,rfl⟩
       have hv:=castL_va n.d f g
       rw[hc] at e hv
       have HV:=J0 hv
       have hz6:=M6.lt
       clear hv hc
       go_upto_region 12 with fail
       go_region_with (go_at_call 74;refine(Cast_is n.d.k n.d.b n.d.t f.s g.s f.k f.l g.k g.l b0 b1 _ _ HV.out rfl _).mono ?_;rintro e' W7 ⟨rfl,hb⟩;have M7:=OBox.below M6 (Below.undrewS hb);have hb7:=below_seq hb6 (Below.undrewS hb);obtain⟨m4,m5,m6,m7,z4',z5',z6',z7'⟩:=MBox4 M7)
       all_goals
        have M8:OBox _ wr.heap.size [.int .i64 n.f,.int .i64 c.k,.int .u64 c.b,.string c.t] 137:=obox_set (obox_set (obox_set M7 1 (.int .i64 c.k)) 2 (.int .u64 c.b)) 3 (.string c.t)
        have hb8:=((hb7.setCell (p:=⟨wr.heap.size,1,none⟩) (J9 _) (.int .i64 c.k)).setCell (p:=⟨wr.heap.size,2,none⟩) (J9 _) (.int .u64 c.b)).setCell (p:=⟨wr.heap.size,3,none⟩) (J9 _) (.string c.t)
        go_wp2_with fail
        go_meet
        exact⟨by rw[e];exact MBox.of (m:=⟨n.f,c⟩) M8,hb8,M8.lt⟩
      ·have e2:decide (n.f<(0:Int))=false:=by simp;omega
       go_wp2_with fail
       go_meet
       exact⟨by rw[e];exact MBox.of M6,hb6,M6.lt⟩
    case rest=>
     obtain⟨MY,hb9,hz9⟩:=hcut
     clear m0 m1 m2 m3 z0' z1' z2' z3' MB nb hsz S4
     rename World=>W9
     have hown9:=own_below hown hb9
     have P9:=PB.below hb9
     have hpz:=HPZ.out
     have hp2:=HP2.out
     have hz29:=hb9.size
     obtain⟨m0,m1,m2,m3⟩:=MY
     obtain⟨k0,k1,k2,f0,f1,f2⟩:=P9.f3
     go_wp2_with (at_builtin;refine wpList_append_own _ rfl _ _ 94 rfl Wc.heap.size 137 i0 (.agg #[.int .i64 0,.int .i64 0,.int .u64 0,.string ⟨#[]⟩]) 4 40 Tryz.underlying94 hi hz0 hz1 hz2 rfl (by decide) _ _ _ rfl (hown9.alloc _) ⟨W9.heap.size,0,none⟩ 1 1 [.int .i64 y.f,.int .i64 y.d.k,.int .u64 y.d.b,.string y.d.t] rfl rfl ?c1 ?c2 ?c3 ?c4 ?c5 ?_)
     case c1=>exact news4 _ _ _ _ _ _
     case c2=>intro u hu;simp at hu;rcases hu with rfl|rfl|rfl|rfl <;> rfl
     case c3=>simp only[maxLen];omega
     case c4=>omega
     case c5=>simp <;> omega
     intro v' w3 hown' hgrow _
     have BG:Below Wc.heap.size W9 w3:=((Jy _ _).alloc (by omega) (.cells #[.int .i64 y.f,.int .i64 y.d.k,.int .u64 y.d.b,.string y.d.t] 137)).grown hgrow (by simp <;> omega) (fun q hq=>own_base hown9 q hq)
     have BG2:Below Wc.heap.size wr w3:=(hb9.mono hwcr).trans BG
     have O3:OBox w3 p [.slice B ao d,.slice B2 bn d2,v] 96:=(BG2.block _ hpz).trans PB
     have hown3:w3.ownsRow Wc.heap.size 137 4 v' (k+1) (cellsM (compM a b (k+1))):=own_eq hown' (by simp) (by rw[HK.out])
     have hz3:=BG.size
     obtain⟨B',c',rfl,_,_,_⟩:=own_rd hown3
     clear hown' hgrow hown k0 k1 k2 f0 f1 f2 m0 m1 m2 m3
     obtain⟨k0,k1,k2,f0,f1,f2⟩:=O3.f3
     go_wp2
     go_roundw
     case rel=>exact⟨k+1,_,by omega,by go_num,ownsRow_setCell_below hown3 (by show p<_;omega) _,obox_set O3 2 _,by show _≤(World.setCell _ _ _).heap.size;simp;omega,S.step (by omega) BG2 hp2 2 _,R1.keep (fun g hg=>(J5 _ _ _ _ (by exact hg.1.1)).trans (BG2.block g hg.2)),R2.keep (fun g hg=>(J5 _ _ _ _ (by exact hg.1.1)).trans (BG2.block g hg.2))⟩
     case measure=>simp[intOf];omega
   ·obtain rfl:k=bm:=by omega
    have hpz:=HPZ.out
    have hp2:=HP2.out
    obtain⟨C,cc,rfl,_,_,_⟩:=own_rd hown
    have RC:=own_P (P:=fun g=>w.heap.size+2<g) hown (fun g hg=>by have:=own_base hown g hg;omega)
    have hc1:(compT a b).o.length=ao:=HAO.out
    have hc2:(compT a b).n.length=bn:=HBN.out
    have hc3:(compT a b).m.length=k:=by show(compM a b b.m.length).length=k;rw[compM_length];exact HBM.out
    have hmw:MvW (compT a b).m:=compM_w WA.out WB.out _
    have hR1:Rd wr B (cellsF (compT a b).o):=R1.rd
    have hR2:Rd wr B2 (cellsF (compT a b).n):=R2.rd
    have hR3:Rd wr C (cellsM (compT a b).m):=by show Rd wr C (cellsM (compM a b b.m.length));rw[HBM.out];exact RC.rd
    have C1:=J0 hc1;have C2:=J0 hc2;have C3:=J0 hc3;have CW:=J0 hmw
    clear hc1 hc2 hc3 hmw hown
    obtain⟨k0,k1,k2,f0,f1,f2⟩:=PB.f3
    obtain⟨Q0,Q1,Q2,Q3,Q4,Q5⟩:=S.Q.f3
    cases r
    ·go_wp2_with (go_at_call 72;refine(TRight_m (compT a b) B B2 C d d2 cc ao bn k C1.out C2.out C3.out (by omega) (by omega) (by omega) CW.out _ hR1 hR2 hR3).mono ?_;rintro e W8 ⟨rfl,hb⟩;rw[HRR.out];replace S:=S.below hb;replace PB:=PB.below hb;replace R1:=R1.up hb;replace R2:=R2.up hb;replace RC:=RC.up hb;clear hb hR1 hR2 hR3 k0 k1 k2 f0 f1 f2 Q0 Q1 Q2 Q3 Q4 Q5;obtain⟨k0,k1,k2,f0,f1,f2⟩:=PB.f3;obtain⟨N0,N1,N2,N3,N4,N5⟩:=S.N.f3)
     refine bodyPost_ret (v:=.tuple #[.agg #[.slice none 0 0,.slice none 0 0,.slice none 0 0],.int .i64 70]) (by simp[results,Tryz.results98,go_sem, *];done) rfl ⟨none,0,none,0,none,0,rfl,J9 _,J9 _,fun h=>absurd rfl h,fun h=>absurd rfl h,fun h=>absurd rfl h,?_⟩
     have HB:=S.B
     (repeat (first|exact HB|refine J8 ?_ (by dsimp only;omega) _|refine Jk ?_ (by have hs_:=HB.size;first|(simp;done)|(simp;omega)|omega) _|apply Jv))
    ·go_wp2_with (go_at_call 72;refine(TRight_m (compT a b) B B2 C d d2 cc ao bn k C1.out C2.out C3.out (by omega) (by omega) (by omega) CW.out _ hR1 hR2 hR3).mono ?_;rintro e W8 ⟨rfl,hb⟩;rw[HRR.out];replace S:=S.below hb;replace PB:=PB.below hb;replace R1:=R1.up hb;replace R2:=R2.up hb;replace RC:=RC.up hb;clear hb hR1 hR2 hR3 k0 k1 k2 f0 f1 f2 Q0 Q1 Q2 Q3 Q4 Q5;obtain⟨k0,k1,k2,f0,f1,f2⟩:=PB.f3;obtain⟨N0,N1,N2,N3,N4,N5⟩:=S.N.f3)
     refine bodyPost_ret (v:=.tuple #[.agg #[.slice B ao d,.slice B2 bn d2,.slice C k cc],.int .i64 0]) (by simp[results,Tryz.results98,go_sem, *];done) rfl ?_
     show CoL (compT a b) 0 w _ _
     have hc1:=C1.out
     have hc2:=C2.out
     have hc3:=C3.out
     refine⟨B,d,B2,d2,C,cc,by rw[hc1,hc2,hc3],by rw[hc1];exact hd,by rw[hc2];exact hd2,?_,?_,?_,?_⟩
     ·exact(R1.set3 _ (fun g hg=>by have h:=hg.1.2;show g≠w.heap.size+2;omega) 0 1 2 _ _ _).mono (fun g hg=>by have h:=hg.1.2;show w.heap.size≤g;omega)
     ·exact(R2.set3 _ (fun g hg=>by have h:=hg.1.2;show g≠w.heap.size+2;omega) 0 1 2 _ _ _).mono (fun g hg=>by have h:=hg.1.2;show w.heap.size≤g;omega)
     ·have:=(RC.set3 _ (fun g hg=>by have h:=hg;show g≠w.heap.size+2;omega) 0 1 2 (.slice B ao d) (.slice B2 bn d2) (.slice C k cc)).mono (Q:=fun g=>w.heap.size≤g) (fun g hg=>by have h:w.heap.size+2<g:=hg;show w.heap.size≤g;omega)
      show RdP _ _ C (cellsM (compM a b b.m.length))
      rw[HBM.out]
      exact this
     ·have HB:=S.B
      (repeat (first|exact HB|refine J8 ?_ (by dsimp only;omega) _|refine Jk ?_ (by have hs_:=HB.size;first|(simp;done)|(simp;omega)|omega) _|apply Jv))
theorem ComposeL_m (a b:Tb) (X0 X1 X2 Z0 Z1 Z2:Option Addr) (x0 x1 x2 z0 z1 z2 ao an am bo bn bm:Nat) (hao:a.o.length=ao) (han:a.n.length=an) (ham:a.m.length=am) (hbo:b.o.length=bo) (hbn:b.n.length=bn) (hbm:b.m.length=bm) (l0:ao≤9223372036854775807) (l1:an≤9223372036854775807) (l2:am≤9223372036854775807) (l3:bo≤9223372036854775807) (l4:bn≤9223372036854775807) (l5:bm≤9223372036854775807) (wa:MvW a.m) (wb:MvW b.m) (w:World) (r0:Rd w X0 (cellsF a.o)) (r1:Rd w X1 (cellsF a.n)) (r2:Rd w X2 (cellsM a.m)) (s0:Rd w Z0 (cellsF b.o)) (s1:Rd w Z1 (cellsF b.n)) (s2:Rd w Z2 (cellsM b.m)) (hcap:ao≤x0) (hcap1:bn≤z1):
 Calls Tryz.prog 98 #[.agg #[.slice X0 ao x0,.slice X1 an x1,.slice X2 am x2],.agg #[.slice Z0 bo z0,.slice Z1 bn z1,.slice Z2 bm z2]] w fun e w'=>CoL (composeT a b) (composeE a b) w e w':=by
 cases hm:meetB a b
 ·obtain⟨e1,e2⟩:=meet_no hm
  rw[e1,e2]
  exact ComposeL_no a b X0 X1 X2 Z0 Z1 Z2 x0 x1 x2 z0 z1 z2 ao an am bo bn bm hao han ham hbo hbn hbm l0 l1 l2 l3 l4 l5 wa wb w r0 r1 r2 s0 s1 s2 hm
 ·have h:=ComposeL_yes a b X0 X1 X2 Z0 Z1 Z2 x0 x1 x2 z0 z1 z2 ao an am bo bn bm hao han ham hbo hbn hbm l0 l1 l2 l3 l4 l5 wa wb w r0 r1 r2 s0 s1 s2 hcap hcap1 hm _ rfl
  cases hr:rightT (compT a b)
  ·rw[hr] at h
   have e1:composeE a b=70:=by rw[composeE,if_neg (by rw[hr];rintro ⟨_,h⟩;cases h)]
   rw[composeT,e1,if_neg (by decide)]
   exact h
  ·rw[hr] at h
   have e1:composeE a b=0:=by rw[composeE,if_pos ⟨hm,hr⟩]
   rw[composeT,e1,if_pos rfl]
   exact h
end
end Go.Proofs.YteembinfgbapgaaGreat
