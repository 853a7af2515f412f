/- Merged out of: Qh Qi Ol Qj Qs Ta Tj Td Te. -/
import Derived.Test.YteembinfgbapgaaGreatE00
import Derived.Test.YteembinfgbapgaaGreatE08
import Derived.Deep.RegionHeld3
set_option linter.unusedSimpArgs false
set_option linter.unusedVariables false
set_option maxRecDepth 100000
set_option maxHeartbeats 8000000
namespace Go.Proofs.YteembinfgbapgaaGreat
section
open Go.RowKit Go.Lib
def CO (t:Tb) (code:Int) (w:EQ) (e:Ending) (w':EQ):Prop:=
 ∃X0 z0 X1 z1 X2 z2,e=.returned (.tuple #[.agg #[.slice X0 t.o.length z0,.slice X1 t.n.length z1,.slice X2 t.m.length z2],.int .i64 code])/\Rd w' X0 (aC t.o)/\Rd w' X1 (aC t.n)/\Rd w' X2 (aJ t.m)/\Below w.heap.size w w'
theorem Av (vk bits:Int) (tx s s2:EP) (k l k2 l2:Int) (h0:0<=bits) (h1:bits<18446744073709551616) (v:ER) (q:Int) (hv:gp vk bits tx k l k2 l2=v) (hq:jj vk bits tx k l k2 l2=q) (w:EQ):
 Calls Tryz.prog 80 #[.agg #[.int .i64 vk,.int .u64 bits,.string tx],.agg #[.string s,.int .i64 k,.int .i64 l],.agg #[.string s2,.int .i64 k2,.int .i64 l2]] w fun e w'=>e=.returned (.tuple #[v,.int .i64 q])/\Below w.heap.size w w':=by
 subst hv hq;exact tj vk bits tx s s2 k l k2 l2 h0 h1 w
theorem tm (a b:Tb) (X0 X1 X2 Z0 Z1 Z2:EL) (x0 x1 x2 z0 z1 z2 ao an am bo bn bm:Nat) (hao:a.o.length=ao) (han:a.n.length=an) (ham:a.m.length=am) (hbo:b.o.length=bo) (hbn:b.n.length=bn) (hbm:b.m.length=bm) (l0:ao<=9223372036854775807) (l1:an<=9223372036854775807) (l2:am<=9223372036854775807) (l3:bo<=9223372036854775807) (l4:bn<=9223372036854775807) (l5:bm<=9223372036854775807) (wa:iG a.m) (wb:iG b.m) (sa:gL a.o) (sb:gL a.n) (sc:gL b.o) (sd:gL b.n) (w:EQ) (r0:Rd w X0 (aC a.o)) (r1:Rd w X1 (aC a.n)) (r2:Rd w X2 (aJ a.m)) (s0:Rd w Z0 (aC b.o)) (s1:Rd w Z1 (aC b.n)) (s2:Rd w Z2 (aJ b.m)) (hmeet:gV a b=false):
 Calls Tryz.prog 155 #[.agg #[.slice X0 ao x0,.slice X1 an x1,.slice X2 am x2],.agg #[.slice Z0 bo z0,.slice Z1 bn z1,.slice Z2 bm z2]] w fun e w'=>CO Tb.z 70 w e w':=by
 obtain⟨q1,hq1⟩:∃r,ar a=r:=⟨_,rfl⟩
 obtain⟨q2,hq2⟩:∃r,ar b=r:=⟨_,rfl⟩
 obtain⟨q3,hq3⟩:∃r,bh a.n b.o=r:=⟨_,rfl⟩
 rw[gV,hq1,hq2,hq3] at hmeet
 have S:pS w _ 110 [.slice X0 ao x0,.slice X1 an x1,.slice X2 am x2] [.slice Z0 bo z0,.slice Z1 bn z1,.slice Z2 bm z2] [.slice none 0 0,.slice none 0 0,.slice none 0 0]:=pS.new w _ _ _ _
 obtain⟨P0,P1,P2,P3,P4,P5⟩:=S.P.f3
 obtain⟨Q0,Q1,Q2,Q3,Q4,Q5⟩:=S.Q.f3
 obtain⟨N0,N1,N2,N3,N4,N5⟩:=S.N.f3
 have HAO:=J0 hao;have HAN:=J0 han;have HAM:=J0 ham
 have HBO:=J0 hbo;have HBN:=J0 hbn;have HBM:=J0 hbm
 have HR1:=J0 hq1;have HR2:=J0 hq2;have HR3:=J0 hq3
 have WA:=J0 wa;have WB:=J0 wb;have SA:=J0 sa;have SB:=J0 sb;have SC:=J0 sc;have SD:=J0 sd
 have tok1:=Yz
 clear hao han ham hbo hbn hbm hq1 hq2 hq3 wa wb sa sb sc sd
 cases q1
 ·clear hmeet
  go_enter Tryz.func155,Tryz.ntmps155
  go_wp2_with (first|(have _t:=tok1;go_at_call 79;refine(eU a X0 X1 X2 x0 x1 x2 ao an am HAO.out HAN.out HAM.out l0 l1 l2 WA.out SA.out SB.out _ (r0.below S.B) (r1.below S.B) (r2.below S.B)).mono ?_;rintro e W1 ⟨rfl,hb⟩;rw[HR1.out];replace S:=S.below hb;clear P0 P1 P2 P3 P4 P5 Q0 Q1 Q2 Q3 Q4 Q5 N0 N1 N2 N3 N4 N5;obtain⟨P0,P1,P2,P3,P4,P5⟩:=S.P.f3;obtain⟨Q0,Q1,Q2,Q3,Q4,Q5⟩:=S.Q.f3;obtain⟨N0,N1,N2,N3,N4,N5⟩:=S.N.f3;clear hb tok1;have tok2:=Yz))
  refine Xx (v:=.tuple #[.agg #[.slice none 0 0,.slice none 0 0,.slice none 0 0],.int .i64 70]) (by simp[results,Tryz.results155,go_sem, *];done) rfl ⟨none,0,none,0,none,0,rfl,fun h=>absurd rfl h,fun h=>absurd rfl h,fun h=>absurd rfl h,?_⟩
  have HB:=S.B
  (repeat (first|exact HB|refine J8 ?_ (by dsimp only;omega) _|refine Jk ?_ (by have:=HB.size;(try simp) <;> omega) _|apply Jv))
 cases q2
 ·clear hmeet
  go_enter Tryz.func155,Tryz.ntmps155
  go_wp2_with (first|(have _t:=tok1;go_at_call 79;refine(eU a X0 X1 X2 x0 x1 x2 ao an am HAO.out HAN.out HAM.out l0 l1 l2 WA.out SA.out SB.out _ (r0.below S.B) (r1.below S.B) (r2.below S.B)).mono ?_;rintro e W1 ⟨rfl,hb⟩;rw[HR1.out];replace S:=S.below hb;clear P0 P1 P2 P3 P4 P5 Q0 Q1 Q2 Q3 Q4 Q5 N0 N1 N2 N3 N4 N5;obtain⟨P0,P1,P2,P3,P4,P5⟩:=S.P.f3;obtain⟨Q0,Q1,Q2,Q3,Q4,Q5⟩:=S.Q.f3;obtain⟨N0,N1,N2,N3,N4,N5⟩:=S.N.f3;clear hb tok1;have tok2:=Yz)|(have _t:=tok2;go_at_call 79;refine(eU b Z0 Z1 Z2 z0 z1 z2 bo bn bm HBO.out HBN.out HBM.out l3 l4 l5 WB.out SC.out SD.out _ (s0.below S.B) (s1.below S.B) (s2.below S.B)).mono ?_;rintro e W2 ⟨rfl,hb⟩;rw[HR2.out];replace S:=S.below hb;clear P0 P1 P2 P3 P4 P5 Q0 Q1 Q2 Q3 Q4 Q5 N0 N1 N2 N3 N4 N5;obtain⟨P0,P1,P2,P3,P4,P5⟩:=S.P.f3;obtain⟨Q0,Q1,Q2,Q3,Q4,Q5⟩:=S.Q.f3;obtain⟨N0,N1,N2,N3,N4,N5⟩:=S.N.f3;clear hb tok2))
  refine Xx (v:=.tuple #[.agg #[.slice none 0 0,.slice none 0 0,.slice none 0 0],.int .i64 70]) (by simp[results,Tryz.results155,go_sem, *];done) rfl ⟨none,0,none,0,none,0,rfl,fun h=>absurd rfl h,fun h=>absurd rfl h,fun h=>absurd rfl h,?_⟩
  have HB:=S.B
  (repeat (first|exact HB|refine J8 ?_ (by dsimp only;omega) _|refine Jk ?_ (by have:=HB.size;(try simp) <;> omega) _|apply Jv))
 obtain rfl:q3=false:=by simpa using hmeet
 clear hmeet
 go_enter Tryz.func155,Tryz.ntmps155
 go_wp2_with (first|(have _t:=tok1;go_at_call 79;refine(eU a X0 X1 X2 x0 x1 x2 ao an am HAO.out HAN.out HAM.out l0 l1 l2 WA.out SA.out SB.out _ (r0.below S.B) (r1.below S.B) (r2.below S.B)).mono ?_;rintro e W1 ⟨rfl,hb⟩;rw[HR1.out];replace S:=S.below hb;clear P0 P1 P2 P3 P4 P5 Q0 Q1 Q2 Q3 Q4 Q5 N0 N1 N2 N3 N4 N5;obtain⟨P0,P1,P2,P3,P4,P5⟩:=S.P.f3;obtain⟨Q0,Q1,Q2,Q3,Q4,Q5⟩:=S.Q.f3;obtain⟨N0,N1,N2,N3,N4,N5⟩:=S.N.f3;clear hb tok1;have tok2:=Yz)|(have _t:=tok2;go_at_call 79;refine(eU b Z0 Z1 Z2 z0 z1 z2 bo bn bm HBO.out HBN.out HBM.out l3 l4 l5 WB.out SC.out SD.out _ (s0.below S.B) (s1.below S.B) (s2.below S.B)).mono ?_;rintro e W2 ⟨rfl,hb⟩;rw[HR2.out];replace S:=S.below hb;clear P0 P1 P2 P3 P4 P5 Q0 Q1 Q2 Q3 Q4 Q5 N0 N1 N2 N3 N4 N5;obtain⟨P0,P1,P2,P3,P4,P5⟩:=S.P.f3;obtain⟨Q0,Q1,Q2,Q3,Q4,Q5⟩:=S.Q.f3;obtain⟨N0,N1,N2,N3,N4,N5⟩:=S.N.f3;clear hb tok2)|(go_at_call 22;refine(qW X1 Z0 x1 z0 an bo a.n b.o HAN.out HBO.out _ HR3.out _ (r1.below S.B) (s0.below S.B) l1 l3).mono ?_;rintro e W3 ⟨rfl,hb⟩;replace S:=S.below hb;clear P0 P1 P2 P3 P4 P5 Q0 Q1 Q2 Q3 Q4 Q5 N0 N1 N2 N3 N4 N5;obtain⟨P0,P1,P2,P3,P4,P5⟩:=S.P.f3;obtain⟨Q0,Q1,Q2,Q3,Q4,Q5⟩:=S.Q.f3;obtain⟨N0,N1,N2,N3,N4,N5⟩:=S.N.f3;clear hb))
 refine Xx (v:=.tuple #[.agg #[.slice none 0 0,.slice none 0 0,.slice none 0 0],.int .i64 70]) (by simp[results,Tryz.results155,go_sem, *];done) rfl ⟨none,0,none,0,none,0,rfl,fun h=>absurd rfl h,fun h=>absurd rfl h,fun h=>absurd rfl h,?_⟩
 have HB:=S.B
 (repeat (first|exact HB|refine J8 ?_ (by dsimp only;omega) _|refine Jk ?_ (by have:=HB.size;(try simp) <;> omega) _|apply Jv))
theorem DP {w:EQ} {b:Nat} {c:Vl} {T:ES} (h:aD w b [.int .i64 c.k,.int .u64 c.b,.string c.t] T):w.cell? ⟨b,0,none⟩=some (.int .i64 c.k)/\w.cell? ⟨b,1,none⟩=some (.int .u64 c.b)/\w.cell? ⟨b,2,none⟩=some (.string c.t):=⟨h.cell rfl,h.cell rfl,h.cell rfl⟩
theorem rP (a b:Tb) (X0 X1 X2 Z0 Z1 Z2:EL) (x0 x1 x2 z0 z1 z2 ao an am bo bn bm:Nat) (hao:a.o.length=ao) (han:a.n.length=an) (ham:a.m.length=am) (hbo:b.o.length=bo) (hbn:b.n.length=bn) (hbm:b.m.length=bm) (l0:ao<=9223372036854775807) (l1:an<=9223372036854775807) (l2:am<=9223372036854775807) (l3:bo<=9223372036854775807) (l4:bn<=9223372036854775807) (l5:bm<=9223372036854775807) (wa:iG a.m) (wb:iG b.m) (sa:gL a.o) (sb:gL a.n) (sc:gL b.o) (sd:gL b.n) (w:EQ) (r0:Rd w X0 (aC a.o)) (r1:Rd w X1 (aC a.n)) (r2:Rd w X2 (aJ a.m)) (s0:Rd w Z0 (aC b.o)) (s1:Rd w Z1 (aC b.n)) (s2:Rd w Z2 (aJ b.m)) (hmeet:gV a b=true) (r:Bool) (hr:ar (bS a b)=r):
 Calls Tryz.prog 155 #[.agg #[.slice X0 ao x0,.slice X1 an x1,.slice X2 am x2],.agg #[.slice Z0 bo z0,.slice Z1 bn z1,.slice Z2 bm z2]] w fun e w'=>CO (bif r then bS a b else Tb.z) (bif r then 0 else 70) w e w':=by
 obtain⟨i0,hi,hz0,hz1,hz2⟩:=info_parts iO
 obtain⟨hq1,hq2,hq⟩:=lJ.1 hmeet
 have hq3:bh a.n b.o=true:=by simp[bh,hq]
 obtain⟨_,_,_⟩:=bN hq1
 obtain⟨_,_,_⟩:=bN hq2
 have hmn:bm=bn:=by rw[<-hbm,<-hbn];exact(ae.1 hq2).2.2.1
 have hat:=fun k x g hx hg=>wO (k:=k) (m:=x) (g:=g) wa hq1 hq2 hq hx hg
 have hrr:r=decide (∀k,k<bm->eu (bS a b) k=true):=by rw[<-hr,<-hbm];exact sy hmeet
 have S:pS w _ 110 [.slice X0 ao x0,.slice X1 an x1,.slice X2 am x2] [.slice Z0 bo z0,.slice Z1 bn z1,.slice Z2 bm z2] [.slice none 0 0,.slice none 0 0,.slice none 0 0]:=pS.new w _ _ _ _
 obtain⟨P0,P1,P2,P3,P4,P5⟩:=S.P.f3
 obtain⟨Q0,Q1,Q2,Q3,Q4,Q5⟩:=S.Q.f3
 obtain⟨N0,N1,N2,N3,N4,N5⟩:=S.N.f3
 have HAO:=J0 hao;have HAN:=J0 han;have HAM:=J0 ham
 have HBO:=J0 hbo;have HBN:=J0 hbn;have HBM:=J0 hbm
 have HR1:=J0 hq1;have HR2:=J0 hq2;have HR3:=J0 hq3
 have WA:=J0 wa;have WB:=J0 wb;have HAT:=J0 hat;have HRR:=J0 hrr
 have SA:=J0 sa;have SB:=J0 sb;have SC:=J0 sc;have SD:=J0 sd
 have tok1:=Yz
 have hb16:bm<=16:=by omega
 have HMN:=J0 hmn
 clear hao han ham hbo hbn hbm hq1 hq2 hq3 wa wb hat hq hr hrr hmeet hmn sa sb sc sd
 go_enter Tryz.func155,Tryz.ntmps155
 go_upto_region 3 with (first|(have _t:=tok1;go_at_call 79;refine(eU a X0 X1 X2 x0 x1 x2 ao an am HAO.out HAN.out HAM.out l0 l1 l2 WA.out SA.out SB.out _ (r0.below S.B) (r1.below S.B) (r2.below S.B)).mono ?_;rintro e W1 ⟨rfl,hb⟩;rw[HR1.out];replace S:=S.below hb;clear P0 P1 P2 P3 P4 P5 Q0 Q1 Q2 Q3 Q4 Q5 N0 N1 N2 N3 N4 N5;obtain⟨P0,P1,P2,P3,P4,P5⟩:=S.P.f3;obtain⟨Q0,Q1,Q2,Q3,Q4,Q5⟩:=S.Q.f3;obtain⟨N0,N1,N2,N3,N4,N5⟩:=S.N.f3;clear hb tok1;have tok2:=Yz)|(have _t:=tok2;go_at_call 79;refine(eU b Z0 Z1 Z2 z0 z1 z2 bo bn bm HBO.out HBN.out HBM.out l3 l4 l5 WB.out SC.out SD.out _ (s0.below S.B) (s1.below S.B) (s2.below S.B)).mono ?_;rintro e W2 ⟨rfl,hb⟩;rw[HR2.out];replace S:=S.below hb;clear P0 P1 P2 P3 P4 P5 Q0 Q1 Q2 Q3 Q4 Q5 N0 N1 N2 N3 N4 N5;obtain⟨P0,P1,P2,P3,P4,P5⟩:=S.P.f3;obtain⟨Q0,Q1,Q2,Q3,Q4,Q5⟩:=S.Q.f3;obtain⟨N0,N1,N2,N3,N4,N5⟩:=S.N.f3;clear hb tok2)|(go_at_call 22;refine(qW X1 Z0 x1 z0 an bo a.n b.o HAN.out HBO.out _ HR3.out _ (r1.below S.B) (s0.below S.B) l1 l3).mono ?_;rintro e W3 ⟨rfl,hb⟩;replace S:=S.below hb;clear P0 P1 P2 P3 P4 P5 Q0 Q1 Q2 Q3 Q4 Q5 N0 N1 N2 N3 N4 N5;obtain⟨P0,P1,P2,P3,P4,P5⟩:=S.P.f3;obtain⟨Q0,Q1,Q2,Q3,Q4,Q5⟩:=S.Q.f3;obtain⟨N0,N1,N2,N3,N4,N5⟩:=S.N.f3;clear hb))
 have hzS:=S.N.lt
 have PB0:=aD.new W3 [.slice X0 ao x0,.slice Z1 bn z1,.slice none 0 0] 110
 have nb3:=aA (w:=W3) (.cells #[.slice X0 ao x0,.slice Z1 bn z1,.slice none 0 0] 110)
 go_upto_region 4 with fail
 have hp2:w.heap.size+2<W3.heap.size:=hzS
 have S0:=S.below nb3
 generalize W3.alloc (.cells #[.slice X0 ao x0,.slice Z1 bn z1,.slice none 0 0] 110)=Wc at *
 obtain⟨p,hpp⟩:∃p,W3.heap.size=p:=⟨_,rfl⟩
 have hpz:=PB0.lt
 rw[hpp] at hp2 hpz PB0 |-
 have HP2:=J0 hp2
 have HPZ:=J0 hpz
 clear P0 P1 P2 P3 P4 P5 Q0 Q1 Q2 Q3 Q4 Q5 N0 N1 N2 N3 N4 N5 nb3 hzS hpp hp2 hpz S
 clear W1 W2 W3
 go_wp2
 go_loopw [5,7,8,9,10,11] (fun u i _ _ _ _ wr=>∃(k:Nat) (v:ER),k<=bm/\u=.int .i64 0/\i=.int .i64 k/\wr.ownsRow Wc.heap.size 157 4 v k (aJ (eD a b k))/\aD wr p [.slice X0 ao x0,.slice Z1 bn z1,v] 110/\Wc.heap.size<=wr.heap.size/\pS w wr 110 [.slice X0 ao x0,.slice X1 an x1,.slice X2 am x2] [.slice Z0 bo z0,.slice Z1 bn z1,.slice Z2 bm z2] [.slice none 0 0,.slice none 0 0,.slice none 0 0]/\Hid (∀j,j<k->eu (bS a b) j=true)) (fun _ i _ _ _ _ _=>bm - (intOf i).toNat)
 case atStart=>exact⟨0,_,by omega,rfl,rfl,ai _ _ _ _,PB0,J9 _,S0,J0 (fun j hj=>by omega)⟩
 case round=>
  obtain⟨k,v,hk,rfl,rfl,hown,PB,hwcr,S,hall⟩:=hrel
  clear S0 PB0
  by_cases hlt:k<bm
  ·obtain⟨x,hx⟩:∃x,b.m[k]?=some x:=⟨_,J4 (by rw[HBM.out];exact hlt)⟩
   obtain⟨g,hg⟩:∃y,b.n[k]?=some y:=⟨_,J4 (by rw[HBN.out,<-HMN.out];exact hlt)⟩
   obtain⟨y,hy⟩:∃y,eA a b k=y:=⟨_,rfl⟩
   have hw:=HAT.out k x g hx hg
   have HK:=J0 (nN a b hy)
   rw[hy] at hw
   have hi0:(0:Int)<=(k:Int):=by omega
   have hi1:(k:Int)<(bm:Int):=by omega
   have hi2:(k:Int)<(bn:Int):=by have:=HMN.out;omega
   have RM:=s2.below S.B
   obtain⟨ad,ea,c0,c1,c2,c3⟩:=RM.mv hx
   obtain⟨gd,eg,_,_,_⟩:=s1.fld hg
   subst ea eg
   have HG:=J0 hg
   have HWY:=J0 hw
   clear RM hx hg hy hw
   obtain⟨Q0,Q1,Q2,Q3,Q4,Q5⟩:=S.Q.f3
   go_upto_if 48 with fail
   have MB:=aD.new wr [.int .i64 x.f,.int .i64 x.d.k,.int .u64 x.d.b,.string x.d.t] 157
   have nb:=aA (w:=wr) (.cells #[.int .i64 x.f,.int .i64 x.d.k,.int .u64 x.d.b,.string x.d.t] 157)
   have hsz:wr.heap.size<(wr.alloc (.cells #[.int .i64 x.f,.int .i64 x.d.k,.int .u64 x.d.b,.string x.d.t] 157)).heap.size:=by simp
   generalize wr.alloc (.cells #[.int .i64 x.f,.int .i64 x.d.k,.int .u64 x.d.b,.string x.d.t] 157)=W4 at *
   clear c0 c1 c2 c3 Q0 Q1 Q2 Q3 Q4 Q5
   have S4:=S.below nb
   obtain⟨m0,m1,m2,m3,z0',z1',z2',z3'⟩:=cV MB
   by_cases hok:eu (bS a b) k=true
   ·go_cut [5,9,10,11] (fun u _ _ _ wx=>u=.int .i64 0/\dY wx wr.heap.size y/\Below wr.heap.size wr wx/\wr.heap.size<wx.heap.size)
    case first=>
     rcases HWY.out with ⟨hxf,e,_⟩|⟨hxf,n,f,hn,hf1,hf2,h3⟩
     ·have e1:decide ((0:Int)<=x.f)=false:=by simp;omega
      go_wp2_with fail
      go_meet
      exact⟨rfl,by rw[e];exact dY.of MB,nb,hsz⟩
     ·have HOK:=J0 hok
      clear hok
      have e1:decide ((0:Int)<=x.f)=true:=by simpa using hxf
      have hxl:x.f<(bo:Int):=by have:=(J6.1 hf2).1;have:=HBO.out;omega
      have hxm:x.f<(am:Int):=by have:=(J6.1 hn).1;have:=HAM.out;omega
      obtain⟨od,eo,_,_,_⟩:=s0.fld hf2
      subst eo
      obtain⟨nd,en,n0,n1,n2,n3⟩:=(r2.below S4.B).mv hn
      subst en
      obtain⟨b0,b1⟩:=WA.out n (J7 hn)
      have HF:=J0 hf2
      clear hn hf1 hf2
      obtain⟨P0,P1,P2,P3,P4,P5⟩:=S4.P.f3
      have nb5:=aA (w:=W4) (.cells #[.int .i64 n.f,.int .i64 n.d.k,.int .u64 n.d.b,.string n.d.t] 157)
      have N5:=aD.new W4 [.int .i64 n.f,.int .i64 n.d.k,.int .u64 n.d.b,.string n.d.t] 157
      go_upto_region 10 with fail
      generalize W4.alloc (.cells #[.int .i64 n.f,.int .i64 n.d.k,.int .u64 n.d.b,.string n.d.t] 157)=W5 at *
      clear n0 n1 n2 n3 m0 m1 m2 m3 z0' z1' z2' z3' P0 P1 P2 P3 P4 P5
      have S5:=S4.below nb5
      have M5:=MB.below nb5
      have hb5:=aB nb nb5
      have hz5:=N5.lt
      rcases h3 with ⟨hnf,e,_⟩|⟨hnf,e,h,hh,hat2⟩
      ·have e2:decide ((0:Int)<=n.f)=false:=by simp;omega
       have e3:decide (n.f<(0:Int))=true:=by simpa using hnf
       obtain⟨c,hc⟩:∃c,dH n.d f g=c:=⟨_,rfl⟩
       have hv:=nE n.d f g
       rw[hc] at e hv
       have HV:=J0 hv
       clear hv hc
       refine RW.start (fun w'=>Below W5.heap.size W5 w') (by kernel_rfl) (by kernel_rfl) (Jy _ _).drew ?_
       repeat (first
        |(refine' RW.val (by rfl) ?_ ?_;rotate_left;(focus (intro w' hS;have HB5:=hS;obtain⟨a0,a1,a2,a3,_,_,_,_⟩:=cV (N5.below HB5);clear hS;go_simp;rfl));simp only[Act.put,J1,J3,J2])
        |(refine RW.off (by rfl) ?_;simp only[Act.put,J1,J3,J2]))
       refine RW.done (fun w' hS=>?_)
       have HB5:=hS;obtain⟨a0,a1,a2,a3,_,_,_,_⟩:=cV (N5.below HB5);clear hS
       have N6:=N5.below HB5
       have M6:=M5.below HB5
       have S6:=S5.below HB5
       have hb6:=aB hb5 HB5
       have hz6:=N6.lt
       have hz6':=M6.lt
       go_upto_region 13 with fail
       have hall:∀W,Below w'.heap.size w' W->W.cell? ⟨W4.heap.size,1,none⟩=some (.int .i64 n.d.k)/\W.cell? ⟨W4.heap.size,2,none⟩=some (.int .u64 n.d.b)/\W.cell? ⟨W4.heap.size,3,none⟩=some (.string n.d.t)/\W.cell? ⟨w.heap.size+1,0,none⟩=some (.slice (some od) bo z0)/\W.cell? ⟨wr.heap.size,0,none⟩=some (.int .i64 x.f)/\W.cell? (od.add (x.f.toNat * 3))=some (.string f.s)/\W.cell? ⟨(od.add (x.f.toNat * 3)).block,(od.add (x.f.toNat * 3)).off+(0+1),none⟩=some (.int .i64 f.k)/\W.cell? ⟨(od.add (x.f.toNat * 3)).block,(od.add (x.f.toNat * 3)).off+(1+1),none⟩=some (.int .i64 f.l)/\W.cell? ⟨w.heap.size+1,1,none⟩=some (.slice (some gd) bn z1)/\W.cell? (gd.add (k * 3))=some (.string g.s)/\W.cell? ⟨(gd.add (k * 3)).block,(gd.add (k * 3)).off+(0+1),none⟩=some (.int .i64 g.k)/\W.cell? ⟨(gd.add (k * 3)).block,(gd.add (k * 3)).off+(1+1),none⟩=some (.int .i64 g.l)/\Below w'.heap.size w' W:=fun W hb=>by
        obtain⟨_,q1,q2,q3,_⟩:=cV (N6.below hb)
        obtain⟨q4,_⟩:=cV (M6.below hb)
        have S7:=S6.below hb
        obtain⟨q5,q6,_⟩:=S7.Q.f3
        obtain⟨_,ea,f0,f1,f2⟩:=(s0.below S7.B).fld HF.out
        cases ea
        obtain⟨_,eb,g0,g1,g2⟩:=(s1.below S7.B).fld HG.out
        cases eb
        exact⟨q1,q2,q3,q5,q4,f0,f1,f2,q6,g0,g1,g2,hb⟩
       go_cut [10,11] (fun s10 s11 wx=>∃q z,s10=.pointer (some ⟨q,0,none⟩)/\s11=.int .i64 z/\aD wx q [.int .i64 c.k,.int .u64 c.b,.string c.t] 71/\aD wx W4.heap.size [.int .i64 n.f,.int .i64 n.d.k,.int .u64 n.d.b,.string n.d.t] 157/\aD wx wr.heap.size [.int .i64 x.f,.int .i64 x.d.k,.int .u64 x.d.b,.string x.d.t] 157/\Below wr.heap.size wr wx/\w'.heap.size<=q)
       case first=>
        go_region_held3 (fun W=>W.cell? ⟨W4.heap.size,1,none⟩=some (.int .i64 n.d.k)/\W.cell? ⟨W4.heap.size,2,none⟩=some (.int .u64 n.d.b)/\W.cell? ⟨W4.heap.size,3,none⟩=some (.string n.d.t)/\W.cell? ⟨w.heap.size+1,0,none⟩=some (.slice (some od) bo z0)/\W.cell? ⟨wr.heap.size,0,none⟩=some (.int .i64 x.f)/\W.cell? (od.add (x.f.toNat * 3))=some (.string f.s)/\W.cell? ⟨(od.add (x.f.toNat * 3)).block,(od.add (x.f.toNat * 3)).off+(0+1),none⟩=some (.int .i64 f.k)/\W.cell? ⟨(od.add (x.f.toNat * 3)).block,(od.add (x.f.toNat * 3)).off+(1+1),none⟩=some (.int .i64 f.l)/\W.cell? ⟨w.heap.size+1,1,none⟩=some (.slice (some gd) bn z1)/\W.cell? (gd.add (k * 3))=some (.string g.s)/\W.cell? ⟨(gd.add (k * 3)).block,(gd.add (k * 3)).off+(0+1),none⟩=some (.int .i64 g.k)/\W.cell? ⟨(gd.add (k * 3)).block,(gd.add (k * 3)).off+(1+1),none⟩=some (.int .i64 g.l)/\Below w'.heap.size w' W) ((refine hall _ ?_;repeat (first|assumption|exact Jy _ _|refine J8 ?_ (by dsimp only;first|exact J9 _|omega) _|refine Jk ?_ (by first|exact J9 _|omega) _|apply Jv)))
         (first
           |(go_at_call 80;obtain⟨_,_,_,_,_,_,_,_,_,_,_,_,HBx⟩:=‹_/\_/\_/\_/\_/\_/\_/\_/\_/\_/\_/\_/\Below w'.heap.size w' _›;refine(Av n.d.k n.d.b n.d.t f.s g.s f.k f.l g.k g.l b0 b1 _ _ HV.out rfl _).mono ?_;rintro e' W8 ⟨rfl,hb⟩;have HB8:Below w'.heap.size w' W8:=aB HBx hb;have hz8:=HB8.size;(first|(have VB:=aD.below (aD.new _ [.int .i64 0,.int .u64 0,.string ⟨#[]⟩] 71) hb)|(have VB:=aD.newB (cs:=[.int .i64 0,.int .u64 0,.string ⟨#[]⟩]) hb)|skip);(first|(obtain⟨v0,v1,v2,v3,v4,v5⟩:=VB.f3)|skip)))
        all_goals (go_wp2_with fail;go_meet;refine⟨_,_,rfl,rfl,?_,N6.below ?_,M6.below ?_,aB hb6 ?_,?_⟩)
        all_goals first
         |exact aD.new _ _ _
         |(exact aI (aI (aI VB 0 _) 1 _) 2 _)
         |exact J9 _
         |exact hz8
         |(repeat (first|assumption|exact Jy _ _|refine J8 ?_ (by dsimp only;first|exact J9 _|omega) _|refine Jk ?_ (by first|exact J9 _|omega) _|apply Jv))
       case rest=>
        obtain⟨q,z,rfl,rfl,VB,N7,M7,hb7,hq⟩:=hcut
        clear a0 a1 a2 a3
        obtain⟨a0,a1,a2,a3,A0,A1,A2,A3⟩:=cV N7
        obtain⟨m0,m1,m2,m3,z0',z1',z2',z3'⟩:=cV M7
        obtain⟨v0,v1,v2⟩:=DP VB
        go_wp2_with fail
        go_meet
        refine⟨rfl,?_,?_,?_⟩
        ·rw[e]
         exact dY.of (m:=⟨n.f,c⟩) (T:=157) (aI (aI (aI (aI (aD.far (aD.far (aD.far M7 (p:=⟨W4.heap.size,1,none⟩) (by show W4.heap.size≠_;omega) (.int .i64 c.k)) (p:=⟨W4.heap.size,2,none⟩) (by show W4.heap.size≠_;omega) (.int .u64 c.b)) (p:=⟨W4.heap.size,3,none⟩) (by show W4.heap.size≠_;omega) (.string c.t)) 0 (.int .i64 n.f)) 1 (.int .i64 c.k)) 2 (.int .u64 c.b)) 3 (.string c.t))
        ·exact((((((hb7.setCell (p:=⟨W4.heap.size,1,none⟩) (Nat.le_of_lt hsz) (.int .i64 c.k)).setCell (p:=⟨W4.heap.size,2,none⟩) (Nat.le_of_lt hsz) (.int .u64 c.b)).setCell (p:=⟨W4.heap.size,3,none⟩) (Nat.le_of_lt hsz) (.string c.t)).setCell (p:=⟨wr.heap.size,0,none⟩) (J9 _) (.int .i64 n.f)).setCell (p:=⟨wr.heap.size,1,none⟩) (J9 _) (.int .i64 c.k)).setCell (p:=⟨wr.heap.size,2,none⟩) (J9 _) (.int .u64 c.b)).setCell (p:=⟨wr.heap.size,3,none⟩) (J9 _) (.string c.t)
        ·have:=M7.lt
         simp
         omega
      ·have hok:=HOK.out
       have e2:decide ((0:Int)<=n.f)=true:=by simpa using hnf
       have e3:decide (n.f<(0:Int))=false:=by simp;omega
       have hnl:n.f<(ao:Int):=by have:=(J6.1 hh).1;have:=HAO.out;omega
       obtain⟨hd,eh,_,_,_⟩:=r0.fld hh
       subst eh
       have HH:=J0 hh
       have HC:=J0 (hat2.symm.trans hok)
       clear hh hat2
       refine RW.start (fun w'=>Below W5.heap.size W5 w') (by kernel_rfl) (by kernel_rfl) (Jy _ _).drew ?_
       repeat (first
        |(refine' RW.val (by rfl) ?_ ?_;rotate_left;(focus (intro w' hS;have HB5:=hS;obtain⟨a0,a1,a2,a3,_,_,_,_⟩:=cV (N5.below HB5);obtain⟨P0,P1,P2,P3,P4,P5⟩:=(S5.below HB5).P.f3;obtain⟨Q0,Q1,Q2,Q3,Q4,Q5⟩:=(S5.below HB5).Q.f3;obtain⟨_,eh,h0,h1,h2⟩:=(r0.below (S5.below HB5).B).fld HH.out;cases eh;obtain⟨_,eg,g0,g1,g2⟩:=(s1.below (S5.below HB5).B).fld HG.out;cases eg;clear hS;go_simp;rfl));simp only[Act.put,J1,J3,J2])
        |(refine RW.off (by rfl) ?_;simp only[Act.put,J1,J3,J2])
        |(refine' RW.call (by rfl) ?_ ?_ ?_
          rotate_left 3
          (focus (intro w' hS;have HB5:=hS;obtain⟨a0,a1,a2,a3,_,_,_,_⟩:=cV (N5.below HB5);obtain⟨P0,P1,P2,P3,P4,P5⟩:=(S5.below HB5).P.f3;obtain⟨Q0,Q1,Q2,Q3,Q4,Q5⟩:=(S5.below HB5).Q.f3;obtain⟨_,eh,h0,h1,h2⟩:=(r0.below (S5.below HB5).B).fld HH.out;cases eh;obtain⟨_,eg,g0,g1,g2⟩:=(s1.below (S5.below HB5).B).fld HG.out;cases eg;clear hS;go_simp;exact⟨rfl,rfl⟩))
          (focus
            intro w' hS
            have HB5:=hS;obtain⟨a0,a1,a2,a3,_,_,_,_⟩:=cV (N5.below HB5);obtain⟨P0,P1,P2,P3,P4,P5⟩:=(S5.below HB5).P.f3;obtain⟨Q0,Q1,Q2,Q3,Q4,Q5⟩:=(S5.below HB5).Q.f3;obtain⟨_,eh,h0,h1,h2⟩:=(r0.below (S5.below HB5).B).fld HH.out;cases eh;obtain⟨_,eg,g0,g1,g2⟩:=(s1.below (S5.below HB5).B).fld HG.out;cases eg;clear hS
            first
             |(refine(bf h.s g.s h.k h.l g.k g.l true HC.out _).mono ?_;rintro e w1 ⟨rfl,hb⟩;exact⟨rfl,(aB HB5 hb)⟩))
          simp only[Act.put,J1,J3,J2]))
       refine RW.done (fun w' hS=>?_)
       have HB5:=hS;obtain⟨a0,a1,a2,a3,_,_,_,_⟩:=cV (N5.below HB5);obtain⟨P0,P1,P2,P3,P4,P5⟩:=(S5.below HB5).P.f3;obtain⟨Q0,Q1,Q2,Q3,Q4,Q5⟩:=(S5.below HB5).Q.f3;obtain⟨_,eh,h0,h1,h2⟩:=(r0.below (S5.below HB5).B).fld HH.out;cases eh;obtain⟨_,eg,g0,g1,g2⟩:=(s1.below (S5.below HB5).B).fld HG.out;cases eg;clear hS
       obtain⟨m0,m1,m2,m3,z0',z1',z2',z3'⟩:=cV (M5.below HB5)
       go_wp2_with fail
       go_meet
       refine⟨rfl,?_,?_,?_⟩
       ·rw[e]
        exact dY.of (T:=157) (aI (aI (aI (aI (M5.below HB5) 0 (.int .i64 n.f)) 1 (.int .i64 n.d.k)) 2 (.int .u64 n.d.b)) 3 (.string n.d.t))
       ·exact((((aB hb5 HB5).setCell (p:=⟨wr.heap.size,0,none⟩) (J9 _) (.int .i64 n.f)).setCell (p:=⟨wr.heap.size,1,none⟩) (J9 _) (.int .i64 n.d.k)).setCell (p:=⟨wr.heap.size,2,none⟩) (J9 _) (.int .u64 n.d.b)).setCell (p:=⟨wr.heap.size,3,none⟩) (J9 _) (.string n.d.t)
       ·have:=HB5.size
        have:=hb5.size
        simp
        omega
    case rest=>
     obtain⟨rfl,MY,hb9,hz9⟩:=hcut
     clear m0 m1 m2 m3 z0' z1' z2' z3' MB nb hsz S4
     rename EQ=>W9
     have hown9:=aG hown hb9
     have P9:=PB.below hb9
     have hpz:=HPZ.out
     have hp2:=HP2.out
     have hz29:=hb9.size
     have hall2:Hid (∀j,j<k+1->eu (bS a b) j=true):=J0 (fun j hj=>by
      rcases(by omega:j<k\/j=k) with h|rfl
      ·exact hall.out j h
      ·exact hok)
     obtain⟨m0,m1,m2,m3⟩:=MY
     obtain⟨k0,k1,k2,f0,f1,f2⟩:=P9.f3
     go_wp2_with (at_builtin;refine Y5 _ rfl _ _ 108 rfl Wc.heap.size 157 i0 (.agg #[.int .i64 0,.int .i64 0,.int .u64 0,.string ⟨#[]⟩]) 4 40 Tryz.underlying108 hi hz0 hz1 hz2 rfl (by decide) _ _ _ rfl (hown9.alloc _) ⟨W9.heap.size,0,none⟩ 1 1 [.int .i64 y.f,.int .i64 y.d.k,.int .u64 y.d.b,.string y.d.t] rfl rfl ?c1 ?c2 ?c3 ?c4 ?c5 ?_)
     case c1=>exact eR _ _ _ _ _ _
     case c2=>intro u hu;simp at hu;rcases hu with rfl|rfl|rfl|rfl <;> rfl
     case c3=>simp only[maxLen];omega
     case c4=>omega
     case c5=>simp <;> omega
     intro v' w3 hown' hgrow _
     have BG:Below Wc.heap.size W9 w3:=((Jy _ _).alloc (by omega) (.cells #[.int .i64 y.f,.int .i64 y.d.k,.int .u64 y.d.b,.string y.d.t] 157)).grown hgrow (by simp <;> omega) (fun q hq=>aF hown9 q hq)
     have BG2:Below Wc.heap.size wr w3:=(hb9.mono hwcr).trans BG
     have O3:aD w3 p [.slice X0 ao x0,.slice (some gd) bn z1,v] 110:=(BG2.block _ hpz).trans PB
     have hown3:w3.ownsRow Wc.heap.size 157 4 v' (k+1) (aJ (eD a b (k+1))):=ag hown' (by simp) (by rw[HK.out])
     have hz3:=BG.size
     obtain⟨B',c',rfl,_,_,_⟩:=aL hown3
     clear hown' hgrow hown k0 k1 k2 f0 f1 f2 m0 m1 m2 m3
     obtain⟨k0,k1,k2,f0,f1,f2⟩:=O3.f3
     go_wp2
     go_roundw
     case rel=>exact⟨k+1,_,by omega,rfl,by go_num,Y3 hown3 (by show p<_;omega) _,aI O3 2 _,by show _<=(World.setCell _ _ _).heap.size;simp;omega,S.step (by omega) BG2 hp2 2 _,hall2⟩
     case measure=>simp[intOf];omega
   ·have hokn:=hok
    have hokf:eu (bS a b) k=false:=by simpa using hok
    have hrf:r=false:=by rw[HRR.out];exact Y9 (fun h=>hok (h k hlt))
    subst hrf
    clear hok
    rcases HWY.out with ⟨hxf,e,ho⟩|⟨hxf,n,f,hn,hf1,hf2,⟨hnf,e,ho⟩|⟨hnf,e,h,hh,hat2⟩⟩
    ·rw[hokf] at ho;cases ho
    ·rw[hokf] at ho;cases ho
    have hok:=hokf
    clear hokf
    have e1:decide ((0:Int)<=x.f)=true:=by simpa using hxf
    have hxl:x.f<(bo:Int):=by have:=(J6.1 hf2).1;have:=HBO.out;omega
    have hxm:x.f<(am:Int):=by have:=(J6.1 hn).1;have:=HAM.out;omega
    obtain⟨od,eo,_,_,_⟩:=s0.fld hf2
    subst eo
    obtain⟨nd,en,n0,n1,n2,n3⟩:=(r2.below S4.B).mv hn
    subst en
    obtain⟨b0,b1⟩:=WA.out n (J7 hn)
    have HF:=J0 hf2
    clear hn hf1 hf2
    obtain⟨P0,P1,P2,P3,P4,P5⟩:=S4.P.f3
    have nb5:=aA (w:=W4) (.cells #[.int .i64 n.f,.int .i64 n.d.k,.int .u64 n.d.b,.string n.d.t] 157)
    have N5:=aD.new W4 [.int .i64 n.f,.int .i64 n.d.k,.int .u64 n.d.b,.string n.d.t] 157
    go_upto_region 10 with fail
    generalize W4.alloc (.cells #[.int .i64 n.f,.int .i64 n.d.k,.int .u64 n.d.b,.string n.d.t] 157)=W5 at *
    clear n0 n1 n2 n3 m0 m1 m2 m3 z0' z1' z2' z3' P0 P1 P2 P3 P4 P5
    have S5:=S4.below nb5
    have M5:=MB.below nb5
    have hb5:=aB nb nb5
    have hz5:=N5.lt
    have e2:decide ((0:Int)<=n.f)=true:=by simpa using hnf
    have e3:decide (n.f<(0:Int))=false:=by simp;omega
    have hnl:n.f<(ao:Int):=by have:=(J6.1 hh).1;have:=HAO.out;omega
    obtain⟨hd,eh,_,_,_⟩:=r0.fld hh
    subst eh
    have HH:=J0 hh
    have HC:=J0 (hat2.symm.trans hok)
    clear hh hat2
    refine RW.start (fun w'=>Below W5.heap.size W5 w') (by kernel_rfl) (by kernel_rfl) (Jy _ _).drew ?_
    repeat (first
     |(refine' RW.val (by rfl) ?_ ?_;rotate_left;(focus (intro w' hS;have HB5:=hS;obtain⟨a0,a1,a2,a3,_,_,_,_⟩:=cV (N5.below HB5);obtain⟨P0,P1,P2,P3,P4,P5⟩:=(S5.below HB5).P.f3;obtain⟨Q0,Q1,Q2,Q3,Q4,Q5⟩:=(S5.below HB5).Q.f3;obtain⟨_,eh,h0,h1,h2⟩:=(r0.below (S5.below HB5).B).fld HH.out;cases eh;obtain⟨_,eg,g0,g1,g2⟩:=(s1.below (S5.below HB5).B).fld HG.out;cases eg;clear hS;go_simp;rfl));simp only[Act.put,J1,J3,J2])
     |(refine RW.off (by rfl) ?_;simp only[Act.put,J1,J3,J2])
     |(refine' RW.call (by rfl) ?_ ?_ ?_
       rotate_left 3
       (focus (intro w' hS;have HB5:=hS;obtain⟨a0,a1,a2,a3,_,_,_,_⟩:=cV (N5.below HB5);obtain⟨P0,P1,P2,P3,P4,P5⟩:=(S5.below HB5).P.f3;obtain⟨Q0,Q1,Q2,Q3,Q4,Q5⟩:=(S5.below HB5).Q.f3;obtain⟨_,eh,h0,h1,h2⟩:=(r0.below (S5.below HB5).B).fld HH.out;cases eh;obtain⟨_,eg,g0,g1,g2⟩:=(s1.below (S5.below HB5).B).fld HG.out;cases eg;clear hS;go_simp;exact⟨rfl,rfl⟩))
       (focus
         intro w' hS
         have HB5:=hS;obtain⟨a0,a1,a2,a3,_,_,_,_⟩:=cV (N5.below HB5);obtain⟨P0,P1,P2,P3,P4,P5⟩:=(S5.below HB5).P.f3;obtain⟨Q0,Q1,Q2,Q3,Q4,Q5⟩:=(S5.below HB5).Q.f3;obtain⟨_,eh,h0,h1,h2⟩:=(r0.below (S5.below HB5).B).fld HH.out;cases eh;obtain⟨_,eg,g0,g1,g2⟩:=(s1.below (S5.below HB5).B).fld HG.out;cases eg;clear hS
         first
          |(refine(bf h.s g.s h.k h.l g.k g.l false HC.out _).mono ?_;rintro e w1 ⟨rfl,hb⟩;exact⟨rfl,(aB HB5 hb)⟩))
       simp only[Act.put,J1,J3,J2]))
    refine RW.done (fun w' hS=>?_)
    have HB5:=hS;obtain⟨a0,a1,a2,a3,_,_,_,_⟩:=cV (N5.below HB5);obtain⟨P0,P1,P2,P3,P4,P5⟩:=(S5.below HB5).P.f3;obtain⟨Q0,Q1,Q2,Q3,Q4,Q5⟩:=(S5.below HB5).Q.f3;obtain⟨_,eh,h0,h1,h2⟩:=(r0.below (S5.below HB5).B).fld HH.out;cases eh;obtain⟨_,eg,g0,g1,g2⟩:=(s1.below (S5.below HB5).B).fld HG.out;cases eg;clear hS
    obtain⟨N0,N1,N2,N3,N4,N5⟩:=(S5.below HB5).N.f3
    have hb6:=aB S.B (aB hb5 HB5)
    go_wp2
    refine Xx (v:=.tuple #[.agg #[.slice none 0 0,.slice none 0 0,.slice none 0 0],.int .i64 70]) (by simp[results,Tryz.results155,go_sem, *];done) rfl ⟨none,0,none,0,none,0,rfl,fun h=>absurd rfl h,fun h=>absurd rfl h,fun h=>absurd rfl h,?_⟩
    have HB:=hb6
    (repeat (first|exact HB|refine J8 ?_ (by dsimp only;omega) _|refine Jk ?_ (by have:=HB.size;(try simp) <;> omega) _|apply Jv))
  ·obtain rfl:k=bm:=by omega
   have hpz:=HPZ.out
   have hp2:=HP2.out
   obtain rfl:r=true:=by rw[HRR.out];exact Yx hall.out
   obtain⟨C,cc,rfl,_,_,_⟩:=aL hown
   have RC:=dj (P:=fun g=>w.heap.size+2<g) hown (fun g hg=>by have:=aF hown g hg;omega)
   have hc1:(bS a b).o.length=ao:=HAO.out
   have hc2:(bS a b).n.length=bn:=HBN.out
   have hc3:(bS a b).m.length=k:=by show(eD a b b.m.length).length=k;rw[iJ];exact HBM.out
   have C1:=J0 hc1;have C2:=J0 hc2;have C3:=J0 hc3
   clear hc1 hc2 hc3 hown
   obtain⟨k0,k1,k2,f0,f1,f2⟩:=PB.f3
   obtain⟨N0,N1,N2,N3,N4,N5⟩:=S.N.f3
   obtain⟨Q0,Q1,Q2,Q3,Q4,Q5⟩:=S.Q.f3
   go_wp2
   refine Xx (v:=.tuple #[.agg #[.slice X0 ao x0,.slice Z1 bn z1,.slice C k cc],.int .i64 0]) (by simp[results,Tryz.results155,go_sem, *];done) rfl ?_
   show CO (bS a b) 0 w _ _
   have hc1:=C1.out
   have hc2:=C2.out
   have hc3:=C3.out
   have hbF:Below w.heap.size w (((wr.setCell ⟨w.heap.size+2,0,none⟩ (.slice X0 ao x0)).setCell ⟨w.heap.size+2,1,none⟩ (.slice Z1 bn z1)).setCell ⟨w.heap.size+2,2,none⟩ (.slice C k cc)):=by
    have HB:=S.B
    (repeat (first|exact HB|refine J8 ?_ (by dsimp only;omega) _|refine Jk ?_ (by have:=HB.size;(try simp) <;> omega) _|apply Jv))
   refine⟨X0,x0,Z1,z1,C,cc,by rw[hc1,hc2,hc3],r0.below hbF,s1.below hbF,?_,hbF⟩
   have:=(RC.set3 _ (fun g hg=>by have h:=hg;show g≠w.heap.size+2;omega) 0 1 2 (.slice X0 ao x0) (.slice Z1 bn z1) (.slice C k cc)).rd
   show Rd _ C (aJ (eD a b b.m.length))
   rw[HBM.out]
   exact this
def L1:List Fd:=[⟨⟨#[97]⟩,1,0⟩]
def c1:Ch:=⟨4,⟨#[97]⟩,⟨⟨#[]⟩,2,0⟩,⟨0,0,⟨#[]⟩⟩,[]⟩
def c2:Ch:=⟨4,⟨#[97]⟩,⟨⟨#[]⟩,5,0⟩,⟨0,0,⟨#[]⟩⟩,[]⟩
def c3:Ch:=⟨3,⟨#[97]⟩,⟨⟨#[98]⟩,0,0⟩,⟨0,0,⟨#[]⟩⟩,[]⟩
theorem Rd.ne {w:EQ} {A:EL} {cs bs:EO} {b:Nat} {T:ES} (h:Rd w A cs) (hb:aD w b bs T) (hd:∀u,cs[0]?=some u->u ∉ bs):au (fun g=>g≠b) w A cs:=fun hn=>by
 obtain⟨ad,e,hc⟩:=h hn
 refine⟨ad,e,?_,hc⟩
 rintro rfl
 cases cs with
 |nil=>exact hn rfl
 |cons u r=>
  have h0:=hc 0 u rfl
  have e0:ad.add 0=ad:=rfl
  rw[e0] at h0
  unfold World.cell? at h0
  have hb':w.heap[ad.block]?=some (.cells bs.toArray T (0,0)):=hb
  rw[hb'] at h0
  simp only at h0
  split at h0
  ·cases h0
  ·have h1:bs[ad.off]?=some u:=by simpa using h0
   exact hd u rfl (J7 h1)
theorem lq {l:List Fd} {u:ER} (h:(aC l)[0]?=some u):∃s,u=.string s:=by
 cases l with
 |nil=>cases h
 |cons f r=>exact⟨f.s,by simp[aC] at h;exact h.symm⟩
theorem lv {l:List Mv} {u:ER} (h:(aJ l)[0]?=some u):∃s,u=.int .i64 s:=by
 cases l with
 |nil=>cases h
 |cons f r=>exact⟨f.f,by simp[aJ] at h;exact h.symm⟩
theorem RdF.set3 {w:EQ} {A:EL} {l:List Fd} {b:Nat} {P0 P1 P2:EL} {n0 n1 n2 c0 c1 c2:Nat} {T:ES} (h:Rd w A (aC l)) (hb:aD w b [.slice P0 n0 c0,.slice P1 n1 c1,.slice P2 n2 c2] T) (x y z:ER):Rd (((w.setCell ⟨b,0,none⟩ x).setCell ⟨b,1,none⟩ y).setCell ⟨b,2,none⟩ z) A (aC l):=
 ((h.ne hb (fun u hu=>by obtain⟨s,rfl⟩:=lq hu;simp)).set3 b (fun g hg=>hg) 0 1 2 x y z).rd
theorem RdM.set3 {w:EQ} {A:EL} {l:List Mv} {b:Nat} {P0 P1 P2:EL} {n0 n1 n2 c0 c1 c2:Nat} {T:ES} (h:Rd w A (aJ l)) (hb:aD w b [.slice P0 n0 c0,.slice P1 n1 c1,.slice P2 n2 c2] T) (x y z:ER):Rd (((w.setCell ⟨b,0,none⟩ x).setCell ⟨b,1,none⟩ y).setCell ⟨b,2,none⟩ z) A (aJ l):=
 ((h.ne hb (fun u hu=>by obtain⟨s,rfl⟩:=lv hu;simp)).set3 b (fun g hg=>hg) 0 1 2 x y z).rd
def mU (l:List Fd):Prop:=∀f∈l,f.s.size<=281474976710656
theorem mU.fds {l:List Fd} (h:mU l):gL l:=fun f hf=>Q7 (h f hf) (by decide)
theorem vI {l:List Fd} {c:Ch} (h:mU l) (hg:c.g.s.size<=281474976710656):mU (cI l c):=by
 intro f hf
 unfold cI at hf
 split at hf
 ·rcases X5.1 hf with h1|h1
  ·exact h f h1
  ·simp at h1;subst h1;exact hg
 ·split at hf
  ·exact h f (List.mem_of_mem_eraseIdx hf)
  ·split at hf
   ·obtain⟨i,hi⟩:=Qv.1 hf
    rw[List.getElem?_modify] at hi
    cases hx:l[i]? with
    |none=>rw[hx] at hi;cases hi
    |some x=>
     rw[hx] at hi
     have hi2:(if jc l c=i then(⟨c.g.s,x.k,x.l⟩:Fd) else x)=f:=Jj hi
     split at hi2
     ·subst hi2;exact hg
     ·subst hi2;exact h _ (J7 hx)
   ·split at hf
    ·obtain⟨i,hi⟩:=Qv.1 hf
     rw[List.getElem?_modify] at hi
     cases hx:l[i]? with
     |none=>rw[hx] at hi;cases hi
     |some x=>
      rw[hx] at hi
      have hi2:(if jc l c=i then(⟨x.s,c.g.k,c.g.l⟩:Fd) else x)=f:=Jj hi
      split at hi2
      ·subst hi2;exact h x (J7 hx)
      ·subst hi2;exact h _ (J7 hx)
    ·obtain⟨n,_,rfl⟩:=Vy.1 hf
     cases hx:l[n.toNat]? with
     |none=>show(Fd.z).s.size<=_;exact X6 _
     |some x=>exact h x (J7 hx)
theorem BR {l:List Fd} {c:Ch} (x0:0<=c.d.b) (x1:c.d.b<18446744073709551616):iG (dV l c):=by
 unfold dV
 split
 ·exact CJ (tQ _) x0 x1
 ·split
  ·exact CK (tQ _) _
  ·split
   ·exact CL _
   ·exact tQ _
structure iH (t:Tb):Prop where
 r:ar t=true
 w:iG t.m
 o:mU t.o
 n:mU t.n
theorem iH.keep {l:List Fd} (h:aK l=true) (hn:mU l):iH (bA l):=by
 rw[bx h]
 exact⟨vG h,tQ _,hn,hn⟩
theorem iH.make {l:List Fd} {c:Ch} (h:dR l c=0) (hn:mU l) (hg:c.g.s.size<=281474976710656) (x0:0<=c.d.b) (x1:c.d.b<18446744073709551616):iH (dy l c):=by
 obtain⟨h1,h2,h3,h4⟩:=tS h
 rw[h4] at h1 |-
 exact⟨h1,BR x0 x1,hn,vI hn hg⟩
theorem iH.comp {a b:Tb} (ha:iH a) (hb:iH b) (h:az a b=0):iH (bv a b):=by
 obtain⟨h1,h2,h3⟩:=nO h
 rw[h3]
 exact⟨h2,wL ha.w hb.w _,ha.o,hb.n⟩
theorem jl (a b:Tb):az a b=0\/az a b=70:=by unfold az;split <;> simp
theorem ka {t:Tb} {c:Ch} {r:List Ch} (h:¬dR t.n c=0):pH t (c :: r)=(Tb.z,dR t.n c):=by rw[pH,Xy h]
theorem kZ {t:Tb} {c:Ch} {r:List Ch} (h:dR t.n c=0) (h2:¬az t (dy t.n c)=0):pH t (c :: r)=(Tb.z,70):=by rw[pH,Xz h,Xy h2]
theorem kc {t:Tb} {c:Ch} {r:List Ch} (h:dR t.n c=0) (h2:az t (dy t.n c)=0):pH t (c :: r)=pH (bv t (dy t.n c)) r:=by rw[pH,Xz h,Xz h2]
def wA (p:Ch×ER):Prop:=(-9223372036854775808<=p.1.op/\p.1.op<=9223372036854775807)/\(0<=p.1.d.b/\p.1.d.b<18446744073709551616)/\p.1.q.length<=17592186044415/\p.1.g.s.size<=281474976710656
theorem vW (a b:Tb) (X0 X1 X2 Z0 Z1 Z2:EL) (x0 x1 x2 z0 z1 z2 ao an am bo bn bm:Nat) (hao:a.o.length=ao) (han:a.n.length=an) (ham:a.m.length=am) (hbo:b.o.length=bo) (hbn:b.n.length=bn) (hbm:b.m.length=bm) (l0:ao<=9223372036854775807) (l1:an<=9223372036854775807) (l2:am<=9223372036854775807) (l3:bo<=9223372036854775807) (l4:bn<=9223372036854775807) (l5:bm<=9223372036854775807) (wa:iG a.m) (wb:iG b.m) (sa:gL a.o) (sb:gL a.n) (sc:gL b.o) (sd:gL b.n) (w:EQ) (r0:Rd w X0 (aC a.o)) (r1:Rd w X1 (aC a.n)) (r2:Rd w X2 (aJ a.m)) (s0:Rd w Z0 (aC b.o)) (s1:Rd w Z1 (aC b.n)) (s2:Rd w Z2 (aJ b.m)):
 Calls Tryz.prog 155 #[.agg #[.slice X0 ao x0,.slice X1 an x1,.slice X2 am x2],.agg #[.slice Z0 bo z0,.slice Z1 bn z1,.slice Z2 bm z2]] w fun e w'=>CO (bv a b) (az a b) w e w':=by
 cases hm:gV a b
 ·obtain⟨e1,e2⟩:=wg hm
  rw[e1,e2]
  exact tm a b X0 X1 X2 Z0 Z1 Z2 x0 x1 x2 z0 z1 z2 ao an am bo bn bm hao han ham hbo hbn hbm l0 l1 l2 l3 l4 l5 wa wb sa sb sc sd w r0 r1 r2 s0 s1 s2 hm
 ·have h:=rP a b X0 X1 X2 Z0 Z1 Z2 x0 x1 x2 z0 z1 z2 ao an am bo bn bm hao han ham hbo hbn hbm l0 l1 l2 l3 l4 l5 wa wb sa sb sc sd w r0 r1 r2 s0 s1 s2 hm _ rfl
  cases hr:ar (bS a b)
  ·rw[hr] at h
   have e1:az a b=70:=by rw[az,Xy (by rw[hr];rintro ⟨_,h⟩;cases h)]
   rw[bv,e1,Xy (by decide)]
   exact h
  ·rw[hr] at h
   have e1:az a b=0:=by rw[az,Xz ⟨hm,hr⟩]
   rw[bv,e1,Xz rfl]
   exact h
end
section
open Go.RowKit
theorem jO (A:EL) (c m:Nat) (l:List Fd) (hm:l.length=m) (hr:aK l=true) (w:EQ) (hA:Rd w A (aC l)) (hl:m<=9223372036854775807) (hc:m<=c):
 Calls Tryz.prog 45 #[.slice A m c] w fun e w'=>∃B d v2 v3 b1 b2,e=.returned (.agg #[.slice B m d,v2,v3])/\m<=d/\w.heap.size<=b1/\b1<=b2/\b2<=w'.heap.size/\gm b1 w' B (aC l)/\(∀ad,B=some ad->w.heap.size<=ad.block/\ad.block<b1)/\w'.ownsRow b1 68 3 v2 m (aC l)/\cO b2 v2/\w'.ownsRow b2 137 4 v3 m (aJ (kM m))/\Below w.heap.size w w':=by
 obtain⟨i0,hi,hz0,hz1,hz2⟩:=info_parts kB
 have h16:m<=16:=by rw[<-hm];exact(aQ hr).2
 have hb1:=aA (w:=w) (.cells #[.slice none 0 0,.slice none 0 0,.slice none 0 0] 96)
 have R:=aD.new w [.slice none 0 0,.slice none 0 0,.slice none 0 0] 96
 have HB:=hb1
 replace hA:=hA.below hb1
 have HM:=J0 hm
 have HR:=J0 hr
 have tok1:=Yz
 clear hm hr hb1
 go_enter Tryz.func45,Tryz.ntmps45
 go_wp2_with (first
  |(go_at_call 62;refine(bY A c m l HM.out true HR.out _ hA hl).mono ?_;rintro e W1 ⟨rfl,hb⟩;replace HB:=HB.trans (hb.mono HB.size);replace R:=R.below hb;replace hA:=hA.below hb;have hz1W:w.heap.size+1<=W1.heap.size:=R.lt;clear hb)
  |(have _t:=tok1;go_at_call 35;refine(fx A c m l HM.out _ hA (by omega) hc).mono ?_;rintro e W2 ⟨B,d,rfl,hd,own1,hb⟩;replace HB:=HB.trans (hb.mono HB.size);replace R:=R.below hb;replace hA:=hA.below hb;have hz12:=HB.size;have h12:=hb.size;clear hb tok1;have tok2:=Yz)
  |(have _t:=tok2;go_at_call 35;refine(fx A c m l HM.out _ hA (by omega) hc).mono ?_;rintro e W3 ⟨B2,d2,rfl,hd2,own2,hb3⟩;replace HB:=HB.trans (hb3.mono HB.size);replace R:=R.below hb3;clear hA tok2))
 have O:=aD.new W3 [.slice B m d,.slice B2 m d2,.slice none 0 0] 96
 have hb2:=aA (w:=W3) (.cells #[.slice B m d,.slice B2 m d2,.slice none 0 0] 96)
 have hzW:w.heap.size<W3.heap.size:=R.lt
 have h23:=hb3.size
 have lt1:cO W2.heap.size (.slice B m d):=aY own1
 have own1':=hQ (aG (aG own1 hb3) hb2) hz1W
 have own2':=aG own2 hb2
 have lt2:cO W3.heap.size (.slice B2 m d2):=aY own2
 have R0:=R.below hb2
 have HB0:=HB.trans (hb2.mono HB.size)
 clear hb2 HB R own1 own2 hb3
 go_loopw [4,16] (fun i j wr=>∃(k:Nat) (v:ER),k<=m/\j=.int .i64 k/\wr.ownsRow (W3.heap.size+1) 137 4 v k (aJ (kM k))/\aD wr W3.heap.size [.slice B m d,.slice B2 m d2,v] 96/\aD wr w.heap.size [.slice none 0 0,.slice none 0 0,.slice none 0 0] 96/\Below w.heap.size w wr/\W3.heap.size<wr.heap.size/\wr.ownsRow (w.heap.size+1) 68 3 (.slice B m d) m (aC l)/\wr.ownsRow W2.heap.size 68 3 (.slice B2 m d2) m (aC l)) (fun _ i _=>m - (intOf i).toNat)
 case atStart=>exact⟨0,_,by omega,rfl,ai _ _ _ _,O,R0,HB0,by simp,own1',own2'⟩
 case round=>
  obtain⟨k,v,hk,rfl,hown,O,R,HB,hz,own1,own2⟩:=hrel
  clear R0 HB0
  by_cases hlt:k<m
  ·have HK:=J0 (du k)
   obtain⟨k0,k1,k2,f0,f1,f2⟩:=(O.below (aA (w:=wr) (.cells #[.int .i64 k,.int .i64 0,.int .u64 0,.string ⟨#[]⟩] 137))).f3
   obtain⟨q0,q1,q2,p0,p1,p2⟩:=O.f3
   go_wp2_with (at_builtin;refine Y5 _ rfl _ _ 94 rfl (W3.heap.size+1) 137 i0 (.agg #[.int .i64 0,.int .i64 0,.int .u64 0,.string ⟨#[]⟩]) 4 40 Tryz.underlying94 hi hz0 hz1 hz2 rfl (by decide) _ _ _ rfl (hown.alloc _) ⟨wr.heap.size,0,none⟩ 1 1 [.int .i64 k,.int .i64 0,.int .u64 0,.string ⟨#[]⟩] rfl rfl ?c1 ?c2 ?c3 ?c4 ?c5 ?_)
   case c1=>exact eR _ _ _ _ _ _
   case c2=>intro u hu;simp at hu;rcases hu with rfl|rfl|rfl|rfl <;> rfl
   case c3=>simp only[maxLen];omega
   case c4=>omega
   case c5=>simp;omega
   intro v' w3 hown' hgrow _
   have BG:Below (W3.heap.size+1) wr w3:=((Jy _ _).alloc (by omega) (.cells #[.int .i64 k,.int .i64 0,.int .u64 0,.string ⟨#[]⟩] 137)).grown hgrow (by simp;omega) (fun q hq=>aF hown q hq)
   have O3:aD w3 W3.heap.size [.slice B m d,.slice B2 m d2,v] 96:=(BG.block _ (by omega)).trans O
   have R3:aD w3 w.heap.size [.slice none 0 0,.slice none 0 0,.slice none 0 0] 96:=(BG.block _ (by omega)).trans R
   have HB3:=HB.trans (BG.mono (by omega))
   have hown3:w3.ownsRow (W3.heap.size+1) 137 4 v' (k+1) (aJ (kM (k+1))):=ag hown' (by simp) (by rw[HK.out,bu];rfl)
   have hz3:=BG.size
   obtain⟨B',c',rfl,_,_,_⟩:=aL hown3
   clear hown' hgrow hown k0 k1 k2 f0 f1 f2 q0 q1 q2 p0 p1 p2
   obtain⟨k0,k1,k2,f0,f1,f2⟩:=O3.f3
   go_wp2
   go_roundw
   case rel=>
    have BS:Below W3.heap.size wr (w3.setCell ⟨W3.heap.size,2,none⟩ (.slice B' (k+1) c')):=(BG.mono (Nat.le_succ _)).setCell (J9 _) _
    exact⟨k+1,_,by omega,by go_num,Y3 hown3 (by show _<_;simp) _,aI O3 2 _,(J5 _ _ _ _ (by show _≠_;simp;omega)).trans R3,HB3.setCell (by show _<=_;simp;omega) _,by simp;omega,iV own1 lt1 (BS.mono h23),iV own2 lt2 BS⟩
   case measure=>simp[intOf];omega
  ·obtain rfl:k=m:=by omega
   obtain⟨B',c',rfl,_,_,_⟩:=aL hown
   obtain⟨k0,k1,k2,f0,f1,f2⟩:=O.f3
   obtain⟨q0,q1,q2,p0,p1,p2⟩:=R.f3
   go_wp2
   refine Xx (v:=.agg #[.slice B k d,.slice B2 k d2,.slice B' k c']) (by simp[results,Tryz.results45,go_sem, *];done) rfl ⟨B,d,_,_,W2.heap.size,W3.heap.size,rfl,hd,hz12,h23,?_,?_,?_,?_,lt2,?_,?_⟩
   ·simp;omega
   ·refine gm.own (Y3 (Y3 (Y3 own1 ?_ _) ?_ _) ?_ _) lt1 <;> (show _<_;simp)
   ·intro ad e;have:=aF own1 ad.block (by rw[e];rfl);have:=lt1 ad.block (by rw[e];rfl);omega
   ·refine Y3 (Y3 (Y3 own2 ?_ _) ?_ _) ?_ _ <;> (show _<_;simp;omega)
   ·refine hQ (Y3 (Y3 (Y3 hown ?_ _) ?_ _) ?_ _) (Nat.le_succ _) <;> (show _<_;simp;omega)
   ·(repeat (first|exact HB|refine J8 ?_ (by dsimp only;omega) _|refine Jk ?_ (by have:=HB.size;(try simp) <;> omega) _|apply Jv))
end
section
open Go.RowKit Go.Lib
structure Ty where
 s:EP
 old:Nat
 ts:List Tb
def Ty.top (t:Ty):Nat:=t.old+t.ts.length - 1
def Ty.last (t:Ty):List Fd:=(t.ts.getLast?.map (·.n)).getD []
structure Ty.Ok (t:Ty):Prop where
 nm:bI t.s=true
 lo:1<=t.old
 ne:t.ts≠[]
 hi:t.top<=64
 ok:∀x∈t.ts,iH x
 ch:∀(i:Nat) (a b:Tb),t.ts[i]?=some a->t.ts[i+1]?=some b->b.o=a.n
 k0:∀a,t.ts[0]?=some a->a=bA a.n
structure Wq (D:List Ty):Prop where
 ok:∀t∈D,t.Ok
 nd:(D.map (·.s)).Nodup
 len:D.length<=16
def ak (D:List Ty) (nm:EP):Option Ty:=D.find? fun t=>decide (t.s=nm)
theorem bQ {D:List Ty} {nm:EP} {t:Ty} (h:ak D nm=some t):t∈D/\t.s=nm:=by
 refine⟨List.mem_of_find?_eq_some h,?_⟩
 have:=List.find?_some h
 simpa using this
theorem df {D:List Ty} {nm:EP} (h:ak D nm=none):∀t∈D,t.s≠nm:=by
 intro t ht e
 have:=List.find?_eq_none.1 h t ht
 simp[e] at this
def ik (D:List Ty) (y:Ty):List Ty:=D.map fun t=>if t.s=y.s then y else t
theorem oG (D:List Ty) (y:Ty):(ik D y).map (·.s)=D.map (·.s):=by
 unfold ik
 rw[List.map_map]
 refine List.map_congr_left (fun t _=>?_)
 show(if t.s=y.s then y else t).s=t.s
 split
 ·rename_i h;exact h.symm
 ·rfl
def fj (D:List Ty) (nm:EP) (fs:List Fd):Int:=if bI nm=false\/aK fs=false then 60 else if ak D nm≠none\/16<=D.length then 91 else 0
def pF (D:List Ty) (nm:EP) (fs:List Fd):List Ty:=if fj D nm fs=0 then D++[⟨nm,1,[bA fs]⟩] else D
def rm (t:Ty) (cs:List Ch):Ty:=⟨t.s,t.old,t.ts++[(gb t.last cs).1]⟩
def mA (D:List Ty) (nm:EP) (cs:List Ch):Int:=match ak D nm with
 |none=>90
 |some t=>if 64<=t.top then 91 else(gb t.last cs).2
def xj (D:List Ty) (nm:EP) (cs:List Ch):Nat:=if mA D nm cs=0 then(match ak D nm with|none=>0|some t=>t.top+1) else 0
def uT (D:List Ty) (nm:EP) (cs:List Ch):List Ty:=if mA D nm cs=0 then(match ak D nm with|none=>D|some t=>ik D (rm t cs)) else D
def rc (t:Ty) (live:List Int):Bool:=live.any fun x=>decide ((t.old:Int)<=x) && decide (x<(t.top:Int))
def uU (t:Ty):Ty:=⟨t.s,t.top,[bA t.last]⟩
def mN (D:List Ty) (nm:EP) (live:List Int):Int:=match ak D nm with
 |none=>90
 |some t=>if rc t live=true then 93 else 0
def wn (D:List Ty) (nm:EP) (live:List Int):Nat:=if mN D nm live=0 then(match ak D nm with|none=>0|some t=>t.ts.length - 1) else 0
def rp (D:List Ty) (nm:EP) (live:List Int):List Ty:=if mN D nm live=0 then(match ak D nm with|none=>D|some t=>ik D (uU t)) else D
structure CF where
 k:Int
 s:EP
 fs:List Fd
 cs:List Ch
 live:List Int
def wQ (D:List Ty) (o:CF):List Ty:=if o.k=0 then pF D o.s o.fs else if o.k=1 then uT D o.s o.cs else if o.k=2 then rp D o.s o.live else D
def zN (D:List Ty) (o:CF):Int:=if o.k=0 then fj D o.s o.fs else if o.k=1 then mA D o.s o.cs else if o.k=2 then mN D o.s o.live else 0
def zO (D:List Ty) (o:CF):Nat:=if o.k=0 then 0 else if o.k=1 then xj D o.s o.cs else if o.k=2 then wn D o.s o.live else 0
def DN (o:CF):Prop:=mU o.fs/\∀c∈o.cs,c.g.s.size<=281474976710656/\0<=c.d.b/\c.d.b<18446744073709551616
theorem BI {t:Ty} (h:t.Ok):∃x,t.ts.getLast?=some x/\t.last=x.n/\iH x:=by
 cases hx:t.ts.getLast? with
 |none=>exact absurd (List.getLast?_eq_none_iff.1 hx) h.ne
 |some x=>exact⟨x,rfl,by rw[Ty.last,hx];rfl,h.ok x (List.mem_of_getLast? hx)⟩
theorem dh {t:Ty} (h:t.Ok):aK t.last=true/\mU t.last:=by
 obtain⟨x,_,e,hx⟩:=BI h
 rw[e]
 exact⟨(ae.1 hx.r).2.1,hx.n⟩
theorem lG {l:List Fd} (h:aK l=true):bA l=bA (bA l).n:=by
 have e:(bA l).n=l:=by rw[bx h]
 rw[e]
theorem Wq.nil:Wq []:=⟨fun t h=>(by cases h),List.nodup_nil,by simp⟩
theorem Wq.put {D:List Ty} (h:Wq D) {y:Ty} (hy:y.Ok):Wq (ik D y):=by
 refine⟨fun t ht=>?_,by rw[oG];exact h.nd,by rw[ik,Kz];exact h.len⟩
 obtain⟨x,hx,rfl⟩:=Vy.1 ht
 show(if x.s=y.s then y else x).Ok
 split
 ·exact hy
 ·exact h.ok x hx
theorem Wq.def {D:List Ty} (h:Wq D) {nm:EP} {fs:List Fd} (hs:mU fs):Wq (pF D nm fs):=by
 unfold pF
 split
 ·rename_i he
  unfold fj at he
  split at he
  ·omega
  ·rename_i h1
   split at he
   ·omega
   ·rename_i h2
    have hn:bI nm=true:=by cases hx:bI nm with|true=>rfl|false=>exact absurd (.inl hx) h1
    have hr:aK fs=true:=by cases hx:aK fs with|true=>rfl|false=>exact absurd (.inr hx) h1
    have hf:ak D nm=none:=Classical.byContradiction fun hc=>h2 (.inl hc)
    have hl:D.length<16:=by have:¬16<=D.length:=fun hc=>h2 (.inr hc);omega
    refine⟨fun t ht=>?_,?_,by simp;omega⟩
    ·rcases X5.1 ht with h3|h3
     ·exact h.ok t h3
     ·simp at h3;subst h3
      exact⟨hn,by show 1<=1;omega,by simp,by show 1+1 - 1<=64;omega,fun x hx=>by simp at hx;subst hx;exact iH.keep hr hs,fun i a b h1 h2=>by simp at h2,fun a h1=>by simp at h1;subst h1;exact lG hr⟩
    ·rw[List.map_append,List.nodup_append]
     refine⟨h.nd,by simp,fun a ha b hb=>?_⟩
     simp at hb;subst hb
     obtain⟨t,ht,rfl⟩:=Vy.1 ha
     exact df hf t ht
 ·exact h
theorem Bz {t:Tb} (ht:iH t):∀cs:List Ch,(∀c∈cs,c.g.s.size<=281474976710656/\0<=c.d.b/\c.d.b<18446744073709551616)->(pH t cs).2=0->iH (pH t cs).1:=by
 intro cs
 induction cs generalizing t with
 |nil=>intro _ _;exact ht
 |cons c r ih=>
  intro hc he
  obtain⟨h1,h2,h3⟩:=hc c List.mem_cons_self
  by_cases e:dR t.n c=0
  ·by_cases e2:az t (dy t.n c)=0
   ·rw[kc e e2] at he |-
    exact ih (ht.comp (iH.make e ht.n h1 h2 h3) e2) (fun x hx=>hc x (List.mem_cons_of_mem _ hx)) he
   ·rw[kZ e e2] at he
    exact absurd he (by decide)
  ·rw[ka e] at he
   exact absurd he e
theorem DR {t:Tb}:∀cs:List Ch,(pH t cs).2=0->(pH t cs).1.o=t.o:=by
 intro cs
 induction cs generalizing t with
 |nil=>intro _;rfl
 |cons c r ih=>
  intro he
  by_cases e:dR t.n c=0
  ·by_cases e2:az t (dy t.n c)=0
   ·rw[kc e e2] at he |-
    rw[ih he,bv,Xz e2]
    rfl
   ·rw[kZ e e2] at he
    exact absurd he (by decide)
  ·rw[ka e] at he
   exact absurd he e
theorem CV {l:List Fd} {cs:List Ch} (h:(gb l cs).2=0):(gb l cs).1.o=l:=by
 by_cases hr:aK l=true
 ·rw[gb,Xz hr] at h |-
  rw[DR cs h,bx hr]
 ·rw[gb,Xy hr] at h
  exact absurd h (by decide)
theorem CY {t:Ty} (h:t.Ok) {cs:List Ch} (hc:∀c∈cs,c.g.s.size<=281474976710656/\0<=c.d.b/\c.d.b<18446744073709551616) (h64:t.top<64) (he:(gb t.last cs).2=0):(rm t cs).Ok:=by
 obtain⟨hr,hs⟩:=dh h
 have hne:=h.ne
 have hlen:0<t.ts.length:=by cases hx:t.ts with|nil=>exact absurd hx hne|cons a r=>simp
 refine⟨h.nm,h.lo,by simp[rm],?_,fun x hx=>?_,fun i a b h1 h2=>?_,fun a h1=>?_⟩
 ·have h1:(rm t cs).top=t.old+(t.ts.length+1) - 1:=by simp[Ty.top,rm]
  have h2:t.top=t.old+t.ts.length - 1:=rfl
  omega
 ·rcases X5.1 hx with h1|h1
  ·exact h.ok x h1
  ·simp at h1;subst h1
   rw[gb,Xz hr] at he |-
   exact Bz (iH.keep hr hs) cs hc he
 ·have hil:i+1<t.ts.length+1:=by have:=(J6.1 h2).1;simpa[rm] using this
  simp only[rm] at h1 h2
  rcases(by omega:i+1<t.ts.length\/i+1=t.ts.length) with h3|h3
  ·rw[X9 (by omega)] at h1 h2
   exact h.ch i a b h1 h2
  ·rw[X9 (by omega)] at h1
   rw[h3,Qk (J9 _),Nat.sub_self] at h2
   simp at h2
   subst h2
   rw[CV he,Ty.last,List.getLast?_eq_getElem?,<-h3,Nat.add_sub_cancel,h1]
   rfl
 ·simp only[rm] at h1
  rw[X9 hlen] at h1
  exact h.k0 a h1
theorem Du {t:Ty} (h:t.Ok):(uU t).Ok:=by
 obtain⟨hr,hs⟩:=dh h
 have hlen:0<t.ts.length:=by cases hx:t.ts with|nil=>exact absurd hx h.ne|cons a r=>simp
 have h2:t.top=t.old+t.ts.length - 1:=rfl
 have h3:=h.lo
 refine⟨h.nm,by show 1<=t.top;omega,by simp[uU],?_,fun x hx=>?_,fun i a b h1 h2=>by simp[uU] at h2,fun a h1=>by simp[uU] at h1;subst h1;exact lG hr⟩
 ·show t.top+1 - 1<=64
  have:=h.hi
  omega
 ·simp[uU] at hx;subst hx;exact iH.keep hr hs
theorem Wq.do {D:List Ty} (h:Wq D) {o:CF} (ho:DN o):Wq (wQ D o):=by
 unfold wQ
 split
 ·exact h.def ho.1
 ·split
  ·unfold uT
   split
   ·rename_i he
    cases hf:ak D o.s with
    |none=>exact h
    |some t=>
     simp only[mA,hf] at he
     split at he
     ·omega
     ·exact h.put (CY (h.ok t (bQ hf).1) ho.2 (by omega) he)
   ·exact h
  ·split
   ·unfold rp
    split
    ·cases hf:ak D o.s with
     |none=>exact h
     |some t=>exact h.put (Du (h.ok t (bQ hf).1))
    ·exact h
   ·exact h
end
section
open Go.ChangeShapes Go.WideShapes Go.ChangeAt Go.RowKit Go.Joins Go.Deep
open Go.ChangeMaps (open_string shut_string)
structure lA where
 k:Int
 s:EP
 fs:List Fd
 A:EL
 a:Nat
 cs:List (Ch×ER)
 C:EL
 c:Nat
 live:List Int
 L:EL
 l:Nat
def lA.z (x:lA):CF:=⟨x.k,x.s,x.fs,x.cs.map (·.1),x.live⟩
def lA.cells (x:lA):EO:=[.int .i64 x.k,.string x.s,.slice x.A x.fs.length x.a,.slice x.C x.cs.length x.c,.slice x.L x.live.length x.l]
structure lA.G (w:EQ) (x:lA):Prop where
 k0:-9223372036854775808<=x.k
 k1:x.k<=9223372036854775807
 s:x.s.size<=maxLen
 fs:Rd w x.A (aC x.fs)
 fa:x.fs.length<=x.a
 cs:Rd w x.C (bV x.cs)
 ca:x.cs.length<=x.c
 cg:∀p∈x.cs,Es w p
 live:Rd w x.L (aV x.live)
 la:x.live.length<=x.l
structure lA.S (x:lA):Prop where
 s:x.s.size<=281474976710656
 fs:∀f∈x.fs,f.s.size<=281474976710656
 fn:x.fs.length<=281474976710656
 cs:∀p∈x.cs,Et p
 cn:x.cs.length * 112<=140737488355328
 ln:x.live.length<=281474976710656
section
variable {H:Type} {enc:ES×ER->H} {w:EQ} {base b0:Nat} {r:Reach} {spare:Nat->Bool} {held:Bool} {v:ER} {d:DataW H} {p:List MemPlace}
theorem tE {α:Type} (a0:α) {F:α->EO} {k:Nat} (hk:∀a,(F a).length=k) (hk1:0<k) {t e:ES} (hu:Tryz.prog.underlying t=some (.slice e)) (hc:Tryz.prog.cellsOf e=k) (hb:1<=Tryz.prog.bytesOf e) {G Z:α->Prop}
 (E:∀{n:Nat} {cs:EO} {x:DataW H×List MemPlace},DataW.trod enc Tryz.prog w base spare held n e cs=some x->∃a,cs=F a/\G a/\(kS e x.1->Z a))
 {n:Nat} {cs:EO} {x:DataW H×List MemPlace} (h:DataW.trod enc Tryz.prog w base spare held n t cs=some x):
 ∃(A:EL) (c:Nat) (l:List α),cs=[.slice A l.length c]/\l.length<=c/\c<=maxLen/\Rd w A (l.flatMap F)/\(∀a∈l,G a)/\(kS t x.1->(∀a∈l,Z a)/\l.length<=281474976710656/\l.length * Tryz.prog.bytesOf e<=140737488355328):=by
 rcases open_slice hu h with ⟨hcs,_⟩|⟨y,l,c,m,n,D,Pl,hcs,_,hl,hm,hmm,hx,hi⟩
 ·exact⟨none,0,[],hcs,J9 _,X6 _,Rd.nil _ _,by simp,fun _=>⟨by simp,X6 _,by simp⟩⟩
 ·subst hcs
  have hlm:l<=m:=by rw[hmm];split <;> omega
  have hel:∀i,∃a:α,i<l->G a/\(kS e (D i)->Z a)/\∀j,j<k->w.cell? ((y.add (i * k)).add j)=(F a)[j]?:=fun i=>by
   by_cases hlt:i<l
   ·obtain⟨cs',hc',ht⟩:=hi i (by omega)
    rw[hc] at hc'
    obtain⟨_,_,hat⟩:=World.cells?_some hc'
    obtain⟨a,rfl,hG,hZ⟩:=E ht
    exact⟨a,fun _=>⟨hG,hZ,fun j hj=>hat j hj⟩⟩
   ·exact⟨a0,fun h=>absurd h hlt⟩
  let B:=fun i=>Classical.choose (hel i)
  have hB:∀i,i<l->G (B i)/\(kS e (D i)->Z (B i))/\∀j,j<k->w.cell? ((y.add (i * k)).add j)=(F (B i))[j]?:=fun i=>Classical.choose_spec (hel i)
  have hlen:((List.range l).map B).length=l:=by simp
  refine⟨some y,c,(List.range l).map B,by rw[hlen],by rw[hlen];exact hl,hm,fun _=>⟨y,rfl,fun j u hj=>?_⟩,?_,fun hz=>⟨?_,?_⟩⟩
  ·have hjl:j<l * k:=by
    have:=(J6.1 hj).1
    rw[tM hk,hlen] at this;exact this
   have hq:j / k<l:=Nat.div_lt_of_lt_mul (by rw[Nat.mul_comm];exact hjl)
   have hr:j % k<k:=Nat.mod_lt _ hk1
   have hj2:j=j / k * k+j % k:=by rw[Nat.mul_comm];exact(Nat.div_add_mod j k).symm
   rw[hj2,iq hk (l:=(List.range l).map B) (i:=j / k) (a:=B (j / k)) (by simp[hq]) _ hr] at hj
   rw[hj2,<-Addr.add_add,(hB _ hq).2.2 _ hr,hj]
  ·intro b hb
   simp at hb
   obtain⟨i,hi,rfl⟩:=hb
   exact(hB i hi).1
  ·intro b hb
   simp at hb
   obtain⟨i,hi,rfl⟩:=hb
   refine(hB i hi).2.1 ?_
   have hx1:x.1=.slice ((List.range l).map D) ((List.range (m - l)).map fun j=>D (l+j)):=congrArg Prod.fst hx
   rw[hx1] at hz
   exact hz.elem hu (Vy.2 ⟨i,by simp[hi],rfl⟩)
  ·rw[hlen]
   have hx1:x.1=.slice ((List.range l).map D) ((List.range (m - l)).map fun j=>D (l+j)):=congrArg Prod.fst hx
   rw[hx1] at hz
   have h2:=hz.lenB hu
   have h1:=hz.len hu hb
   have:=reachBytes_lt
   simp at h1 h2
   exact⟨jY h1,by omega⟩
theorem Bt {n:Nat} {cs:EO} {x:DataW H×List MemPlace} (h:DataW.trod enc Tryz.prog w base spare held n 31 cs=some x):
 ∃o:lA,cs=o.cells/\o.G w/\(kS 31 x.1->o.S):=by
 obtain⟨xs,m,_,rfl,hl,hxl,hf⟩:=DataW.trod_struct Tryz.underlying31 h
 have c5:Tryz.prog.cellsOf 31=5:=by kernel_rfl
 have k0:Tryz.prog.cellsOf 9=1:=by kernel_rfl
 have k1:Tryz.prog.cellsOf 3=1:=by kernel_rfl
 have k2:Tryz.prog.cellsOf 27=1:=by kernel_rfl
 have k3:Tryz.prog.cellsOf 28=1:=by kernel_rfl
 have k4:Tryz.prog.cellsOf 29=1:=by kernel_rfl
 rw[c5] at hl
 obtain⟨c0,c1,c2,c3,c4,rfl⟩:∃a b c d e,cs=[a,b,c,d,e]:=by
  match cs,hl with
  |[a,b,c,d,e],_=>exact⟨a,b,c,d,e,rfl⟩
 obtain⟨y0,y1,y2,y3,y4,rfl⟩:∃a b c d e,xs=[a,b,c,d,e]:=by
  match xs,hxl with
  |[a,b,c,d,e],_=>exact⟨a,b,c,d,e,rfl⟩
 have h0:DataW.trod enc Tryz.prog w base spare held m 3 (([c0,c1,c2,c3,c4].drop 0).take (Tryz.prog.cellsOf 3))=some y0:=hf 0 _ rfl
 rw[k1] at h0
 have h1:DataW.trod enc Tryz.prog w base spare held m 9 (([c0,c1,c2,c3,c4].drop 1).take (Tryz.prog.cellsOf 9))=some y1:=hf 1 _ rfl
 rw[k0] at h1
 have h2:DataW.trod enc Tryz.prog w base spare held m 27 (([c0,c1,c2,c3,c4].drop 2).take (Tryz.prog.cellsOf 27))=some y2:=hf 2 _ rfl
 rw[k2] at h2
 have h3:DataW.trod enc Tryz.prog w base spare held m 28 (([c0,c1,c2,c3,c4].drop 3).take (Tryz.prog.cellsOf 28))=some y3:=hf 3 _ rfl
 rw[k3] at h3
 have h4:DataW.trod enc Tryz.prog w base spare held m 29 (([c0,c1,c2,c3,c4].drop 4).take (Tryz.prog.cellsOf 29))=some y4:=hf 4 _ rfl
 rw[k4] at h4
 obtain⟨o,e0,_,w0⟩:=DataW.trod_int Tryz.underlying3 h0
 obtain⟨s,e1,e3,w1⟩:=DataW.trod_string Tryz.underlying9 h1
 obtain⟨A,a,fs,e2,fa,_,fr,_,fz⟩:=tE (⟨⟨#[]⟩,0,0⟩:Fd) (k:=3) (F:=fun f=>[.string f.s,.int .i64 f.k,.int .i64 f.l]) (fun _=>rfl) (by omega) Tryz.underlying27 (by kernel_rfl) (Yv (by kernel_rfl)) tD h2
 obtain⟨C,c,ch,e4,ca,_,cr,cg,cz⟩:=tE (⟨⟨0,⟨#[]⟩,⟨⟨#[]⟩,0,0⟩,⟨0,0,⟨#[]⟩⟩,[]⟩,.slice none 0 0⟩:Ch×ER) (k:=9) (F:=fun x=>pX x.1 x.2) (G:=Es w) (Z:=Et) (fun _=>rfl) (by omega) Tryz.underlying28 (by kernel_rfl) (Yv (by kernel_rfl))
  (fun ht=>by
    obtain⟨c,Q,qc,e,h1,h2,h3,h4,h5,h6⟩:=zP ht
    exact⟨(c,.slice Q c.q.length qc),e,⟨h1,h2,Q,qc,rfl,h3,h4,h5⟩,h6⟩) h3
 obtain⟨L,q,lc,e5,la,_,lr,lz⟩:=pe h4
 simp at e0 e1 e2 e4 e5
 subst e0 e1 e2 e4 e5
 refine⟨⟨o,s,fs,A,a,ch,C,c,q,L,lc⟩,rfl,⟨(vx w0).1,(vx w0).2,w1,fr,fa,cr,ca,cg,lr,la⟩,fun hz=>?_⟩
 have z1:=hz.part Tryz.underlying31 (j:=1) rfl rfl rfl
 have z2:=hz.part Tryz.underlying31 (j:=2) rfl rfl rfl
 have z3:=hz.part Tryz.underlying31 (j:=3) rfl rfl rfl
 have z4:=hz.part Tryz.underlying31 (j:=4) rfl rfl rfl
 subst e3
 have hb:Tryz.prog.bytesOf 73=112:=by kernel_rfl
 exact⟨jY z1.str,(fz z2).1,(fz z2).2.1,(cz z3).1,by rw[<-hb];exact(cz z3).2.2,Q7 (lz z4) (by decide)⟩
def lC (os:List lA):EO:=os.flatMap lA.cells
theorem Aa (hv:Value.okWide Tryz.prog w r b0 22 v) (h:DataW.Trod enc Tryz.prog w base spare held 22 v d p):
 ∃A c os,v=.slice A os.length c/\os.length<=c/\c<=maxLen/\Rd w A (lC os)/\(∀x∈os,x.G w)/\(kS 22 d->(∀x∈os,x.S)/\os.length<=281474976710656):=
 Ac (⟨0,⟨#[]⟩,[],none,0,[],none,0,[],none,0⟩:lA) (k:=5) (F:=lA.cells) (fun _=>rfl) (by omega) Tryz.underlying22 (by kernel_rfl) (Yv (by kernel_rfl)) Bt hv h
end
end
section
open Go.RowKit Go.Lib
def CN (t:Tb) (code:Int) (w:EQ) (e:Ending) (w':EQ):Prop:=
 ∃X0 z0 X1 z1 X2 z2,e=.returned (.tuple #[.agg #[.slice X0 t.o.length z0,.slice X1 t.n.length z1,.slice X2 t.m.length z2],.int .i64 code])/\t.o.length<=z0/\t.n.length<=z1/\au (fun g=>w.heap.size<=g) w' X0 (aC t.o)/\au (fun g=>w.heap.size<=g) w' X1 (aC t.n)/\au (fun g=>w.heap.size<=g) w' X2 (aJ t.m)/\Below w.heap.size w w'
theorem sC (a b:Tb) (X0 X1 X2 Z0 Z1 Z2:EL) (x0 x1 x2 z0 z1 z2 ao an am bo bn bm:Nat) (hao:a.o.length=ao) (han:a.n.length=an) (ham:a.m.length=am) (hbo:b.o.length=bo) (hbn:b.n.length=bn) (hbm:b.m.length=bm) (l0:ao<=9223372036854775807) (l1:an<=9223372036854775807) (l2:am<=9223372036854775807) (l3:bo<=9223372036854775807) (l4:bn<=9223372036854775807) (l5:bm<=9223372036854775807) (wa:iG a.m) (wb:iG b.m) (w:EQ) (r0:Rd w X0 (aC a.o)) (r1:Rd w X1 (aC a.n)) (r2:Rd w X2 (aJ a.m)) (s0:Rd w Z0 (aC b.o)) (s1:Rd w Z1 (aC b.n)) (s2:Rd w Z2 (aJ b.m)) (hmeet:gV a b=false):
 Calls Tryz.prog 98 #[.agg #[.slice X0 ao x0,.slice X1 an x1,.slice X2 am x2],.agg #[.slice Z0 bo z0,.slice Z1 bn z1,.slice Z2 bm z2]] w fun e w'=>CN Tb.z 70 w e w':=by
 obtain⟨q1,hq1⟩:∃r,ar a=r:=⟨_,rfl⟩
 obtain⟨q2,hq2⟩:∃r,ar b=r:=⟨_,rfl⟩
 obtain⟨q3,hq3⟩:∃r,bh a.n b.o=r:=⟨_,rfl⟩
 rw[gV,hq1,hq2,hq3] at hmeet
 have S:pS w _ 96 [.slice X0 ao x0,.slice X1 an x1,.slice X2 am x2] [.slice Z0 bo z0,.slice Z1 bn z1,.slice Z2 bm z2] [.slice none 0 0,.slice none 0 0,.slice none 0 0]:=pS.new w _ _ _ _
 obtain⟨P0,P1,P2,P3,P4,P5⟩:=S.P.f3
 obtain⟨Q0,Q1,Q2,Q3,Q4,Q5⟩:=S.Q.f3
 obtain⟨N0,N1,N2,N3,N4,N5⟩:=S.N.f3
 have HAO:=J0 hao;have HAN:=J0 han;have HAM:=J0 ham
 have HBO:=J0 hbo;have HBN:=J0 hbn;have HBM:=J0 hbm
 have HR1:=J0 hq1;have HR2:=J0 hq2;have HR3:=J0 hq3
 have WA:=J0 wa;have WB:=J0 wb
 have tok1:=Yz
 clear hao han ham hbo hbn hbm hq1 hq2 hq3 wa wb
 cases q1
 ·clear hmeet
  go_enter Tryz.func98,Tryz.ntmps98
  go_wp2_with (first|(have _t:=tok1;go_at_call 72;refine(dB a X0 X1 X2 x0 x1 x2 ao an am HAO.out HAN.out HAM.out l0 l1 l2 WA.out _ (r0.below S.B) (r1.below S.B) (r2.below S.B)).mono ?_;rintro e W1 ⟨rfl,hb⟩;rw[HR1.out];replace S:=S.below hb;clear P0 P1 P2 P3 P4 P5 Q0 Q1 Q2 Q3 Q4 Q5 N0 N1 N2 N3 N4 N5;obtain⟨P0,P1,P2,P3,P4,P5⟩:=S.P.f3;obtain⟨Q0,Q1,Q2,Q3,Q4,Q5⟩:=S.Q.f3;obtain⟨N0,N1,N2,N3,N4,N5⟩:=S.N.f3;clear hb tok1;have tok2:=Yz))
  refine Xx (v:=.tuple #[.agg #[.slice none 0 0,.slice none 0 0,.slice none 0 0],.int .i64 70]) (by simp[results,Tryz.results98,go_sem, *];done) rfl ⟨none,0,none,0,none,0,rfl,J9 _,J9 _,fun h=>absurd rfl h,fun h=>absurd rfl h,fun h=>absurd rfl h,?_⟩
  have HB:=S.B
  (repeat (first|exact HB|refine J8 ?_ (by dsimp only;omega) _|refine Jk ?_ (by have:=HB.size;(try simp) <;> omega) _|apply Jv))
 cases q2
 ·clear hmeet
  go_enter Tryz.func98,Tryz.ntmps98
  go_wp2_with (first|(have _t:=tok1;go_at_call 72;refine(dB a X0 X1 X2 x0 x1 x2 ao an am HAO.out HAN.out HAM.out l0 l1 l2 WA.out _ (r0.below S.B) (r1.below S.B) (r2.below S.B)).mono ?_;rintro e W1 ⟨rfl,hb⟩;rw[HR1.out];replace S:=S.below hb;clear P0 P1 P2 P3 P4 P5 Q0 Q1 Q2 Q3 Q4 Q5 N0 N1 N2 N3 N4 N5;obtain⟨P0,P1,P2,P3,P4,P5⟩:=S.P.f3;obtain⟨Q0,Q1,Q2,Q3,Q4,Q5⟩:=S.Q.f3;obtain⟨N0,N1,N2,N3,N4,N5⟩:=S.N.f3;clear hb tok1;have tok2:=Yz)|(have _t:=tok2;go_at_call 72;refine(dB b Z0 Z1 Z2 z0 z1 z2 bo bn bm HBO.out HBN.out HBM.out l3 l4 l5 WB.out _ (s0.below S.B) (s1.below S.B) (s2.below S.B)).mono ?_;rintro e W2 ⟨rfl,hb⟩;rw[HR2.out];replace S:=S.below hb;clear P0 P1 P2 P3 P4 P5 Q0 Q1 Q2 Q3 Q4 Q5 N0 N1 N2 N3 N4 N5;obtain⟨P0,P1,P2,P3,P4,P5⟩:=S.P.f3;obtain⟨Q0,Q1,Q2,Q3,Q4,Q5⟩:=S.Q.f3;obtain⟨N0,N1,N2,N3,N4,N5⟩:=S.N.f3;clear hb tok2))
  refine Xx (v:=.tuple #[.agg #[.slice none 0 0,.slice none 0 0,.slice none 0 0],.int .i64 70]) (by simp[results,Tryz.results98,go_sem, *];done) rfl ⟨none,0,none,0,none,0,rfl,J9 _,J9 _,fun h=>absurd rfl h,fun h=>absurd rfl h,fun h=>absurd rfl h,?_⟩
  have HB:=S.B
  (repeat (first|exact HB|refine J8 ?_ (by dsimp only;omega) _|refine Jk ?_ (by have:=HB.size;(try simp) <;> omega) _|apply Jv))
 obtain rfl:q3=false:=by simpa using hmeet
 clear hmeet
 go_enter Tryz.func98,Tryz.ntmps98
 go_wp2_with (first|(have _t:=tok1;go_at_call 72;refine(dB a X0 X1 X2 x0 x1 x2 ao an am HAO.out HAN.out HAM.out l0 l1 l2 WA.out _ (r0.below S.B) (r1.below S.B) (r2.below S.B)).mono ?_;rintro e W1 ⟨rfl,hb⟩;rw[HR1.out];replace S:=S.below hb;clear P0 P1 P2 P3 P4 P5 Q0 Q1 Q2 Q3 Q4 Q5 N0 N1 N2 N3 N4 N5;obtain⟨P0,P1,P2,P3,P4,P5⟩:=S.P.f3;obtain⟨Q0,Q1,Q2,Q3,Q4,Q5⟩:=S.Q.f3;obtain⟨N0,N1,N2,N3,N4,N5⟩:=S.N.f3;clear hb tok1;have tok2:=Yz)|(have _t:=tok2;go_at_call 72;refine(dB b Z0 Z1 Z2 z0 z1 z2 bo bn bm HBO.out HBN.out HBM.out l3 l4 l5 WB.out _ (s0.below S.B) (s1.below S.B) (s2.below S.B)).mono ?_;rintro e W2 ⟨rfl,hb⟩;rw[HR2.out];replace S:=S.below hb;clear P0 P1 P2 P3 P4 P5 Q0 Q1 Q2 Q3 Q4 Q5 N0 N1 N2 N3 N4 N5;obtain⟨P0,P1,P2,P3,P4,P5⟩:=S.P.f3;obtain⟨Q0,Q1,Q2,Q3,Q4,Q5⟩:=S.Q.f3;obtain⟨N0,N1,N2,N3,N4,N5⟩:=S.N.f3;clear hb tok2)|(go_at_call 141;refine(pW X1 Z0 x1 z0 an bo a.n b.o HAN.out HBO.out _ HR3.out _ (r1.below S.B) (s0.below S.B) l1 l3).mono ?_;rintro e W3 ⟨rfl,hb⟩;replace S:=S.below hb;clear P0 P1 P2 P3 P4 P5 Q0 Q1 Q2 Q3 Q4 Q5 N0 N1 N2 N3 N4 N5;obtain⟨P0,P1,P2,P3,P4,P5⟩:=S.P.f3;obtain⟨Q0,Q1,Q2,Q3,Q4,Q5⟩:=S.Q.f3;obtain⟨N0,N1,N2,N3,N4,N5⟩:=S.N.f3;clear hb))
 refine Xx (v:=.tuple #[.agg #[.slice none 0 0,.slice none 0 0,.slice none 0 0],.int .i64 70]) (by simp[results,Tryz.results98,go_sem, *];done) rfl ⟨none,0,none,0,none,0,rfl,J9 _,J9 _,fun h=>absurd rfl h,fun h=>absurd rfl h,fun h=>absurd rfl h,?_⟩
 have HB:=S.B
 (repeat (first|exact HB|refine J8 ?_ (by dsimp only;omega) _|refine Jk ?_ (by have:=HB.size;(try simp) <;> omega) _|apply Jv))
theorem qP (a b:Tb) (X0 X1 X2 Z0 Z1 Z2:EL) (x0 x1 x2 z0 z1 z2 ao an am bo bn bm:Nat) (hao:a.o.length=ao) (han:a.n.length=an) (ham:a.m.length=am) (hbo:b.o.length=bo) (hbn:b.n.length=bn) (hbm:b.m.length=bm) (l0:ao<=9223372036854775807) (l1:an<=9223372036854775807) (l2:am<=9223372036854775807) (l3:bo<=9223372036854775807) (l4:bn<=9223372036854775807) (l5:bm<=9223372036854775807) (wa:iG a.m) (wb:iG b.m) (w:EQ) (r0:Rd w X0 (aC a.o)) (r1:Rd w X1 (aC a.n)) (r2:Rd w X2 (aJ a.m)) (s0:Rd w Z0 (aC b.o)) (s1:Rd w Z1 (aC b.n)) (s2:Rd w Z2 (aJ b.m)) (hcap:ao<=x0) (hcap1:bn<=z1) (hmeet:gV a b=true) (r:Bool) (hr:ar (bS a b)=r):
 Calls Tryz.prog 98 #[.agg #[.slice X0 ao x0,.slice X1 an x1,.slice X2 am x2],.agg #[.slice Z0 bo z0,.slice Z1 bn z1,.slice Z2 bm z2]] w fun e w'=>CN (bif r then bS a b else Tb.z) (bif r then 0 else 70) w e w':=by
 obtain⟨i0,hi,hz0,hz1,hz2⟩:=info_parts kB
 obtain⟨hq1,hq2,hq⟩:=lJ.1 hmeet
 have hq3:bh a.n b.o=true:=by simp[bh,hq]
 obtain⟨_,_,_⟩:=bN hq1
 obtain⟨_,_,_⟩:=bN hq2
 have hmn:bm=bn:=by rw[<-hbm,<-hbn];exact(ae.1 hq2).2.2.1
 have hna:an=bo:=by rw[<-han,<-hbo,hq]
 have hma:am=an:=by rw[<-ham,<-han];exact(ae.1 hq1).2.2.1
 have hat:=fun k x g hx hg=>wO (k:=k) (m:=x) (g:=g) wa hq1 hq2 hq hx hg
 have S:pS w _ 96 [.slice X0 ao x0,.slice X1 an x1,.slice X2 am x2] [.slice Z0 bo z0,.slice Z1 bn z1,.slice Z2 bm z2] [.slice none 0 0,.slice none 0 0,.slice none 0 0]:=pS.new w _ _ _ _
 obtain⟨P0,P1,P2,P3,P4,P5⟩:=S.P.f3
 obtain⟨Q0,Q1,Q2,Q3,Q4,Q5⟩:=S.Q.f3
 obtain⟨N0,N1,N2,N3,N4,N5⟩:=S.N.f3
 have HAO:=J0 hao;have HAN:=J0 han;have HAM:=J0 ham
 have HBO:=J0 hbo;have HBN:=J0 hbn;have HBM:=J0 hbm
 have HR1:=J0 hq1;have HR2:=J0 hq2;have HR3:=J0 hq3
 have WA:=J0 wa;have WB:=J0 wb;have HAT:=J0 hat;have HRR:=J0 hr
 have tok1:=Yz
 have hb16:bm<=16:=by omega
 have ha16:ao<=16:=by omega
 have hao4:ao<=4398046511104:=by omega
 have hbn4:bn<=4398046511104:=by omega
 have HMN:=J0 hmn;have HNA:=J0 hna;have HMA:=J0 hma
 clear hao han ham hbo hbn hbm hq1 hq2 hq3 wa wb hat hq hr hmeet hmn hna hma
 go_enter Tryz.func98,Tryz.ntmps98
 go_upto_region 3 with (first|(have _t:=tok1;go_at_call 72;refine(dB a X0 X1 X2 x0 x1 x2 ao an am HAO.out HAN.out HAM.out l0 l1 l2 WA.out _ (r0.below S.B) (r1.below S.B) (r2.below S.B)).mono ?_;rintro e W1 ⟨rfl,hb⟩;rw[HR1.out];replace S:=S.below hb;clear P0 P1 P2 P3 P4 P5 Q0 Q1 Q2 Q3 Q4 Q5 N0 N1 N2 N3 N4 N5;obtain⟨P0,P1,P2,P3,P4,P5⟩:=S.P.f3;obtain⟨Q0,Q1,Q2,Q3,Q4,Q5⟩:=S.Q.f3;obtain⟨N0,N1,N2,N3,N4,N5⟩:=S.N.f3;clear hb tok1;have tok2:=Yz)|(have _t:=tok2;go_at_call 72;refine(dB b Z0 Z1 Z2 z0 z1 z2 bo bn bm HBO.out HBN.out HBM.out l3 l4 l5 WB.out _ (s0.below S.B) (s1.below S.B) (s2.below S.B)).mono ?_;rintro e W2 ⟨rfl,hb⟩;rw[HR2.out];replace S:=S.below hb;clear P0 P1 P2 P3 P4 P5 Q0 Q1 Q2 Q3 Q4 Q5 N0 N1 N2 N3 N4 N5;obtain⟨P0,P1,P2,P3,P4,P5⟩:=S.P.f3;obtain⟨Q0,Q1,Q2,Q3,Q4,Q5⟩:=S.Q.f3;obtain⟨N0,N1,N2,N3,N4,N5⟩:=S.N.f3;clear hb tok2)|(go_at_call 141;refine(pW X1 Z0 x1 z0 an bo a.n b.o HAN.out HBO.out _ HR3.out _ (r1.below S.B) (s0.below S.B) l1 l3).mono ?_;rintro e W3 ⟨rfl,hb⟩;replace S:=S.below hb;clear P0 P1 P2 P3 P4 P5 Q0 Q1 Q2 Q3 Q4 Q5 N0 N1 N2 N3 N4 N5;obtain⟨P0,P1,P2,P3,P4,P5⟩:=S.P.f3;obtain⟨Q0,Q1,Q2,Q3,Q4,Q5⟩:=S.Q.f3;obtain⟨N0,N1,N2,N3,N4,N5⟩:=S.N.f3;clear hb))
 have hzS:=S.N.lt
 have r0':=r0.below S.B
 have s1':=s1.below S.B
 go_cut [6] (fun s6 wx=>∃p B d B2 d2,s6=.pointer (some ⟨p,0,none⟩)/\aD wx p [.slice B ao d,.slice B2 bn d2,.slice none 0 0] 96/\ao<=d/\bn<=d2/\au (fun g=>g≠p/\w.heap.size+2<g) wx B (aC a.o)/\au (fun g=>g≠p/\w.heap.size+2<g) wx B2 (aC b.n)/\Below W3.heap.size W3 wx/\W3.heap.size<=p)
 case first=>
  go_region_held3 (fun W=>W.cell? ⟨w.heap.size,0,none⟩=some (.slice X0 ao x0)/\W.cell? ⟨w.heap.size+1,1,none⟩=some (.slice Z1 bn z1)/\Below W3.heap.size W3 W) ((refine S.two ?_;repeat (first|assumption|exact Jy _ _|refine J8 ?_ (by dsimp only;first|exact J9 _|omega) _|refine Jk ?_ (by first|exact J9 _|omega) _|apply Jv)))
   (first
     |(go_at_call 35;obtain⟨_,_,HBx⟩:=‹_/\_/\Below W3.heap.size W3 _›;(with_reducible refine(fx X0 x0 ao a.o HAO.out _ (r0'.below HBx) hao4 hcap).mono ?_);rintro e Wa ⟨B,d,rfl,hd,own,hb1⟩;have q1:=vO own;have HBa:=aB HBx hb1;have hza:=HBa.size;have hza':=hb1.size;(first|(have PB:=aD.below PB hb1)|(have PB:=aD.below (aD.new _ [.slice none 0 0,.slice none 0 0,.slice none 0 0] 96) hb1)|(have PB:=aD.newB (cs:=[.slice none 0 0,.slice none 0 0,.slice none 0 0]) hb1)|skip);(first|(obtain⟨p0,p1,p2,p3,p4,p5⟩:=PB.f3)|skip))
     |(go_at_call 35;obtain⟨_,_,HBx⟩:=‹_/\_/\Below W3.heap.size W3 _›;(with_reducible refine(fx Z1 z1 bn b.n HBN.out _ (s1'.below HBx) hbn4 hcap1).mono ?_);rintro e Wb ⟨B2,d2,rfl,hd2,own,hb2⟩;have q2:=vO own;have HBb:=aB HBx hb2;have hzb:=HBb.size;have hzb':=hb2.size;(first|(have PB:=aD.below PB hb2)|(have PB:=aD.below (aD.new _ [.slice none 0 0,.slice none 0 0,.slice none 0 0] 96) hb2)|(have PB:=aD.newB (cs:=[.slice none 0 0,.slice none 0 0,.slice none 0 0]) hb2)|skip);(first|(obtain⟨p0,p1,p2,p3,p4,p5⟩:=PB.f3)|skip)))
  all_goals (go_wp2_with fail;go_meet;refine⟨_,B,d,B2,d2,rfl,?_,hd,hd2,?_,?_,?_,?_⟩)
  all_goals first|(have T1:=au.up q1 hb2)|(have T1:=au.up (au.up q1 (aA (.cells #[.slice none 0 0,.slice none 0 0,.slice none 0 0] 96))) hb2)
  all_goals first
   |(show aD _ _ _ _;first
      |(have:=aI (aI (aI PB 0 (.slice B ao d)) 1 (.slice B2 bn d2)) 2 (.slice none 0 0);exact this)
      |(exact aD.new _ _ _))
   |exact(T1.set3 _ (fun g hg=>by simp at hg |-;omega) 0 1 2 _ _ _).mono (fun g hg=>by simp at hg |-;omega)
   |exact(q2.set3 _ (fun g hg=>by simp at hg |-;omega) 0 1 2 _ _ _).mono (fun g hg=>by simp at hg |-;omega)
   |exact(q2.set3 _ (fun g hg=>by simp at hg hza' |-;omega) 0 1 2 _ _ _).mono (fun g hg=>by simp at hg hza' |-;omega)
   |exact(au.up T1 (aA _)).mono (fun g hg=>by simp at hg |-;omega)
   |exact(au.up q2 (aA _)).mono (fun g hg=>by simp at hg |-;omega)
   |exact J9 _
   |(dsimp only;first|exact J9 _|(simp;done)|omega)
   |(repeat (first|assumption|exact Jy _ _|refine J8 ?_ (by dsimp only;first|exact J9 _|omega) _|refine Jk ?_ (by first|exact J9 _|omega) _|apply Jv))
   |skip
 case rest=>
  obtain⟨p,B,d,B2,d2,rfl,PB,hd,hd2,R1,R2,hbc,hp⟩:=hcut
  replace S:=S.below hbc
  clear r0' s1' hbc P0 P1 P2 P3 P4 P5 Q0 Q1 Q2 Q3 Q4 Q5 N0 N1 N2 N3 N4 N5
  have hp2:w.heap.size+2<p:=by omega
  clear hp hzS
  clear W1 W2 W3
  rename EQ=>Wc
  have hpz:=PB.lt
  replace R1:=R1.lt
  replace R2:=R2.lt
  obtain⟨Q0,Q1,Q2,Q3,Q4,Q5⟩:=S.Q.f3
  have HP2:=J0 hp2
  have HPZ:=J0 hpz
  clear hp2 hpz
  have PB0:=PB
  have S0:=S
  have R10:=R1
  have R20:=R2
  clear PB S R1 R2
  go_wp2
  go_loopw [7,8,9,37] (fun _ _ _ i wr=>∃(k:Nat) (v:ER),k<=bm/\i=.int .i64 k/\wr.ownsRow Wc.heap.size 137 4 v k (aJ (eD a b k))/\aD wr p [.slice B ao d,.slice B2 bn d2,v] 96/\Wc.heap.size<=wr.heap.size/\pS w wr 96 [.slice X0 ao x0,.slice X1 an x1,.slice X2 am x2] [.slice Z0 bo z0,.slice Z1 bn z1,.slice Z2 bm z2] [.slice none 0 0,.slice none 0 0,.slice none 0 0]/\au (fun g=>(g≠p/\w.heap.size+2<g)/\g<Wc.heap.size) wr B (aC a.o)/\au (fun g=>(g≠p/\w.heap.size+2<g)/\g<Wc.heap.size) wr B2 (aC b.n)) (fun _ _ _ i _=>bm - (intOf i).toNat)
  case atStart=>exact⟨0,_,by omega,rfl,ai _ _ _ _,PB0,J9 _,S0,R10,R20⟩
  case round=>
   obtain⟨k,v,hk,rfl,hown,PB,hwcr,S,R1,R2⟩:=hrel
   clear S0 PB0 R10 R20 Q0 Q1 Q2 Q3 Q4 Q5
   by_cases hlt:k<bm
   ·obtain⟨x,hx⟩:∃x,b.m[k]?=some x:=⟨_,J4 (by rw[HBM.out];exact hlt)⟩
    obtain⟨g,hg⟩:∃y,b.n[k]?=some y:=⟨_,J4 (by rw[HBN.out,<-HMN.out];exact hlt)⟩
    obtain⟨y,hy⟩:∃y,eA a b k=y:=⟨_,rfl⟩
    have hw:=HAT.out k x g hx hg
    have HK:=J0 (nN a b hy)
    rw[hy] at hw
    have HWY:=J0 hw
    have HX:=J0 hx
    have HG:=J0 hg
    have hi0:(0:Int)<=(k:Int):=by omega
    have hi1:(k:Int)<(bm:Int):=by omega
    have hi2:(k:Int)<(bn:Int):=by have:=HMN.out;omega
    have RM:=s2.below S.B
    obtain⟨ad,ea,c0,c1,c2,c3⟩:=RM.mv hx
    subst ea
    clear RM hw hx hg hy
    obtain⟨Q0,Q1,Q2,Q3,Q4,Q5⟩:=S.Q.f3
    go_upto_if 47 with fail
    have MB:=aD.new wr [.int .i64 x.f,.int .i64 x.d.k,.int .u64 x.d.b,.string x.d.t] 137
    have nb:=aA (w:=wr) (.cells #[.int .i64 x.f,.int .i64 x.d.k,.int .u64 x.d.b,.string x.d.t] 137)
    have hsz:wr.heap.size<(wr.alloc (.cells #[.int .i64 x.f,.int .i64 x.d.k,.int .u64 x.d.b,.string x.d.t] 137)).heap.size:=by simp
    generalize wr.alloc (.cells #[.int .i64 x.f,.int .i64 x.d.k,.int .u64 x.d.b,.string x.d.t] 137)=W4 at *
    clear c0 c1 c2 c3 Q0 Q1 Q2 Q3 Q4 Q5
    have S4:=S.below nb
    obtain⟨m0,m1,m2,m3,z0',z1',z2',z3'⟩:=cV MB
    go_cut [9] (fun _ wx=>dY wx wr.heap.size y/\Below wr.heap.size wr wx/\wr.heap.size<wx.heap.size)
    case first=>
     rcases HWY.out with ⟨hxf,e,_⟩|⟨hxf,n,f,hn,hf1,hf2,h3⟩
     ·have e1:decide ((0:Int)<=x.f)=false:=by simp;omega
      go_wp2_with fail
      go_meet
      exact⟨by rw[e];exact dY.of MB,nb,hsz⟩
     ·have e1:decide ((0:Int)<=x.f)=true:=by simpa using hxf
      have hxl:x.f<(bo:Int):=by have:=(J6.1 hf2).1;have:=HBO.out;omega
      have hxm:x.f<(am:Int):=by have:=(J6.1 hn).1;have:=HAM.out;omega
      obtain⟨od,eo,f0,f1,f2⟩:=(s0.below S4.B).fld hf2
      subst eo
      obtain⟨Q0,Q1,Q2,Q3,Q4,Q5⟩:=S4.Q.f3
      obtain⟨b0,b1⟩:=WA.out n (J7 hn)
      have HN:=J0 hn
      clear hn hf1 hf2
      have nb5:=aA (w:=W4) (.cells #[.string f.s,.int .i64 f.k,.int .i64 f.l] 68)
      have FB:=aD.new W4 [.string f.s,.int .i64 f.k,.int .i64 f.l] 68
      go_upto_region 10 with fail
      generalize W4.alloc (.cells #[.string f.s,.int .i64 f.k,.int .i64 f.l] 68)=W5 at *
      clear f0 f1 f2 m0 m1 m2 m3 z0' z1' z2' z3' Q0 Q1 Q2 Q3 Q4 Q5
      have S5:=S4.below nb5
      have M5:=MB.below nb5
      obtain⟨m0,m1,m2,m3,z0',z1',z2',z3'⟩:=cV M5
      obtain⟨nd,en,n0,n1,n2,n3⟩:=(r2.below S5.B).mv HN.out
      subst en
      obtain⟨P0,P1,P2,P3,P4,P5⟩:=S5.P.f3
      have q0:=S.N.lt
      have qf:=FB.lt
      have M6:aD _ wr.heap.size [.int .i64 n.f,.int .i64 n.d.k,.int .u64 n.d.b,.string n.d.t] 137:=aI (aI (aI (aI M5 0 (.int .i64 n.f)) 1 (.int .i64 n.d.k)) 2 (.int .u64 n.d.b)) 3 (.string n.d.t)
      have hb6:=((((aB nb nb5).setCell (p:=⟨wr.heap.size,0,none⟩) (J9 _) (.int .i64 n.f)).setCell (p:=⟨wr.heap.size,1,none⟩) (J9 _) (.int .i64 n.d.k)).setCell (p:=⟨wr.heap.size,2,none⟩) (J9 _) (.int .u64 n.d.b)).setCell (p:=⟨wr.heap.size,3,none⟩) (J9 _) (.string n.d.t)
      have F6:=aD.far (aD.far (aD.far (aD.far FB (p:=⟨wr.heap.size,0,none⟩) (by show wr.heap.size≠_;omega) (.int .i64 n.f)) (p:=⟨wr.heap.size,1,none⟩) (by show wr.heap.size≠_;omega) (.int .i64 n.d.k)) (p:=⟨wr.heap.size,2,none⟩) (by show wr.heap.size≠_;omega) (.int .u64 n.d.b)) (p:=⟨wr.heap.size,3,none⟩) (by show wr.heap.size≠_;omega) (.string n.d.t)
      go_upto_region 11 with fail
      generalize (((W5.setCell ⟨wr.heap.size,0,none⟩ (.int .i64 n.f)).setCell ⟨wr.heap.size,1,none⟩ (.int .i64 n.d.k)).setCell ⟨wr.heap.size,2,none⟩ (.int .u64 n.d.b)).setCell ⟨wr.heap.size,3,none⟩ (.string n.d.t)=W6 at *
      clear n0 n1 n2 n3 m0 m1 m2 m3 z0' z1' z2' z3' P0 P1 P2 P3 P4 P5 M5 S5 nb5
      obtain⟨m0,m1,m2,m3,z0',z1',z2',z3'⟩:=cV M6
      obtain⟨f0,f1,f2⟩:=pU F6
      have S6:=S.below hb6
      rcases h3 with ⟨hnf,e,_⟩|⟨hnf,e,_⟩
      ·have e2:decide (n.f<(0:Int))=true:=by simpa using hnf
       obtain⟨gd,eg,g0,g1,g2⟩:=(s1.below S6.B).fld HG.out
       subst eg
       obtain⟨Q0,Q1,Q2,Q3,Q4,Q5⟩:=S6.Q.f3
       obtain⟨c,hc⟩:∃c,dH n.d f g=c:=⟨_,rfl⟩
       have hv:=nE n.d f g
       rw[hc] at e hv
       have HV:=J0 hv
       have hz6:=M6.lt
       clear hv hc
       go_upto_region 12 with fail
       go_region_with (go_at_call 74;refine(vz n.d.k n.d.b n.d.t f.s g.s f.k f.l g.k g.l b0 b1 _ _ HV.out rfl _).mono ?_;rintro e' W7 ⟨rfl,hb⟩;have M7:=aD.below M6 (Below.undrewS hb);have hb7:=aB hb6 (Below.undrewS hb);obtain⟨m4,m5,m6,m7,z4',z5',z6',z7'⟩:=cV M7)
       all_goals
        have M8:aD _ wr.heap.size [.int .i64 n.f,.int .i64 c.k,.int .u64 c.b,.string c.t] 137:=aI (aI (aI M7 1 (.int .i64 c.k)) 2 (.int .u64 c.b)) 3 (.string c.t)
        have hb8:=((hb7.setCell (p:=⟨wr.heap.size,1,none⟩) (J9 _) (.int .i64 c.k)).setCell (p:=⟨wr.heap.size,2,none⟩) (J9 _) (.int .u64 c.b)).setCell (p:=⟨wr.heap.size,3,none⟩) (J9 _) (.string c.t)
        go_wp2_with fail
        go_meet
        exact⟨by rw[e];exact dY.of (m:=⟨n.f,c⟩) M8,hb8,M8.lt⟩
      ·have e2:decide (n.f<(0:Int))=false:=by simp;omega
       go_wp2_with fail
       go_meet
       exact⟨by rw[e];exact dY.of M6,hb6,M6.lt⟩
    case rest=>
     obtain⟨MY,hb9,hz9⟩:=hcut
     clear m0 m1 m2 m3 z0' z1' z2' z3' MB nb hsz S4
     rename EQ=>W9
     have hown9:=aG hown hb9
     have P9:=PB.below hb9
     have hpz:=HPZ.out
     have hp2:=HP2.out
     have hz29:=hb9.size
     obtain⟨m0,m1,m2,m3⟩:=MY
     obtain⟨k0,k1,k2,f0,f1,f2⟩:=P9.f3
     go_wp2_with (at_builtin;refine Y5 _ rfl _ _ 94 rfl Wc.heap.size 137 i0 (.agg #[.int .i64 0,.int .i64 0,.int .u64 0,.string ⟨#[]⟩]) 4 40 Tryz.underlying94 hi hz0 hz1 hz2 rfl (by decide) _ _ _ rfl (hown9.alloc _) ⟨W9.heap.size,0,none⟩ 1 1 [.int .i64 y.f,.int .i64 y.d.k,.int .u64 y.d.b,.string y.d.t] rfl rfl ?c1 ?c2 ?c3 ?c4 ?c5 ?_)
     case c1=>exact eR _ _ _ _ _ _
     case c2=>intro u hu;simp at hu;rcases hu with rfl|rfl|rfl|rfl <;> rfl
     case c3=>simp only[maxLen];omega
     case c4=>omega
     case c5=>simp <;> omega
     intro v' w3 hown' hgrow _
     have BG:Below Wc.heap.size W9 w3:=((Jy _ _).alloc (by omega) (.cells #[.int .i64 y.f,.int .i64 y.d.k,.int .u64 y.d.b,.string y.d.t] 137)).grown hgrow (by simp <;> omega) (fun q hq=>aF hown9 q hq)
     have BG2:Below Wc.heap.size wr w3:=(hb9.mono hwcr).trans BG
     have O3:aD w3 p [.slice B ao d,.slice B2 bn d2,v] 96:=(BG2.block _ hpz).trans PB
     have hown3:w3.ownsRow Wc.heap.size 137 4 v' (k+1) (aJ (eD a b (k+1))):=ag hown' (by simp) (by rw[HK.out])
     have hz3:=BG.size
     obtain⟨B',c',rfl,_,_,_⟩:=aL hown3
     clear hown' hgrow hown k0 k1 k2 f0 f1 f2 m0 m1 m2 m3
     obtain⟨k0,k1,k2,f0,f1,f2⟩:=O3.f3
     go_wp2
     go_roundw
     case rel=>exact⟨k+1,_,by omega,by go_num,Y3 hown3 (by show p<_;omega) _,aI O3 2 _,by show _<=(World.setCell _ _ _).heap.size;simp;omega,S.step (by omega) BG2 hp2 2 _,R1.keep (fun g hg=>(J5 _ _ _ _ (by exact hg.1.1)).trans (BG2.block g hg.2)),R2.keep (fun g hg=>(J5 _ _ _ _ (by exact hg.1.1)).trans (BG2.block g hg.2))⟩
     case measure=>simp[intOf];omega
   ·obtain rfl:k=bm:=by omega
    have hpz:=HPZ.out
    have hp2:=HP2.out
    obtain⟨C,cc,rfl,_,_,_⟩:=aL hown
    have RC:=dj (P:=fun g=>w.heap.size+2<g) hown (fun g hg=>by have:=aF hown g hg;omega)
    have hc1:(bS a b).o.length=ao:=HAO.out
    have hc2:(bS a b).n.length=bn:=HBN.out
    have hc3:(bS a b).m.length=k:=by show(eD a b b.m.length).length=k;rw[iJ];exact HBM.out
    have hmw:iG (bS a b).m:=wL WA.out WB.out _
    have hR1:Rd wr B (aC (bS a b).o):=R1.rd
    have hR2:Rd wr B2 (aC (bS a b).n):=R2.rd
    have hR3:Rd wr C (aJ (bS a b).m):=by show Rd wr C (aJ (eD a b b.m.length));rw[HBM.out];exact RC.rd
    have C1:=J0 hc1;have C2:=J0 hc2;have C3:=J0 hc3;have CW:=J0 hmw
    clear hc1 hc2 hc3 hmw hown
    obtain⟨k0,k1,k2,f0,f1,f2⟩:=PB.f3
    obtain⟨Q0,Q1,Q2,Q3,Q4,Q5⟩:=S.Q.f3
    cases r
    ·go_wp2_with (go_at_call 72;refine(dB (bS a b) B B2 C d d2 cc ao bn k C1.out C2.out C3.out (by omega) (by omega) (by omega) CW.out _ hR1 hR2 hR3).mono ?_;rintro e W8 ⟨rfl,hb⟩;rw[HRR.out];replace S:=S.below hb;replace PB:=PB.below hb;replace R1:=R1.up hb;replace R2:=R2.up hb;replace RC:=RC.up hb;clear hb hR1 hR2 hR3 k0 k1 k2 f0 f1 f2 Q0 Q1 Q2 Q3 Q4 Q5;obtain⟨k0,k1,k2,f0,f1,f2⟩:=PB.f3;obtain⟨N0,N1,N2,N3,N4,N5⟩:=S.N.f3)
     refine Xx (v:=.tuple #[.agg #[.slice none 0 0,.slice none 0 0,.slice none 0 0],.int .i64 70]) (by simp[results,Tryz.results98,go_sem, *];done) rfl ⟨none,0,none,0,none,0,rfl,J9 _,J9 _,fun h=>absurd rfl h,fun h=>absurd rfl h,fun h=>absurd rfl h,?_⟩
     have HB:=S.B
     (repeat (first|exact HB|refine J8 ?_ (by dsimp only;omega) _|refine Jk ?_ (by have:=HB.size;(try simp) <;> omega) _|apply Jv))
    ·go_wp2_with (go_at_call 72;refine(dB (bS a b) B B2 C d d2 cc ao bn k C1.out C2.out C3.out (by omega) (by omega) (by omega) CW.out _ hR1 hR2 hR3).mono ?_;rintro e W8 ⟨rfl,hb⟩;rw[HRR.out];replace S:=S.below hb;replace PB:=PB.below hb;replace R1:=R1.up hb;replace R2:=R2.up hb;replace RC:=RC.up hb;clear hb hR1 hR2 hR3 k0 k1 k2 f0 f1 f2 Q0 Q1 Q2 Q3 Q4 Q5;obtain⟨k0,k1,k2,f0,f1,f2⟩:=PB.f3;obtain⟨N0,N1,N2,N3,N4,N5⟩:=S.N.f3)
     refine Xx (v:=.tuple #[.agg #[.slice B ao d,.slice B2 bn d2,.slice C k cc],.int .i64 0]) (by simp[results,Tryz.results98,go_sem, *];done) rfl ?_
     show CN (bS a b) 0 w _ _
     have hc1:=C1.out
     have hc2:=C2.out
     have hc3:=C3.out
     refine⟨B,d,B2,d2,C,cc,by rw[hc1,hc2,hc3],by rw[hc1];exact hd,by rw[hc2];exact hd2,?_,?_,?_,?_⟩
     ·exact(R1.set3 _ (fun g hg=>by have h:=hg.1.2;show g≠w.heap.size+2;omega) 0 1 2 _ _ _).mono (fun g hg=>by have h:=hg.1.2;show w.heap.size<=g;omega)
     ·exact(R2.set3 _ (fun g hg=>by have h:=hg.1.2;show g≠w.heap.size+2;omega) 0 1 2 _ _ _).mono (fun g hg=>by have h:=hg.1.2;show w.heap.size<=g;omega)
     ·have:=(RC.set3 _ (fun g hg=>by have h:=hg;show g≠w.heap.size+2;omega) 0 1 2 (.slice B ao d) (.slice B2 bn d2) (.slice C k cc)).mono (Q:=fun g=>w.heap.size<=g) (fun g hg=>by have h:w.heap.size+2<g:=hg;show w.heap.size<=g;omega)
      show au _ _ C (aJ (eD a b b.m.length))
      rw[HBM.out]
      exact this
     ·have HB:=S.B
      (repeat (first|exact HB|refine J8 ?_ (by dsimp only;omega) _|refine Jk ?_ (by have:=HB.size;(try simp) <;> omega) _|apply Jv))
theorem ub (a b:Tb) (X0 X1 X2 Z0 Z1 Z2:EL) (x0 x1 x2 z0 z1 z2 ao an am bo bn bm:Nat) (hao:a.o.length=ao) (han:a.n.length=an) (ham:a.m.length=am) (hbo:b.o.length=bo) (hbn:b.n.length=bn) (hbm:b.m.length=bm) (l0:ao<=9223372036854775807) (l1:an<=9223372036854775807) (l2:am<=9223372036854775807) (l3:bo<=9223372036854775807) (l4:bn<=9223372036854775807) (l5:bm<=9223372036854775807) (wa:iG a.m) (wb:iG b.m) (w:EQ) (r0:Rd w X0 (aC a.o)) (r1:Rd w X1 (aC a.n)) (r2:Rd w X2 (aJ a.m)) (s0:Rd w Z0 (aC b.o)) (s1:Rd w Z1 (aC b.n)) (s2:Rd w Z2 (aJ b.m)) (hcap:ao<=x0) (hcap1:bn<=z1):
 Calls Tryz.prog 98 #[.agg #[.slice X0 ao x0,.slice X1 an x1,.slice X2 am x2],.agg #[.slice Z0 bo z0,.slice Z1 bn z1,.slice Z2 bm z2]] w fun e w'=>CN (bv a b) (az a b) w e w':=by
 cases hm:gV a b
 ·obtain⟨e1,e2⟩:=wg hm
  rw[e1,e2]
  exact sC a b X0 X1 X2 Z0 Z1 Z2 x0 x1 x2 z0 z1 z2 ao an am bo bn bm hao han ham hbo hbn hbm l0 l1 l2 l3 l4 l5 wa wb w r0 r1 r2 s0 s1 s2 hm
 ·have h:=qP a b X0 X1 X2 Z0 Z1 Z2 x0 x1 x2 z0 z1 z2 ao an am bo bn bm hao han ham hbo hbn hbm l0 l1 l2 l3 l4 l5 wa wb w r0 r1 r2 s0 s1 s2 hcap hcap1 hm _ rfl
  cases hr:ar (bS a b)
  ·rw[hr] at h
   have e1:az a b=70:=by rw[az,Xy (by rw[hr];rintro ⟨_,h⟩;cases h)]
   rw[bv,e1,Xy (by decide)]
   exact h
  ·rw[hr] at h
   have e1:az a b=0:=by rw[az,Xz ⟨hm,hr⟩]
   rw[bv,e1,Xz rfl]
   exact h
theorem au.and {P Q:Nat->Prop} {w:EQ} {A:EL} {cs:EO} (h:au P w A cs) (k:au Q w A cs):au (fun g=>P g/\Q g) w A cs:=fun hn=>by
 obtain⟨ad,e,hp,hc⟩:=h hn
 obtain⟨ad',e',hq,_⟩:=k hn
 rw[e] at e';cases e'
 exact⟨ad,e,⟨hp,hq⟩,hc⟩
theorem RdFP.set3 {P:Nat->Prop} {w:EQ} {A:EL} {l:List Fd} {b:Nat} {P0 P1 P2:EL} {n0 n1 n2 c0 c1 c2:Nat} {T:ES} (h:au P w A (aC l)) (hb:aD w b [.slice P0 n0 c0,.slice P1 n1 c1,.slice P2 n2 c2] T) (x y z:ER):au P (((w.setCell ⟨b,0,none⟩ x).setCell ⟨b,1,none⟩ y).setCell ⟨b,2,none⟩ z) A (aC l):=
 ((h.and (h.rd.ne hb (fun u hu=>by obtain⟨s,rfl⟩:=lq hu;simp))).set3 b (fun g hg=>hg.2) 0 1 2 x y z).mono (fun g hg=>hg.1)
theorem RdMP.set3 {P:Nat->Prop} {w:EQ} {A:EL} {l:List Mv} {b:Nat} {P0 P1 P2:EL} {n0 n1 n2 c0 c1 c2:Nat} {T:ES} (h:au P w A (aJ l)) (hb:aD w b [.slice P0 n0 c0,.slice P1 n1 c1,.slice P2 n2 c2] T) (x y z:ER):au P (((w.setCell ⟨b,0,none⟩ x).setCell ⟨b,1,none⟩ y).setCell ⟨b,2,none⟩ z) A (aJ l):=
 ((h.and (h.rd.ne hb (fun u hu=>by obtain⟨s,rfl⟩:=lv hu;simp))).set3 b (fun g hg=>hg.2) 0 1 2 x y z).mono (fun g hg=>hg.1)
theorem AV (l:List Fd) (m:Nat) (hm:l.length=m) (hl:m<=9223372036854775807) (A:EL) (cA:Nat) (hcA:m<=cA) (K:EL) (cK nc:Nat) (cs:List (Ch×ER)) (hnc:cs.length=nc) (hk:nc<=9223372036854775807) (hn:mU l) (hw:∀p∈cs,wA p) (w:EQ) (hA:Rd w A (aC l)) (hK:Rd w K (bV cs)) (ho:∀p∈cs,ou w p) (hr:aK l=false):
 Calls Tryz.prog 63 #[.slice A m cA,.slice K nc cK] w fun e w'=>CN Tb.z 60 w e w':=by
 have nb:=aA (w:=w) (.cells #[.slice none 0 0,.slice none 0 0,.slice none 0 0] 96)
 have R:=aD.new w [.slice none 0 0,.slice none 0 0,.slice none 0 0] 96
 have HB:=nb
 have hA1:=hA.below nb
 have HM:=J0 hm;have HR:=J0 hr
 clear nb hm hr hw ho hK hnc
 go_enter Tryz.func63,Tryz.ntmps63
 go_wp2_with (go_at_call 62;refine(bY A cA m l HM.out false HR.out _ hA1 hl).mono ?_;rintro e W1 ⟨rfl,hb⟩;replace HB:=HB.trans (hb.mono HB.size);replace R:=R.below hb;obtain⟨q0,q1,q2,q3,q4,q5⟩:=R.f3;clear hb)
 refine Xx (v:=.tuple #[.agg #[.slice none 0 0,.slice none 0 0,.slice none 0 0],.int .i64 60]) (by simp[results,Tryz.results63,go_sem, *];done) rfl ⟨none,0,none,0,none,0,rfl,J9 _,J9 _,fun h=>absurd rfl h,fun h=>absurd rfl h,fun h=>absurd rfl h,?_⟩
 (repeat (first|exact HB|refine J8 ?_ (by dsimp only;omega) _|refine Jk ?_ (by have:=HB.size;(try simp) <;> omega) _|apply Jv))
theorem yj (l:List Fd) (m:Nat) (hm:l.length=m) (hl:m<=9223372036854775807) (A:EL) (cA:Nat) (hcA:m<=cA) (K:EL) (cK nc:Nat) (cs:List (Ch×ER)) (hnc:cs.length=nc) (hk:nc<=9223372036854775807) (hn:mU l) (hw:∀p∈cs,wA p) (w:EQ) (hA:Rd w A (aC l)) (hK:Rd w K (bV cs)) (ho:∀p∈cs,ou w p) (hr:aK l=true) (T:Tb) (code:Int) (hT:pH (bA l) (cs.map (·.1))=(T,code)):
 Calls Tryz.prog 63 #[.slice A m cA,.slice K nc cK] w fun e w'=>CN T code w e w':=by
 have hk0:=bx hr
 have tk:=iH.keep hr hn
 have nb:=aA (w:=w) (.cells #[.slice none 0 0,.slice none 0 0,.slice none 0 0] 96)
 have R:=aD.new w [.slice none 0 0,.slice none 0 0,.slice none 0 0] 96
 have HB:=nb
 have hA1:=hA.below nb
 have HM:=J0 hm;have HR:=J0 hr;have HNC:=J0 hnc;have HT:=J0 hT;have HK0:=J0 hk0;have TK:=J0 tk;have HW:=J0 hw;have HO:=J0 ho
 clear nb hm hr hnc hT hk0 tk hw ho hn
 go_enter Tryz.func63,Tryz.ntmps63
 go_upto_region 4 with (first
  |(go_at_call 62;refine(bY A cA m l HM.out true HR.out _ hA1 hl).mono ?_;rintro e W1 ⟨rfl,hb⟩;replace HB:=HB.trans (hb.mono HB.size);replace R:=R.below hb;replace hA1:=hA1.below hb;have hwW1:=HB.size;clear hb)
  |(go_at_call 45;refine(jO A cA m l HM.out HR.out _ hA1 hl hcA).mono ?_;rintro e W2 ⟨B,d,v2,v3,b1,b2,rfl,hd,hb1,hb12,hb2,R1,hBl,own2,lt2,own3,hbS⟩;obtain⟨X1,z1,rfl,u1,u2,r1⟩:=aL own2;obtain⟨X2,z2,rfl,u4,u5,r2⟩:=aL own3;have hz:=hbS.size;replace HB:=HB.trans (hbS.mono HB.size);replace R:=R.below hbS))
 have TB:=aD.new W2 [.slice B m d,.slice X1 m z1,.slice X2 m z2] 96
 have nb2:=aA (w:=W2) (.cells #[.slice B m d,.slice X1 m z1,.slice X2 m z2] 96)
 have RR:=R.below nb2
 have HB0:=HB.trans (nb2.mono HB.size)
 have hw1:w.heap.size<=W1.heap.size:=hwW1
 have r0:au (fun g=>w.heap.size<=g) _ B (aC l):=(au.mk R1.rd (fun ad e=>by show w.heap.size<=ad.block;have:=(hBl ad e).1;omega)).up nb2
 replace r1:au (fun g=>w.heap.size<=g) _ X1 (aC l):=(dj own2 (fun g hg=>by show w.heap.size<=g;have:=aF own2 g hg;omega)).up nb2
 replace r2:au (fun g=>w.heap.size<=g) _ X2 (aJ (kM m)):=(dj own3 (fun g hg=>by show w.heap.size<=g;have:=aF own3 g hg;omega)).up nb2
 have hq0:=R.lt
 generalize W2.alloc (.cells #[.slice B m d,.slice X1 m z1,.slice X2 m z2] 96)=W3 at *
 obtain⟨q,hq⟩:∃q,W2.heap.size=q:=⟨_,rfl⟩
 rw[hq] at TB hq0 |-
 have HQ:=J0 hq0
 clear hq hq0 nb2 R HB R1 hBl own2 lt2 own3 hbS hb1 hb12 hb2 hz u2 u4 u5 hA1
 clear hw1 hwW1
 clear W2 W1 b1 b2
 go_wp2
 go_loopw [8,9,10,19] (fun _ _ _ i wr=>∃(j:Nat) (t:Tb) (no nn nm:Nat) (Y0:EL) (y0:Nat) (Y1:EL) (y1:Nat) (Y2:EL) (y2:Nat),j<=nc/\i=.int .i64 j/\Hid (t.o.length=no)/\Hid (t.n.length=nn)/\Hid (t.m.length=nm)/\aD wr q [.slice Y0 no y0,.slice Y1 nn y1,.slice Y2 nm y2] 96/\no<=y0/\nn<=y1/\au (fun g=>w.heap.size<=g) wr Y0 (aC t.o)/\au (fun g=>w.heap.size<=g) wr Y1 (aC t.n)/\au (fun g=>w.heap.size<=g) wr Y2 (aJ t.m)/\Hid (iH t)/\Hid (pH t ((cs.drop j).map (·.1))=(T,code))/\aD wr w.heap.size [.slice none 0 0,.slice none 0 0,.slice none 0 0] 96/\Below w.heap.size w wr) (fun _ _ _ i _=>nc - (intOf i).toNat)
 case atStart=>exact⟨0,bA l,m,m,m,_,_,_,_,_,_,by omega,rfl,J0 (by rw[HK0.out];exact HM.out),J0 (by rw[HK0.out];exact HM.out),J0 (by rw[HK0.out];show(kM l.length).length=m;rw[aP];exact HM.out),TB,hd,u1,by rw[HK0.out];exact r0,by rw[HK0.out];exact r1,by rw[HK0.out];show au _ _ _ (aJ (kM l.length));rw[HM.out];exact r2,TK,HT,RR,HB0⟩
 case round=>
  obtain⟨j,t,no,nn,nm,Y0,y0,Y1,y1,Y2,y2,hj,rfl,HNO,HNN,HNM,TB,hy0,hy1,r0,r1,r2,HTK,HG,R,HB⟩:=hrel
  clear RR HB0 TK HT
  by_cases hlt:j<nc
  ·obtain⟨⟨c,pv⟩,hp⟩:∃p,cs[j]?=some p:=⟨_,J4 (by rw[HNC.out];exact hlt)⟩
   obtain⟨⟨p0,p1⟩,⟨x0,x1⟩,hq4,hgs⟩:(-9223372036854775808<=c.op/\c.op<=9223372036854775807)/\(0<=c.d.b/\c.d.b<18446744073709551616)/\c.q.length<=17592186044415/\c.g.s.size<=281474976710656:=HW.out _ (J7 hp)
   obtain⟨Q,qc,ev,hqc,RQ⟩:∃Q qc,pv=.slice Q c.q.length qc/\c.q.length<=qc/\Rd w Q (aV c.q):=by
    obtain⟨Q,qc,h1,h2,_,h4⟩:=HO.out _ (J7 hp)
    exact⟨Q,qc,h1,h2,h4⟩
   subst ev
   obtain⟨ad,rfl,c0,c1,c2,c3,c4,c5,c6,c7,c8⟩:=(hK.below HB).ch hp
   dsimp only at c0 c1 c2 c3 c4 c5 c6 c7 c8
   have hgo:pH t (c :: (cs.drop (j+1)).map (·.1))=(T,code):=by
    rw[<-HG.out,List.drop_eq_getElem_cons (show j<cs.length by rw[HNC.out];exact hlt)]
    rw[J4 (by rw[HNC.out];exact hlt)] at hp
    rw[List.map_cons,Jj hp]
   obtain⟨n,hn⟩:∃n,c.q.length=n:=⟨_,rfl⟩
   simp only[hn] at c8 hqc hq4
   obtain⟨e0,he⟩:∃e,dR t.n c=e:=⟨_,rfl⟩
   obtain⟨M,hM⟩:∃M,dy t.n c=M:=⟨_,rfl⟩
   have HN:=J0 hn;have HE:=J0 he;have HMK:=J0 hM;have HGO:=J0 hgo
   have hs16:Hid (no<=16/\nn<=16/\nm<=16):=J0 (by have:=bN HTK.out.r;rw[HNO.out,HNN.out,HNM.out] at this;exact this)
   have nbc:=aA (w:=wr) (.cells #[.int .i64 c.op,.string c.s,.string c.g.s,.int .i64 c.g.k,.int .i64 c.g.l,.int .i64 c.d.k,.int .u64 c.d.b,.string c.d.t,.slice Q n qc] 76)
   have C:cx (wr.alloc (.cells #[.int .i64 c.op,.string c.s,.string c.g.s,.int .i64 c.g.k,.int .i64 c.g.l,.int .i64 c.d.k,.int .u64 c.d.b,.string c.d.t,.slice Q n qc] 76)) wr.heap.size c (.slice Q n qc) 76:=aD.new wr (pX c (.slice Q n qc)) 76
   have hj0:(0:Int)<=(j:Int):=by omega
   have hj1:(j:Int)<(nc:Int):=by omega
   clear hn he hM hgo hp HG
   go_upto_region 7 with fail
   generalize wr.alloc (.cells #[.int .i64 c.op,.string c.s,.string c.g.s,.int .i64 c.g.k,.int .i64 c.g.l,.int .i64 c.d.k,.int .u64 c.d.b,.string c.d.t,.slice Q n qc] 76)=W4 at *
   clear c0 c1 c2 c3 c4 c5 c6 c7 c8
   obtain⟨a0,a1,a2,a3,a4,a5,a6,a7,a8⟩:=C.c9
   have TB4:=TB.below nbc
   obtain⟨t0,t1,t2,f0,f1,f2⟩:=TB4.f3
   have HB4:=HB.trans (nbc.mono HB.size)
   have RQ4:=RQ.below HB4
   have r14:=r1.rd.below nbc
   have hs2:=hs16.out
   go_wp2_with (go_at_call 97;refine(CQ t.n c nn HNN.out (by omega) Y1 y1 hy1 Q n qc HN.out hq4 hqc p0 p1 x0 x1 _ r14 RQ4).mono ?_)
   rw[HMK.out,HE.out]
   rintro e W5 ⟨U0,_,v0,U1,_,v1,U2,_,v2,rfl,hTV,hb5⟩
   obtain⟨_,_,_,_,_,_,ev,hdU,s0',s1',s2'⟩:=hTV
   cases ev
   obtain⟨mo,hmo⟩:∃x,M.o.length=x:=⟨_,rfl⟩
   obtain⟨mn,hmn⟩:∃x,M.n.length=x:=⟨_,rfl⟩
   obtain⟨mm,hmm⟩:∃x,M.m.length=x:=⟨_,rfl⟩
   rw[hmn] at hdU
   rw[hmo,hmn,hmm]
   have HMO:=J0 hmo;have HMN:=J0 hmn;have HMM:=J0 hmm
   clear hmo hmn hmm a0 a1 a2 a3 a4 a5 a6 a7 a8 t0 t1 t2 f0 f1 f2 C RQ4 r14
   have nb6:=aA (w:=W5) (.cells #[.slice U0 mo v0,.slice U1 mn v1,.slice U2 mm v2] 96)
   have MB:aD (W5.alloc (.cells #[.slice U0 mo v0,.slice U1 mn v1,.slice U2 mm v2] 96)) W5.heap.size [.slice U0 mo v0,.slice U1 mn v1,.slice U2 mm v2] 96:=aD.new W5 _ _
   have hb6:=aB (aB nbc hb5) nb6
   have s0:=s0'.rd.below nb6
   have s1:=s1'.rd.below nb6
   have s2:=s2'.rd.below nb6
   clear s0' s1' s2' HB4 TB4 nbc
   go_upto_region 8 with fail
   generalize W5.alloc (.cells #[.slice U0 mo v0,.slice U1 mn v1,.slice U2 mm v2] 96)=W6 at *
   have TB6:=TB.below hb6
   have R6:=R.below hb6
   have HB6:=HB.trans (hb6.mono HB.size)
   have r06:=r0.rd.below hb6
   have r16:=r1.rd.below hb6
   have r26:=r2.rd.below hb6
   obtain⟨q0,q1,q2,g0,g1,g2⟩:=R6.f3
   clear r0 r1 r2 HB TB R hb5 nb6 hb6
   by_cases h0:e0=0
   ·subst h0
    obtain⟨t0,t1,t2,f0,f1,f2⟩:=TB6.f3
    obtain⟨m0,m1,m2,_,_,_⟩:=MB.f3
    have hMk:iH M:=by rw[<-HMK.out];exact iH.make HE.out HTK.out.n hgs x0 x1
    have HMT:=J0 hMk
    have hm16:Hid (mo<=16/\mn<=16/\mm<=16):=J0 (by have:=bN hMk.r;rw[HMO.out,HMN.out,HMM.out] at this;exact this)
    clear hMk
    have hs3:=hm16.out
    go_wp2_with (go_at_call 98;refine(ub t M Y0 Y1 Y2 U0 U1 U2 y0 y1 y2 v0 v1 v2 no nn nm mo mn mm HNO.out HNN.out HNM.out HMO.out HMN.out HMM.out (by omega) (by omega) (by omega) (by omega) (by omega) (by omega) HTK.out.w HMT.out.w _ r06 r16 r26 s0 s1 s2 hy0 hdU).mono ?_)
    obtain⟨G,hG⟩:∃G,bv t M=G:=⟨_,rfl⟩
    obtain⟨lo,hlo⟩:∃x,G.o.length=x:=⟨_,rfl⟩
    obtain⟨ln,hln⟩:∃x,G.n.length=x:=⟨_,rfl⟩
    obtain⟨lm,hlm⟩:∃x,G.m.length=x:=⟨_,rfl⟩
    rw[hG]
    rintro e W7 ⟨V0,w0,V1,w1,V2,w2,rfl,hc0,hc1,a0,a1,a2,hb7⟩
    rw[hlo] at hc0
    rw[hln] at hc1
    rw[hlo,hln,hlm]
    have HGL:=J0 hlo;have HGN:=J0 hln;have HGM:=J0 hlm;have HGT:=J0 hG
    have TB7:=TB6.below hb7
    have R7:=R6.below hb7
    have HB7:=HB6.trans (hb7.mono HB6.size)
    have hw6:=HB6.size
    replace a0:=a0.mono (Q:=fun g=>w.heap.size<=g) (fun g hg=>Q7 hw6 hg)
    replace a1:=a1.mono (Q:=fun g=>w.heap.size<=g) (fun g hg=>Q7 hw6 hg)
    replace a2:=a2.mono (Q:=fun g=>w.heap.size<=g) (fun g hg=>Q7 hw6 hg)
    clear hlo hln hlm hG q0 q1 q2 g0 g1 g2 t0 t1 t2 f0 f1 f2 m0 m1 m2 TB6 R6 HB6 r06 r16 r26 s0 s1 s2 hb7 MB
    obtain⟨t0,t1,t2,f0,f1,f2⟩:=TB7.f3
    obtain⟨q0,q1,q2,g0,g1,g2⟩:=R7.f3
    have hwq:=HQ.out
    rcases jl t M with h2|h2
    ·rw[h2]
     have hG1:iH G:=by rw[<-HGT.out];exact iH.comp HTK.out HMT.out h2
     have hG2:pH G ((cs.drop (j+1)).map (·.1))=(T,code):=by
      have h:=HGO.out
      rw[kc HE.out (by rw[HMK.out];exact h2),HMK.out,HGT.out] at h
      exact h
     have HG1:=J0 hG1
     have HG2:=J0 hG2
     clear hG1 hG2 h2
     go_wp2
     go_roundw
     case rel=>
      exact⟨j+1,G,lo,ln,lm,V0,w0,V1,w1,V2,w2,by omega,by go_num,HGL,HGN,HGM,aI (aI (aI TB7 0 (.slice V0 lo w0)) 1 (.slice V1 ln w1)) 2 (.slice V2 lm w2),hc0,hc1,RdFP.set3 a0 TB7 _ _ _,RdFP.set3 a1 TB7 _ _ _,RdMP.set3 a2 TB7 _ _ _,HG1,HG2,aD.far (aD.far (aD.far R7 (p:=⟨q,0,none⟩) (by show q≠_;omega) _) (p:=⟨q,1,none⟩) (by show q≠_;omega) _) (p:=⟨q,2,none⟩) (by show q≠_;omega) _,((HB7.setCell (p:=⟨q,0,none⟩) (Nat.le_of_lt hwq) _).setCell (p:=⟨q,1,none⟩) (Nat.le_of_lt hwq) _).setCell (p:=⟨q,2,none⟩) (Nat.le_of_lt hwq) _⟩
     case measure=>simp[intOf];omega
    ·rw[h2]
     obtain⟨rfl,rfl⟩:Tb.z=T/\70=code:=by
      have h:=HGO.out
      rw[kZ HE.out (by rw[HMK.out,h2];decide)] at h
      exact⟨congrArg Prod.fst h,congrArg Prod.snd h⟩
     clear h2
     go_wp2
     refine Xx (v:=.tuple #[.agg #[.slice none 0 0,.slice none 0 0,.slice none 0 0],.int .i64 70]) (by simp[results,Tryz.results63,go_sem, *];done) rfl ⟨none,0,none,0,none,0,rfl,J9 _,J9 _,fun h=>absurd rfl h,fun h=>absurd rfl h,fun h=>absurd rfl h,?_⟩
     have HB:=HB7
     (repeat (first|exact HB|refine J8 ?_ (by dsimp only;omega) _|refine Jk ?_ (by have:=HB.size;(try simp) <;> omega) _|apply Jv))
   ·have e1:(e0 == 0)=false:=by simpa using h0
    have e2:(e0 != 0)=true:=by simpa using h0
    obtain⟨rfl,rfl⟩:Tb.z=T/\e0=code:=by
     have h:=HGO.out
     rw[ka (by rw[HE.out];exact h0),HE.out] at h
     exact⟨congrArg Prod.fst h,congrArg Prod.snd h⟩
    clear h0
    go_wp2
    refine Xx (v:=.tuple #[.agg #[.slice none 0 0,.slice none 0 0,.slice none 0 0],.int .i64 e0]) (by simp[results,Tryz.results63,go_sem, *];done) rfl ⟨none,0,none,0,none,0,rfl,J9 _,J9 _,fun h=>absurd rfl h,fun h=>absurd rfl h,fun h=>absurd rfl h,?_⟩
    have HB:=HB6
    (repeat (first|exact HB|refine J8 ?_ (by dsimp only;omega) _|refine Jk ?_ (by have:=HB.size;(try simp) <;> omega) _|apply Jv))
  ·obtain rfl:j=nc:=by omega
   have h:=HG.out
   rw[List.drop_of_length_le (by rw[HNC.out];exact J9 _)] at h
   have hT1:t=T:=congrArg Prod.fst h
   have hT2:(0:Int)=code:=congrArg Prod.snd h
   subst hT1 hT2
   clear h HG
   obtain⟨t0,t1,t2,f0,f1,f2⟩:=TB.f3
   obtain⟨q0,q1,q2,g0,g1,g2⟩:=R.f3
   go_wp2
   refine Xx (v:=.tuple #[.agg #[.slice Y0 no y0,.slice Y1 nn y1,.slice Y2 nm y2],.int .i64 0]) (by simp[results,Tryz.results63,go_sem, *];done) rfl ?_
   have e1:=HNO.out
   have e2:=HNN.out
   have e3:=HNM.out
   refine⟨Y0,y0,Y1,y1,Y2,y2,by rw[e1,e2,e3],by rw[e1];exact hy0,by rw[e2];exact hy1,RdFP.set3 r0 R _ _ _,RdFP.set3 r1 R _ _ _,RdMP.set3 r2 R _ _ _,?_⟩
   (repeat (first|exact HB|refine J8 ?_ (by dsimp only;omega) _|refine Jk ?_ (by have:=HB.size;(try simp) <;> omega) _|apply Jv))
theorem CM (l:List Fd) (m:Nat) (hm:l.length=m) (hl:m<=9223372036854775807) (A:EL) (cA:Nat) (hcA:m<=cA) (K:EL) (cK nc:Nat) (cs:List (Ch×ER)) (hnc:cs.length=nc) (hk:nc<=9223372036854775807) (hn:mU l) (hw:∀p∈cs,wA p) (w:EQ) (hA:Rd w A (aC l)) (hK:Rd w K (bV cs)) (ho:∀p∈cs,ou w p):
 Calls Tryz.prog 63 #[.slice A m cA,.slice K nc cK] w fun e w'=>CN (gb l (cs.map (·.1))).1 (gb l (cs.map (·.1))).2 w e w':=by
 cases hr:aK l
 ·rw[gb,Xy (by rw[hr];decide)]
  exact AV l m hm hl A cA hcA K cK nc cs hnc hk hn hw w hA hK ho hr
 ·rw[gb,Xz hr]
  exact yj l m hm hl A cA hcA K cK nc cs hnc hk hn hw w hA hK ho hr _ _ rfl
end
end Go.Proofs.YteembinfgbapgaaGreat
