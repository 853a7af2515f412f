/- Merged out of: Qi Ol Qj Qs. -/
import Derived.Test.YteembinfgbapgaaGreatC00
import Derived.Test.YteembinfgbapgaaGreatC27
set_option linter.unusedSimpArgs false
set_option linter.unusedVariables false
set_option maxRecDepth 100000
set_option maxHeartbeats 8000000
namespace Go.Proofs.YteembinfgbapgaaGreat
section
open Go.RowKit Go.Lib
theorem VBox3 {w:World} {b:Nat} {c:Vl} {T:TypeId} (h:OBox w b [.int .i64 c.k,.int .u64 c.b,.string c.t] T):w.cell? ⟨b,0,none⟩=some (.int .i64 c.k)∧w.cell? ⟨b,1,none⟩=some (.int .u64 c.b)∧w.cell? ⟨b,2,none⟩=some (.string c.t):=⟨h.cell rfl,h.cell rfl,h.cell rfl⟩
theorem rCompose_yes (a b:Tb) (X0 X1 X2 Z0 Z1 Z2:Option Addr) (x0 x1 x2 z0 z1 z2 ao an am bo bn bm:Nat) (hao:a.o.length=ao) (han:a.n.length=an) (ham:a.m.length=am) (hbo:b.o.length=bo) (hbn:b.n.length=bn) (hbm:b.m.length=bm) (l0:ao≤9223372036854775807) (l1:an≤9223372036854775807) (l2:am≤9223372036854775807) (l3:bo≤9223372036854775807) (l4:bn≤9223372036854775807) (l5:bm≤9223372036854775807) (wa:MvW a.m) (wb:MvW b.m) (sa:FdS a.o) (sb:FdS a.n) (sc:FdS b.o) (sd:FdS b.n) (w:World) (r0:Rd w X0 (cellsF a.o)) (r1:Rd w X1 (cellsF a.n)) (r2:Rd w X2 (cellsM a.m)) (s0:Rd w Z0 (cellsF b.o)) (s1:Rd w Z1 (cellsF b.n)) (s2:Rd w Z2 (cellsM b.m)) (hmeet:meetB a b=true) (r:Bool) (hr:rightT (compT a b)=r):
 Calls Tryz.prog 155 #[.agg #[.slice X0 ao x0,.slice X1 an x1,.slice X2 am x2],.agg #[.slice Z0 bo z0,.slice Z1 bn z1,.slice Z2 bm z2]] w fun e w'=>CoR (bif r then compT a b else Tb.z) (bif r then 0 else 70) w e w':=by
 obtain⟨i0,hi,hz0,hz1,hz2⟩:=info_parts infoMr
 obtain⟨hq1,hq2,hq⟩:=meetB_iff.1 hmeet
 have hq3:sameFB a.n b.o=true:=by simp[sameFB,hq]
 obtain⟨_,_,_⟩:=rightT_16 hq1
 obtain⟨_,_,_⟩:=rightT_16 hq2
 have hmn:bm=bn:=by rw[←hbm,←hbn];exact(rightT_iff.1 hq2).2.2.1
 have hat:=fun k x g hx hg=>comp_at (k:=k) (m:=x) (g:=g) wa hq1 hq2 hq hx hg
 have hrr:r=decide (∀k,k<bm→okAt (compT a b) k=true):=by rw[←hr,←hbm];exact compT_right hmeet
 have S:CoS w _ 110 [.slice X0 ao x0,.slice X1 an x1,.slice X2 am x2] [.slice Z0 bo z0,.slice Z1 bn z1,.slice Z2 bm z2] [.slice none 0 0,.slice none 0 0,.slice none 0 0]:=CoS.new w _ _ _ _
 obtain⟨P0,P1,P2,P3,P4,P5⟩:=S.P.f3
 obtain⟨Q0,Q1,Q2,Q3,Q4,Q5⟩:=S.Q.f3
 obtain⟨N0,N1,N2,N3,N4,N5⟩:=S.N.f3
 have HAO:=J0 hao;have HAN:=J0 han;have HAM:=J0 ham
 have HBO:=J0 hbo;have HBN:=J0 hbn;have HBM:=J0 hbm
 have HR1:=J0 hq1;have HR2:=J0 hq2;have HR3:=J0 hq3
 have WA:=J0 wa;have WB:=J0 wb;have HAT:=J0 hat;have HRR:=J0 hrr
 have SA:=J0 sa;have SB:=J0 sb;have SC:=J0 sc;have SD:=J0 sd
 have tok1:=True.intro
 have hb16:bm≤16:=by omega
 have HMN:=J0 hmn
 clear hao han ham hbo hbn hbm hq1 hq2 hq3 wa wb hat hq hr hrr hmeet hmn sa sb sc sd
 go_enter Tryz.func155,Tryz.ntmps155
 go_upto_region 3 with (first|(have _t:=tok1;go_at_call 79;refine(rTRight_m a X0 X1 X2 x0 x1 x2 ao an am HAO.out HAN.out HAM.out l0 l1 l2 WA.out SA.out SB.out _ (r0.below S.B) (r1.below S.B) (r2.below S.B)).mono ?_;rintro e W1 ⟨rfl,hb⟩;rw[HR1.out];replace S:=S.below hb;clear P0 P1 P2 P3 P4 P5 Q0 Q1 Q2 Q3 Q4 Q5 N0 N1 N2 N3 N4 N5;obtain⟨P0,P1,P2,P3,P4,P5⟩:=S.P.f3;obtain⟨Q0,Q1,Q2,Q3,Q4,Q5⟩:=S.Q.f3;obtain⟨N0,N1,N2,N3,N4,N5⟩:=S.N.f3;clear hb tok1;have tok2:=True.intro)|(have _t:=tok2;go_at_call 79;refine(rTRight_m b Z0 Z1 Z2 z0 z1 z2 bo bn bm HBO.out HBN.out HBM.out l3 l4 l5 WB.out SC.out SD.out _ (s0.below S.B) (s1.below S.B) (s2.below S.B)).mono ?_;rintro e W2 ⟨rfl,hb⟩;rw[HR2.out];replace S:=S.below hb;clear P0 P1 P2 P3 P4 P5 Q0 Q1 Q2 Q3 Q4 Q5 N0 N1 N2 N3 N4 N5;obtain⟨P0,P1,P2,P3,P4,P5⟩:=S.P.f3;obtain⟨Q0,Q1,Q2,Q3,Q4,Q5⟩:=S.Q.f3;obtain⟨N0,N1,N2,N3,N4,N5⟩:=S.N.f3;clear hb tok2)|(go_at_call 22;refine(Same6_m X1 Z0 x1 z0 an bo a.n b.o HAN.out HBO.out _ HR3.out _ (r1.below S.B) (s0.below S.B) l1 l3).mono ?_;rintro e W3 ⟨rfl,hb⟩;replace S:=S.below hb;clear P0 P1 P2 P3 P4 P5 Q0 Q1 Q2 Q3 Q4 Q5 N0 N1 N2 N3 N4 N5;obtain⟨P0,P1,P2,P3,P4,P5⟩:=S.P.f3;obtain⟨Q0,Q1,Q2,Q3,Q4,Q5⟩:=S.Q.f3;obtain⟨N0,N1,N2,N3,N4,N5⟩:=S.N.f3;clear hb))
 have hzS:=S.N.lt
 have PB0:=OBox.new W3 [.slice X0 ao x0,.slice Z1 bn z1,.slice none 0 0] 110
 have nb3:=below_new (w:=W3) (.cells #[.slice X0 ao x0,.slice Z1 bn z1,.slice none 0 0] 110)
 go_upto_region 4 with fail
 have hp2:w.heap.size+2<W3.heap.size:=hzS
 have S0:=S.below nb3
 generalize W3.alloc (.cells #[.slice X0 ao x0,.slice Z1 bn z1,.slice none 0 0] 110)=Wc at *
 obtain⟨p,hpp⟩:∃p,W3.heap.size=p:=⟨_,rfl⟩
 have hpz:=PB0.lt
 rw[hpp] at hp2 hpz PB0 ⊢
 have HP2:=J0 hp2
 have HPZ:=J0 hpz
 clear P0 P1 P2 P3 P4 P5 Q0 Q1 Q2 Q3 Q4 Q5 N0 N1 N2 N3 N4 N5 nb3 hzS hpp hp2 hpz S
 clear W1 W2 W3
 go_wp2
 go_loopw [5,7,8,9,10,11] (fun u i _ _ _ _ wr=>∃(k:Nat) (v:Value),k≤bm∧u=.int .i64 0∧i=.int .i64 k∧wr.ownsRow Wc.heap.size 157 4 v k (cellsM (compM a b k))∧OBox wr p [.slice X0 ao x0,.slice Z1 bn z1,v] 110∧Wc.heap.size≤wr.heap.size∧CoS w wr 110 [.slice X0 ao x0,.slice X1 an x1,.slice X2 am x2] [.slice Z0 bo z0,.slice Z1 bn z1,.slice Z2 bm z2] [.slice none 0 0,.slice none 0 0,.slice none 0 0]∧Hid (∀j,j<k→okAt (compT a b) j=true)) (fun _ i _ _ _ _ _=>bm - (intOf i).toNat)
 case atStart=>exact⟨0,_,by omega,rfl,rfl,own_nil _ _ _ _,PB0,J9 _,S0,J0 (fun j hj=>by omega)⟩
 case round=>
  obtain⟨k,v,hk,rfl,rfl,hown,PB,hwcr,S,hall⟩:=hrel
  clear S0 PB0
  by_cases hlt:k<bm
  ·obtain⟨x,hx⟩:∃x,b.m[k]?=some x:=⟨_,J4 (by rw[HBM.out];exact hlt)⟩
   obtain⟨g,hg⟩:∃y,b.n[k]?=some y:=⟨_,J4 (by rw[HBN.out,←HMN.out];exact hlt)⟩
   obtain⟨y,hy⟩:∃y,compMv a b k=y:=⟨_,rfl⟩
   have hw:=HAT.out k x g hx hg
   have HK:=J0 (comp_cells a b hy)
   rw[hy] at hw
   have hi0:(0:Int)≤(k:Int):=by omega
   have hi1:(k:Int)<(bm:Int):=by omega
   have hi2:(k:Int)<(bn:Int):=by have:=HMN.out;omega
   have RM:=s2.below S.B
   obtain⟨ad,ea,c0,c1,c2,c3⟩:=RM.mv hx
   obtain⟨gd,eg,_,_,_⟩:=s1.fld hg
   subst ea eg
   have HG:=J0 hg
   have HWY:=J0 hw
   clear RM hx hg hy hw
   obtain⟨Q0,Q1,Q2,Q3,Q4,Q5⟩:=S.Q.f3
   go_upto_if 48 with fail
   have MB:=OBox.new wr [.int .i64 x.f,.int .i64 x.d.k,.int .u64 x.d.b,.string x.d.t] 157
   have nb:=below_new (w:=wr) (.cells #[.int .i64 x.f,.int .i64 x.d.k,.int .u64 x.d.b,.string x.d.t] 157)
   have hsz:wr.heap.size<(wr.alloc (.cells #[.int .i64 x.f,.int .i64 x.d.k,.int .u64 x.d.b,.string x.d.t] 157)).heap.size:=by simp
   generalize wr.alloc (.cells #[.int .i64 x.f,.int .i64 x.d.k,.int .u64 x.d.b,.string x.d.t] 157)=W4 at *
   clear c0 c1 c2 c3 Q0 Q1 Q2 Q3 Q4 Q5
   have S4:=S.below nb
   obtain⟨m0,m1,m2,m3,z0',z1',z2',z3'⟩:=MBox4 MB
   by_cases hok:okAt (compT a b) k=true
   ·go_cut [5,9,10,11] (fun u _ _ _ wx=>u=.int .i64 0∧MBox wx wr.heap.size y∧Below wr.heap.size wr wx∧wr.heap.size<wx.heap.size)
    case first=>
     rcases HWY.out with ⟨hxf,e,_⟩|⟨hxf,n,f,hn,hf1,hf2,h3⟩
     ·have e1:decide ((0:Int)≤x.f)=false:=by simp;omega
      go_wp2_with fail
      go_meet
      exact⟨rfl,by rw[e];exact MBox.of MB,nb,hsz⟩
     ·have HOK:=J0 hok
      clear hok
      have e1:decide ((0:Int)≤x.f)=true:=by simpa using hxf
      have hxl:x.f<(bo:Int):=by have:=(J6.1 hf2).1;have:=HBO.out;omega
      have hxm:x.f<(am:Int):=by have:=(J6.1 hn).1;have:=HAM.out;omega
      obtain⟨od,eo,_,_,_⟩:=s0.fld hf2
      subst eo
      obtain⟨nd,en,n0,n1,n2,n3⟩:=(r2.below S4.B).mv hn
      subst en
      obtain⟨b0,b1⟩:=WA.out n (J7 hn)
      have HF:=J0 hf2
      clear hn hf1 hf2
      obtain⟨P0,P1,P2,P3,P4,P5⟩:=S4.P.f3
      have nb5:=below_new (w:=W4) (.cells #[.int .i64 n.f,.int .i64 n.d.k,.int .u64 n.d.b,.string n.d.t] 157)
      have N5:=OBox.new W4 [.int .i64 n.f,.int .i64 n.d.k,.int .u64 n.d.b,.string n.d.t] 157
      go_upto_region 10 with fail
      generalize W4.alloc (.cells #[.int .i64 n.f,.int .i64 n.d.k,.int .u64 n.d.b,.string n.d.t] 157)=W5 at *
      clear n0 n1 n2 n3 m0 m1 m2 m3 z0' z1' z2' z3' P0 P1 P2 P3 P4 P5
      have S5:=S4.below nb5
      have M5:=MB.below nb5
      have hb5:=below_seq nb nb5
      have hz5:=N5.lt
      rcases h3 with ⟨hnf,e,_⟩|⟨hnf,e,h,hh,hat2⟩
      ·have e2:decide ((0:Int)≤n.f)=false:=by simp;omega
       have e3:decide (n.f<(0:Int))=true:=by simpa using hnf
       obtain⟨c,hc⟩:∃c,castL n.d f g=c:=⟨_,rfl⟩
       have hv:=castL_va n.d f g
       rw[hc] at e hv
       have HV:=J0 hv
       clear hv hc
       refine RW.start (fun w'=>Below W5.heap.size W5 w') (by kernel_rfl) (by kernel_rfl) (Jy _ _).drew ?_
       repeat (first
        |(refine' RW.val (by rfl) ?_ ?_;rotate_left;(focus (intro w' hS;have HB5:=hS;obtain⟨a0,a1,a2,a3,_,_,_,_⟩:=MBox4 (N5.below HB5);clear hS;go_simp;rfl));simp only[Act.put,J1,J3,J2])
        |(refine RW.off (by rfl) ?_;simp only[Act.put,J1,J3,J2]))
       refine RW.done (fun w' hS=>?_)
       have HB5:=hS;obtain⟨a0,a1,a2,a3,_,_,_,_⟩:=MBox4 (N5.below HB5);clear hS
       have N6:=N5.below HB5
       have M6:=M5.below HB5
       have S6:=S5.below HB5
       have hb6:=below_seq hb5 HB5
       have hz6:=N6.lt
       have hz6':=M6.lt
       go_upto_region 13 with fail
       have hall:∀W,Below w'.heap.size w' W→W.cell? ⟨W4.heap.size,1,none⟩=some (.int .i64 n.d.k)∧W.cell? ⟨W4.heap.size,2,none⟩=some (.int .u64 n.d.b)∧W.cell? ⟨W4.heap.size,3,none⟩=some (.string n.d.t)∧W.cell? ⟨w.heap.size+1,0,none⟩=some (.slice (some od) bo z0)∧W.cell? ⟨wr.heap.size,0,none⟩=some (.int .i64 x.f)∧W.cell? (od.add (x.f.toNat * 3))=some (.string f.s)∧W.cell? ⟨(od.add (x.f.toNat * 3)).block,(od.add (x.f.toNat * 3)).off+(0+1),none⟩=some (.int .i64 f.k)∧W.cell? ⟨(od.add (x.f.toNat * 3)).block,(od.add (x.f.toNat * 3)).off+(1+1),none⟩=some (.int .i64 f.l)∧W.cell? ⟨w.heap.size+1,1,none⟩=some (.slice (some gd) bn z1)∧W.cell? (gd.add (k * 3))=some (.string g.s)∧W.cell? ⟨(gd.add (k * 3)).block,(gd.add (k * 3)).off+(0+1),none⟩=some (.int .i64 g.k)∧W.cell? ⟨(gd.add (k * 3)).block,(gd.add (k * 3)).off+(1+1),none⟩=some (.int .i64 g.l)∧Below w'.heap.size w' W:=fun W hb=>by
        obtain⟨_,q1,q2,q3,_⟩:=MBox4 (N6.below hb)
        obtain⟨q4,_⟩:=MBox4 (M6.below hb)
        have S7:=S6.below hb
        obtain⟨q5,q6,_⟩:=S7.Q.f3
        obtain⟨_,ea,f0,f1,f2⟩:=(s0.below S7.B).fld HF.out
        cases ea
        obtain⟨_,eb,g0,g1,g2⟩:=(s1.below S7.B).fld HG.out
        cases eb
        exact⟨q1,q2,q3,q5,q4,f0,f1,f2,q6,g0,g1,g2,hb⟩
       go_cut [10,11] (fun s10 s11 wx=>∃q z,s10=.pointer (some ⟨q,0,none⟩)∧s11=.int .i64 z∧OBox wx q [.int .i64 c.k,.int .u64 c.b,.string c.t] 71∧OBox wx W4.heap.size [.int .i64 n.f,.int .i64 n.d.k,.int .u64 n.d.b,.string n.d.t] 157∧OBox wx wr.heap.size [.int .i64 x.f,.int .i64 x.d.k,.int .u64 x.d.b,.string x.d.t] 157∧Below wr.heap.size wr wx∧w'.heap.size≤q)
       case first=>
        go_region_held3 (fun W=>W.cell? ⟨W4.heap.size,1,none⟩=some (.int .i64 n.d.k)∧W.cell? ⟨W4.heap.size,2,none⟩=some (.int .u64 n.d.b)∧W.cell? ⟨W4.heap.size,3,none⟩=some (.string n.d.t)∧W.cell? ⟨w.heap.size+1,0,none⟩=some (.slice (some od) bo z0)∧W.cell? ⟨wr.heap.size,0,none⟩=some (.int .i64 x.f)∧W.cell? (od.add (x.f.toNat * 3))=some (.string f.s)∧W.cell? ⟨(od.add (x.f.toNat * 3)).block,(od.add (x.f.toNat * 3)).off+(0+1),none⟩=some (.int .i64 f.k)∧W.cell? ⟨(od.add (x.f.toNat * 3)).block,(od.add (x.f.toNat * 3)).off+(1+1),none⟩=some (.int .i64 f.l)∧W.cell? ⟨w.heap.size+1,1,none⟩=some (.slice (some gd) bn z1)∧W.cell? (gd.add (k * 3))=some (.string g.s)∧W.cell? ⟨(gd.add (k * 3)).block,(gd.add (k * 3)).off+(0+1),none⟩=some (.int .i64 g.k)∧W.cell? ⟨(gd.add (k * 3)).block,(gd.add (k * 3)).off+(1+1),none⟩=some (.int .i64 g.l)∧Below w'.heap.size w' W) ((refine hall _ ?_;repeat (first|assumption|exact Jy _ _|refine J8 ?_ (by dsimp only;first|exact J9 _|omega) _|refine Jk ?_ (by first|exact J9 _|omega) _|apply Jv)))
         (first
           |(go_at_call 80;obtain⟨_,_,_,_,_,_,_,_,_,_,_,_,HBx⟩:=‹_∧_∧_∧_∧_∧_∧_∧_∧_∧_∧_∧_∧Below w'.heap.size w' _›;refine(rCast_is n.d.k n.d.b n.d.t f.s g.s f.k f.l g.k g.l b0 b1 _ _ HV.out rfl _).mono ?_;rintro e' W8 ⟨rfl,hb⟩;have HB8:Below w'.heap.size w' W8:=below_seq HBx hb;have hz8:=HB8.size;(first|(have VB:=OBox.below (OBox.new _ [.int .i64 0,.int .u64 0,.string ⟨#[]⟩] 71) hb)|(have VB:=OBox.newB (cs:=[.int .i64 0,.int .u64 0,.string ⟨#[]⟩]) hb)|skip);(first|(obtain⟨v0,v1,v2,v3,v4,v5⟩:=VB.f3)|skip)))
        all_goals (go_wp2_with fail;go_meet;refine⟨_,_,rfl,rfl,?_,N6.below ?_,M6.below ?_,below_seq hb6 ?_,?_⟩)
        all_goals first
         |exact OBox.new _ _ _
         |(exact obox_set (obox_set (obox_set VB 0 _) 1 _) 2 _)
         |exact J9 _
         |exact hz8
         |(repeat (first|assumption|exact Jy _ _|refine J8 ?_ (by dsimp only;first|exact J9 _|omega) _|refine Jk ?_ (by first|exact J9 _|omega) _|apply Jv))
       case rest=>
        obtain⟨q,z,rfl,rfl,VB,N7,M7,hb7,hq⟩:=hcut
        clear a0 a1 a2 a3
        obtain⟨a0,a1,a2,a3,A0,A1,A2,A3⟩:=MBox4 N7
        obtain⟨m0,m1,m2,m3,z0',z1',z2',z3'⟩:=MBox4 M7
        obtain⟨v0,v1,v2⟩:=VBox3 VB
        go_wp2_with fail
        go_meet
        refine⟨rfl,?_,?_,?_⟩
        ·rw[e]
         exact MBox.of (m:=⟨n.f,c⟩) (T:=157) (obox_set (obox_set (obox_set (obox_set (OBox.far (OBox.far (OBox.far M7 (p:=⟨W4.heap.size,1,none⟩) (by show W4.heap.size≠_;omega) (.int .i64 c.k)) (p:=⟨W4.heap.size,2,none⟩) (by show W4.heap.size≠_;omega) (.int .u64 c.b)) (p:=⟨W4.heap.size,3,none⟩) (by show W4.heap.size≠_;omega) (.string c.t)) 0 (.int .i64 n.f)) 1 (.int .i64 c.k)) 2 (.int .u64 c.b)) 3 (.string c.t))
        ·exact((((((hb7.setCell (p:=⟨W4.heap.size,1,none⟩) (Nat.le_of_lt hsz) (.int .i64 c.k)).setCell (p:=⟨W4.heap.size,2,none⟩) (Nat.le_of_lt hsz) (.int .u64 c.b)).setCell (p:=⟨W4.heap.size,3,none⟩) (Nat.le_of_lt hsz) (.string c.t)).setCell (p:=⟨wr.heap.size,0,none⟩) (J9 _) (.int .i64 n.f)).setCell (p:=⟨wr.heap.size,1,none⟩) (J9 _) (.int .i64 c.k)).setCell (p:=⟨wr.heap.size,2,none⟩) (J9 _) (.int .u64 c.b)).setCell (p:=⟨wr.heap.size,3,none⟩) (J9 _) (.string c.t)
        ·have:=M7.lt
         simp
         omega
      ·have hok:=HOK.out
       have e2:decide ((0:Int)≤n.f)=true:=by simpa using hnf
       have e3:decide (n.f<(0:Int))=false:=by simp;omega
       have hnl:n.f<(ao:Int):=by have:=(J6.1 hh).1;have:=HAO.out;omega
       obtain⟨hd,eh,_,_,_⟩:=r0.fld hh
       subst eh
       have HH:=J0 hh
       have HC:=J0 (hat2.symm.trans hok)
       clear hh hat2
       refine RW.start (fun w'=>Below W5.heap.size W5 w') (by kernel_rfl) (by kernel_rfl) (Jy _ _).drew ?_
       repeat (first
        |(refine' RW.val (by rfl) ?_ ?_;rotate_left;(focus (intro w' hS;have HB5:=hS;obtain⟨a0,a1,a2,a3,_,_,_,_⟩:=MBox4 (N5.below HB5);obtain⟨P0,P1,P2,P3,P4,P5⟩:=(S5.below HB5).P.f3;obtain⟨Q0,Q1,Q2,Q3,Q4,Q5⟩:=(S5.below HB5).Q.f3;obtain⟨_,eh,h0,h1,h2⟩:=(r0.below (S5.below HB5).B).fld HH.out;cases eh;obtain⟨_,eg,g0,g1,g2⟩:=(s1.below (S5.below HB5).B).fld HG.out;cases eg;clear hS;go_simp;rfl));simp only[Act.put,J1,J3,J2])
        |(refine RW.off (by rfl) ?_;simp only[Act.put,J1,J3,J2])
        |(refine' RW.call (by rfl) ?_ ?_ ?_
          rotate_left 3
          (focus (intro w' hS;have HB5:=hS;obtain⟨a0,a1,a2,a3,_,_,_,_⟩:=MBox4 (N5.below HB5);obtain⟨P0,P1,P2,P3,P4,P5⟩:=(S5.below HB5).P.f3;obtain⟨Q0,Q1,Q2,Q3,Q4,Q5⟩:=(S5.below HB5).Q.f3;obtain⟨_,eh,h0,h1,h2⟩:=(r0.below (S5.below HB5).B).fld HH.out;cases eh;obtain⟨_,eg,g0,g1,g2⟩:=(s1.below (S5.below HB5).B).fld HG.out;cases eg;clear hS;go_simp;exact⟨rfl,rfl⟩))
          (focus
            intro w' hS
            have HB5:=hS;obtain⟨a0,a1,a2,a3,_,_,_,_⟩:=MBox4 (N5.below HB5);obtain⟨P0,P1,P2,P3,P4,P5⟩:=(S5.below HB5).P.f3;obtain⟨Q0,Q1,Q2,Q3,Q4,Q5⟩:=(S5.below HB5).Q.f3;obtain⟨_,eh,h0,h1,h2⟩:=(r0.below (S5.below HB5).B).fld HH.out;cases eh;obtain⟨_,eg,g0,g1,g2⟩:=(s1.below (S5.below HB5).B).fld HG.out;cases eg;clear hS
            first
             |(refine(rCasts_is h.s g.s h.k h.l g.k g.l true HC.out _).mono ?_;rintro e w1 ⟨rfl,hb⟩;exact⟨rfl,(below_seq HB5 hb)⟩))
          simp only[Act.put,J1,J3,J2]))
       refine RW.done (fun w' hS=>?_)
       have HB5:=hS;obtain⟨a0,a1,a2,a3,_,_,_,_⟩:=MBox4 (N5.below HB5);obtain⟨P0,P1,P2,P3,P4,P5⟩:=(S5.below HB5).P.f3;obtain⟨Q0,Q1,Q2,Q3,Q4,Q5⟩:=(S5.below HB5).Q.f3;obtain⟨_,eh,h0,h1,h2⟩:=(r0.below (S5.below HB5).B).fld HH.out;cases eh;obtain⟨_,eg,g0,g1,g2⟩:=(s1.below (S5.below HB5).B).fld HG.out;cases eg;clear hS
       obtain⟨m0,m1,m2,m3,z0',z1',z2',z3'⟩:=MBox4 (M5.below HB5)
       go_wp2_with fail
       go_meet
       refine⟨rfl,?_,?_,?_⟩
       ·rw[e]
        exact MBox.of (T:=157) (obox_set (obox_set (obox_set (obox_set (M5.below HB5) 0 (.int .i64 n.f)) 1 (.int .i64 n.d.k)) 2 (.int .u64 n.d.b)) 3 (.string n.d.t))
       ·exact((((below_seq hb5 HB5).setCell (p:=⟨wr.heap.size,0,none⟩) (J9 _) (.int .i64 n.f)).setCell (p:=⟨wr.heap.size,1,none⟩) (J9 _) (.int .i64 n.d.k)).setCell (p:=⟨wr.heap.size,2,none⟩) (J9 _) (.int .u64 n.d.b)).setCell (p:=⟨wr.heap.size,3,none⟩) (J9 _) (.string n.d.t)
       ·have:=HB5.size
        have:=hb5.size
        simp
        omega
    case rest=>
     obtain⟨rfl,MY,hb9,hz9⟩:=hcut
     clear m0 m1 m2 m3 z0' z1' z2' z3' MB nb hsz S4
     rename World=>W9
     have hown9:=own_below hown hb9
     have P9:=PB.below hb9
     have hpz:=HPZ.out
     have hp2:=HP2.out
     have hz29:=hb9.size
     have hall2:Hid (∀j,j<k+1→okAt (compT a b) j=true):=J0 (fun j hj=>by
      rcases(by omega:j<k∨j=k) with h|rfl
      ·exact hall.out j h
      ·exact hok)
     obtain⟨m0,m1,m2,m3⟩:=MY
     obtain⟨k0,k1,k2,f0,f1,f2⟩:=P9.f3
     go_wp2_with (at_builtin;refine wpList_append_own _ rfl _ _ 108 rfl Wc.heap.size 157 i0 (.agg #[.int .i64 0,.int .i64 0,.int .u64 0,.string ⟨#[]⟩]) 4 40 Tryz.underlying108 hi hz0 hz1 hz2 rfl (by decide) _ _ _ rfl (hown9.alloc _) ⟨W9.heap.size,0,none⟩ 1 1 [.int .i64 y.f,.int .i64 y.d.k,.int .u64 y.d.b,.string y.d.t] rfl rfl ?c1 ?c2 ?c3 ?c4 ?c5 ?_)
     case c1=>exact news4 _ _ _ _ _ _
     case c2=>intro u hu;simp at hu;rcases hu with rfl|rfl|rfl|rfl <;> rfl
     case c3=>simp only[maxLen];omega
     case c4=>omega
     case c5=>simp <;> omega
     intro v' w3 hown' hgrow _
     have BG:Below Wc.heap.size W9 w3:=((Jy _ _).alloc (by omega) (.cells #[.int .i64 y.f,.int .i64 y.d.k,.int .u64 y.d.b,.string y.d.t] 157)).grown hgrow (by simp <;> omega) (fun q hq=>own_base hown9 q hq)
     have BG2:Below Wc.heap.size wr w3:=(hb9.mono hwcr).trans BG
     have O3:OBox w3 p [.slice X0 ao x0,.slice (some gd) bn z1,v] 110:=(BG2.block _ hpz).trans PB
     have hown3:w3.ownsRow Wc.heap.size 157 4 v' (k+1) (cellsM (compM a b (k+1))):=own_eq hown' (by simp) (by rw[HK.out])
     have hz3:=BG.size
     obtain⟨B',c',rfl,_,_,_⟩:=own_rd hown3
     clear hown' hgrow hown k0 k1 k2 f0 f1 f2 m0 m1 m2 m3
     obtain⟨k0,k1,k2,f0,f1,f2⟩:=O3.f3
     go_wp2
     go_roundw
     case rel=>exact⟨k+1,_,by omega,rfl,by go_num,ownsRow_setCell_below hown3 (by show p<_;omega) _,obox_set O3 2 _,by show _≤(World.setCell _ _ _).heap.size;simp;omega,S.step (by omega) BG2 hp2 2 _,hall2⟩
     case measure=>simp[intOf];omega
   ·have hokn:=hok
    have hokf:okAt (compT a b) k=false:=by simpa using hok
    have hrf:r=false:=by rw[HRR.out];exact decide_eq_false (fun h=>hok (h k hlt))
    subst hrf
    clear hok
    rcases HWY.out with ⟨hxf,e,ho⟩|⟨hxf,n,f,hn,hf1,hf2,⟨hnf,e,ho⟩|⟨hnf,e,h,hh,hat2⟩⟩
    ·rw[hokf] at ho;cases ho
    ·rw[hokf] at ho;cases ho
    have hok:=hokf
    clear hokf
    have e1:decide ((0:Int)≤x.f)=true:=by simpa using hxf
    have hxl:x.f<(bo:Int):=by have:=(J6.1 hf2).1;have:=HBO.out;omega
    have hxm:x.f<(am:Int):=by have:=(J6.1 hn).1;have:=HAM.out;omega
    obtain⟨od,eo,_,_,_⟩:=s0.fld hf2
    subst eo
    obtain⟨nd,en,n0,n1,n2,n3⟩:=(r2.below S4.B).mv hn
    subst en
    obtain⟨b0,b1⟩:=WA.out n (J7 hn)
    have HF:=J0 hf2
    clear hn hf1 hf2
    obtain⟨P0,P1,P2,P3,P4,P5⟩:=S4.P.f3
    have nb5:=below_new (w:=W4) (.cells #[.int .i64 n.f,.int .i64 n.d.k,.int .u64 n.d.b,.string n.d.t] 157)
    have N5:=OBox.new W4 [.int .i64 n.f,.int .i64 n.d.k,.int .u64 n.d.b,.string n.d.t] 157
    go_upto_region 10 with fail
    generalize W4.alloc (.cells #[.int .i64 n.f,.int .i64 n.d.k,.int .u64 n.d.b,.string n.d.t] 157)=W5 at *
    clear n0 n1 n2 n3 m0 m1 m2 m3 z0' z1' z2' z3' P0 P1 P2 P3 P4 P5
    have S5:=S4.below nb5
    have M5:=MB.below nb5
    have hb5:=below_seq nb nb5
    have hz5:=N5.lt
    have e2:decide ((0:Int)≤n.f)=true:=by simpa using hnf
    have e3:decide (n.f<(0:Int))=false:=by simp;omega
    have hnl:n.f<(ao:Int):=by have:=(J6.1 hh).1;have:=HAO.out;omega
    obtain⟨hd,eh,_,_,_⟩:=r0.fld hh
    subst eh
    have HH:=J0 hh
    have HC:=J0 (hat2.symm.trans hok)
    clear hh hat2
    refine RW.start (fun w'=>Below W5.heap.size W5 w') (by kernel_rfl) (by kernel_rfl) (Jy _ _).drew ?_
    repeat (first
     |(refine' RW.val (by rfl) ?_ ?_;rotate_left;(focus (intro w' hS;have HB5:=hS;obtain⟨a0,a1,a2,a3,_,_,_,_⟩:=MBox4 (N5.below HB5);obtain⟨P0,P1,P2,P3,P4,P5⟩:=(S5.below HB5).P.f3;obtain⟨Q0,Q1,Q2,Q3,Q4,Q5⟩:=(S5.below HB5).Q.f3;obtain⟨_,eh,h0,h1,h2⟩:=(r0.below (S5.below HB5).B).fld HH.out;cases eh;obtain⟨_,eg,g0,g1,g2⟩:=(s1.below (S5.below HB5).B).fld HG.out;cases eg;clear hS;go_simp;rfl));simp only[Act.put,J1,J3,J2])
     |(refine RW.off (by rfl) ?_;simp only[Act.put,J1,J3,J2])
     |(refine' RW.call (by rfl) ?_ ?_ ?_
       rotate_left 3
       (focus (intro w' hS;have HB5:=hS;obtain⟨a0,a1,a2,a3,_,_,_,_⟩:=MBox4 (N5.below HB5);obtain⟨P0,P1,P2,P3,P4,P5⟩:=(S5.below HB5).P.f3;obtain⟨Q0,Q1,Q2,Q3,Q4,Q5⟩:=(S5.below HB5).Q.f3;obtain⟨_,eh,h0,h1,h2⟩:=(r0.below (S5.below HB5).B).fld HH.out;cases eh;obtain⟨_,eg,g0,g1,g2⟩:=(s1.below (S5.below HB5).B).fld HG.out;cases eg;clear hS;go_simp;exact⟨rfl,rfl⟩))
       (focus
         intro w' hS
         have HB5:=hS;obtain⟨a0,a1,a2,a3,_,_,_,_⟩:=MBox4 (N5.below HB5);obtain⟨P0,P1,P2,P3,P4,P5⟩:=(S5.below HB5).P.f3;obtain⟨Q0,Q1,Q2,Q3,Q4,Q5⟩:=(S5.below HB5).Q.f3;obtain⟨_,eh,h0,h1,h2⟩:=(r0.below (S5.below HB5).B).fld HH.out;cases eh;obtain⟨_,eg,g0,g1,g2⟩:=(s1.below (S5.below HB5).B).fld HG.out;cases eg;clear hS
         first
          |(refine(rCasts_is h.s g.s h.k h.l g.k g.l false HC.out _).mono ?_;rintro e w1 ⟨rfl,hb⟩;exact⟨rfl,(below_seq HB5 hb)⟩))
       simp only[Act.put,J1,J3,J2]))
    refine RW.done (fun w' hS=>?_)
    have HB5:=hS;obtain⟨a0,a1,a2,a3,_,_,_,_⟩:=MBox4 (N5.below HB5);obtain⟨P0,P1,P2,P3,P4,P5⟩:=(S5.below HB5).P.f3;obtain⟨Q0,Q1,Q2,Q3,Q4,Q5⟩:=(S5.below HB5).Q.f3;obtain⟨_,eh,h0,h1,h2⟩:=(r0.below (S5.below HB5).B).fld HH.out;cases eh;obtain⟨_,eg,g0,g1,g2⟩:=(s1.below (S5.below HB5).B).fld HG.out;cases eg;clear hS
    obtain⟨N0,N1,N2,N3,N4,N5⟩:=(S5.below HB5).N.f3
    have hb6:=below_seq S.B (below_seq hb5 HB5)
    go_wp2
    refine bodyPost_ret (v:=.tuple #[.agg #[.slice none 0 0,.slice none 0 0,.slice none 0 0],.int .i64 70]) (by simp[results,Tryz.results155,go_sem, *];done) rfl ⟨none,0,none,0,none,0,rfl,fun h=>absurd rfl h,fun h=>absurd rfl h,fun h=>absurd rfl h,?_⟩
    have HB:=hb6
    (repeat (first|exact HB|refine J8 ?_ (by dsimp only;omega) _|refine Jk ?_ (by have hs_:=HB.size;first|(simp;done)|(simp;omega)|omega) _|apply Jv))
  ·obtain rfl:k=bm:=by omega
   have hpz:=HPZ.out
   have hp2:=HP2.out
   obtain rfl:r=true:=by rw[HRR.out];exact decide_eq_true hall.out
   obtain⟨C,cc,rfl,_,_,_⟩:=own_rd hown
   have RC:=own_P (P:=fun g=>w.heap.size+2<g) hown (fun g hg=>by have:=own_base hown g hg;omega)
   have hc1:(compT a b).o.length=ao:=HAO.out
   have hc2:(compT a b).n.length=bn:=HBN.out
   have hc3:(compT a b).m.length=k:=by show(compM a b b.m.length).length=k;rw[compM_length];exact HBM.out
   have C1:=J0 hc1;have C2:=J0 hc2;have C3:=J0 hc3
   clear hc1 hc2 hc3 hown
   obtain⟨k0,k1,k2,f0,f1,f2⟩:=PB.f3
   obtain⟨N0,N1,N2,N3,N4,N5⟩:=S.N.f3
   obtain⟨Q0,Q1,Q2,Q3,Q4,Q5⟩:=S.Q.f3
   go_wp2
   refine bodyPost_ret (v:=.tuple #[.agg #[.slice X0 ao x0,.slice Z1 bn z1,.slice C k cc],.int .i64 0]) (by simp[results,Tryz.results155,go_sem, *];done) rfl ?_
   show CoR (compT a b) 0 w _ _
   have hc1:=C1.out
   have hc2:=C2.out
   have hc3:=C3.out
   have hbF:Below w.heap.size w (((wr.setCell ⟨w.heap.size+2,0,none⟩ (.slice X0 ao x0)).setCell ⟨w.heap.size+2,1,none⟩ (.slice Z1 bn z1)).setCell ⟨w.heap.size+2,2,none⟩ (.slice C k cc)):=by
    have HB:=S.B
    (repeat (first|exact HB|refine J8 ?_ (by dsimp only;omega) _|refine Jk ?_ (by have hs_:=HB.size;first|(simp;done)|(simp;omega)|omega) _|apply Jv))
   refine⟨X0,x0,Z1,z1,C,cc,by rw[hc1,hc2,hc3],r0.below hbF,s1.below hbF,?_,hbF⟩
   have:=(RC.set3 _ (fun g hg=>by have h:=hg;show g≠w.heap.size+2;omega) 0 1 2 (.slice X0 ao x0) (.slice Z1 bn z1) (.slice C k cc)).rd
   show Rd _ C (cellsM (compM a b b.m.length))
   rw[HBM.out]
   exact this
def c1:Ch:=⟨4,⟨#[97]⟩,⟨⟨#[]⟩,2,0⟩,⟨0,0,⟨#[]⟩⟩,[]⟩
def c2:Ch:=⟨4,⟨#[97]⟩,⟨⟨#[]⟩,5,0⟩,⟨0,0,⟨#[]⟩⟩,[]⟩
def c3:Ch:=⟨3,⟨#[97]⟩,⟨⟨#[98]⟩,0,0⟩,⟨0,0,⟨#[]⟩⟩,[]⟩
theorem Rd.ne {w:World} {A:Option Addr} {cs bs:List Value} {b:Nat} {T:TypeId} (h:Rd w A cs) (hb:OBox w b bs T) (hd:∀u,cs[0]?=some u→u ∉ bs):RdP (fun g=>g≠b) w A cs:=fun hn=>by
 obtain⟨ad,e,hc⟩:=h hn
 refine⟨ad,e,?_,hc⟩
 rintro rfl
 cases cs with
 |nil=>exact hn rfl
 |cons u r=>
  have h0:=hc 0 u rfl
  have e0:ad.add 0=ad:=rfl
  rw[e0] at h0
  unfold World.cell? at h0
  have hb':w.heap[ad.block]?=some (.cells bs.toArray T (0,0)):=hb
  rw[hb'] at h0
  simp only at h0
  split at h0
  ·cases h0
  ·have h1:bs[ad.off]?=some u:=by simpa using h0
   exact hd u rfl (J7 h1)
theorem cellsF_head {l:List Fd} {u:Value} (h:(cellsF l)[0]?=some u):∃s,u=.string s:=by
 cases l with
 |nil=>cases h
 |cons f r=>exact⟨f.s,by simp[cellsF] at h;exact h.symm⟩
theorem cellsM_head {l:List Mv} {u:Value} (h:(cellsM l)[0]?=some u):∃s,u=.int .i64 s:=by
 cases l with
 |nil=>cases h
 |cons f r=>exact⟨f.f,by simp[cellsM] at h;exact h.symm⟩
theorem RdF.set3 {w:World} {A:Option Addr} {l:List Fd} {b:Nat} {P0 P1 P2:Option Addr} {n0 n1 n2 c0 c1 c2:Nat} {T:TypeId} (h:Rd w A (cellsF l)) (hb:OBox w b [.slice P0 n0 c0,.slice P1 n1 c1,.slice P2 n2 c2] T) (x y z:Value):Rd (((w.setCell ⟨b,0,none⟩ x).setCell ⟨b,1,none⟩ y).setCell ⟨b,2,none⟩ z) A (cellsF l):=
 ((h.ne hb (fun u hu=>by obtain⟨s,rfl⟩:=cellsF_head hu;simp)).set3 b (fun g hg=>hg) 0 1 2 x y z).rd
theorem RdM.set3 {w:World} {A:Option Addr} {l:List Mv} {b:Nat} {P0 P1 P2:Option Addr} {n0 n1 n2 c0 c1 c2:Nat} {T:TypeId} (h:Rd w A (cellsM l)) (hb:OBox w b [.slice P0 n0 c0,.slice P1 n1 c1,.slice P2 n2 c2] T) (x y z:Value):Rd (((w.setCell ⟨b,0,none⟩ x).setCell ⟨b,1,none⟩ y).setCell ⟨b,2,none⟩ z) A (cellsM l):=
 ((h.ne hb (fun u hu=>by obtain⟨s,rfl⟩:=cellsM_head hu;simp)).set3 b (fun g hg=>hg) 0 1 2 x y z).rd
def NmS (l:List Fd):Prop:=∀f∈l,f.s.size≤281474976710656
theorem NmS.fds {l:List Fd} (h:NmS l):FdS l:=fun f hf=>Q7 (h f hf) (by decide)
theorem newF_names {l:List Fd} {c:Ch} (h:NmS l) (hg:c.g.s.size≤281474976710656):NmS (newF l c):=by
 intro f hf
 unfold newF at hf
 split at hf
 ·rcases X7.1 hf with h1|h1
  ·exact h f h1
  ·simp at h1;subst h1;exact hg
 ·split at hf
  ·exact h f (List.mem_of_mem_eraseIdx hf)
  ·split at hf
   ·obtain⟨i,hi⟩:=Qq.1 hf
    rw[List.getElem?_modify] at hi
    cases hx:l[i]? with
    |none=>rw[hx] at hi;cases hi
    |some x=>
     rw[hx] at hi
     have hi2:(if atC l c=i then(⟨c.g.s,x.k,x.l⟩:Fd) else x)=f:=Jj hi
     split at hi2
     ·subst hi2;exact hg
     ·subst hi2;exact h _ (J7 hx)
   ·split at hf
    ·obtain⟨i,hi⟩:=Qq.1 hf
     rw[List.getElem?_modify] at hi
     cases hx:l[i]? with
     |none=>rw[hx] at hi;cases hi
     |some x=>
      rw[hx] at hi
      have hi2:(if atC l c=i then(⟨x.s,c.g.k,c.g.l⟩:Fd) else x)=f:=Jj hi
      split at hi2
      ·subst hi2;exact h x (J7 hx)
      ·subst hi2;exact h _ (J7 hx)
    ·obtain⟨n,_,rfl⟩:=X5.1 hf
     cases hx:l[n.toNat]? with
     |none=>show(Fd.z).s.size≤_;exact X8 _
     |some x=>exact h x (J7 hx)
theorem newM_wo {l:List Fd} {c:Ch} (x0:0≤c.d.b) (x1:c.d.b<18446744073709551616):MvW (newM l c):=by
 unfold newM
 split
 ·exact w_add (kM_w _) x0 x1
 ·split
  ·exact w_del (kM_w _) _
  ·split
   ·exact w_ord _
   ·exact kM_w _
structure TOk (t:Tb):Prop where
 r:rightT t=true
 w:MvW t.m
 o:NmS t.o
 n:NmS t.n
theorem TOk.keep {l:List Fd} (h:rightF l=true) (hn:NmS l):TOk (keepT l):=by
 rw[keepT_right h]
 exact⟨keep_right h,kM_w _,hn,hn⟩
theorem TOk.make {l:List Fd} {c:Ch} (h:makeE l c=0) (hn:NmS l) (hg:c.g.s.size≤281474976710656) (x0:0≤c.d.b) (x1:c.d.b<18446744073709551616):TOk (makeT l c):=by
 obtain⟨h1,h2,h3,h4⟩:=makeE_right h
 rw[h4] at h1 ⊢
 exact⟨h1,newM_wo x0 x1,hn,newF_names hn hg⟩
theorem TOk.comp {a b:Tb} (ha:TOk a) (hb:TOk b) (h:composeE a b=0):TOk (composeT a b):=by
 obtain⟨h1,h2,h3⟩:=composeE_right h
 rw[h3]
 exact⟨h2,compM_w ha.w hb.w _,ha.o,hb.n⟩
theorem composeE_ways (a b:Tb):composeE a b=0∨composeE a b=70:=by unfold composeE;split <;> simp
theorem goT_make {t:Tb} {c:Ch} {r:List Ch} (h:¬makeE t.n c=0):goT t (c :: r)=(Tb.z,makeE t.n c):=by rw[goT,if_neg h]
theorem goT_comp {t:Tb} {c:Ch} {r:List Ch} (h:makeE t.n c=0) (h2:¬composeE t (makeT t.n c)=0):goT t (c :: r)=(Tb.z,70):=by rw[goT,if_pos h,if_neg h2]
theorem goT_next {t:Tb} {c:Ch} {r:List Ch} (h:makeE t.n c=0) (h2:composeE t (makeT t.n c)=0):goT t (c :: r)=goT (composeT t (makeT t.n c)) r:=by rw[goT,if_pos h,if_pos h2]
def ChW (p:Ch×Value):Prop:=(-9223372036854775808≤p.1.op∧p.1.op≤9223372036854775807)∧(0≤p.1.d.b∧p.1.d.b<18446744073709551616)∧p.1.q.length≤17592186044415∧p.1.g.s.size≤281474976710656
theorem rCompose_m (a b:Tb) (X0 X1 X2 Z0 Z1 Z2:Option Addr) (x0 x1 x2 z0 z1 z2 ao an am bo bn bm:Nat) (hao:a.o.length=ao) (han:a.n.length=an) (ham:a.m.length=am) (hbo:b.o.length=bo) (hbn:b.n.length=bn) (hbm:b.m.length=bm) (l0:ao≤9223372036854775807) (l1:an≤9223372036854775807) (l2:am≤9223372036854775807) (l3:bo≤9223372036854775807) (l4:bn≤9223372036854775807) (l5:bm≤9223372036854775807) (wa:MvW a.m) (wb:MvW b.m) (sa:FdS a.o) (sb:FdS a.n) (sc:FdS b.o) (sd:FdS b.n) (w:World) (r0:Rd w X0 (cellsF a.o)) (r1:Rd w X1 (cellsF a.n)) (r2:Rd w X2 (cellsM a.m)) (s0:Rd w Z0 (cellsF b.o)) (s1:Rd w Z1 (cellsF b.n)) (s2:Rd w Z2 (cellsM b.m)):
 Calls Tryz.prog 155 #[.agg #[.slice X0 ao x0,.slice X1 an x1,.slice X2 am x2],.agg #[.slice Z0 bo z0,.slice Z1 bn z1,.slice Z2 bm z2]] w fun e w'=>CoR (composeT a b) (composeE a b) w e w':=by
 cases hm:meetB a b
 ·obtain⟨e1,e2⟩:=meet_no hm
  rw[e1,e2]
  exact rCompose_no a b X0 X1 X2 Z0 Z1 Z2 x0 x1 x2 z0 z1 z2 ao an am bo bn bm hao han ham hbo hbn hbm l0 l1 l2 l3 l4 l5 wa wb sa sb sc sd w r0 r1 r2 s0 s1 s2 hm
 ·have h:=rCompose_yes a b X0 X1 X2 Z0 Z1 Z2 x0 x1 x2 z0 z1 z2 ao an am bo bn bm hao han ham hbo hbn hbm l0 l1 l2 l3 l4 l5 wa wb sa sb sc sd w r0 r1 r2 s0 s1 s2 hm _ rfl
  cases hr:rightT (compT a b)
  ·rw[hr] at h
   have e1:composeE a b=70:=by rw[composeE,if_neg (by rw[hr];rintro ⟨_,h⟩;cases h)]
   rw[composeT,e1,if_neg (by decide)]
   exact h
  ·rw[hr] at h
   have e1:composeE a b=0:=by rw[composeE,if_pos ⟨hm,hr⟩]
   rw[composeT,e1,if_pos rfl]
   exact h
end
section
open Go.RowKit
theorem TSame_cap (A:Option Addr) (c m:Nat) (l:List Fd) (hm:l.length=m) (hr:rightF l=true) (w:World) (hA:Rd w A (cellsF l)) (hl:m≤9223372036854775807) (hc:m≤c):
 Calls Tryz.prog 45 #[.slice A m c] w fun e w'=>∃B d v2 v3 b1 b2,e=.returned (.agg #[.slice B m d,v2,v3])∧m≤d∧w.heap.size≤b1∧b1≤b2∧b2≤w'.heap.size∧RdB b1 w' B (cellsF l)∧(∀ad,B=some ad→w.heap.size≤ad.block∧ad.block<b1)∧w'.ownsRow b1 68 3 v2 m (cellsF l)∧OwnLt b2 v2∧w'.ownsRow b2 137 4 v3 m (cellsM (kM m))∧Below w.heap.size w w':=by
 obtain⟨i0,hi,hz0,hz1,hz2⟩:=info_parts infoMv
 have h16:m≤16:=by rw[←hm];exact(rightF_may hr).2
 have hb1:=below_new (w:=w) (.cells #[.slice none 0 0,.slice none 0 0,.slice none 0 0] 96)
 have R:=OBox.new w [.slice none 0 0,.slice none 0 0,.slice none 0 0] 96
 have HB:=hb1
 replace hA:=hA.below hb1
 have HM:=J0 hm
 have HR:=J0 hr
 have tok1:=True.intro
 clear hm hr hb1
 go_enter Tryz.func45,Tryz.ntmps45
 go_wp2_with (first
  |(go_at_call 62;refine(Right_m A c m l HM.out true HR.out _ hA hl).mono ?_;rintro e W1 ⟨rfl,hb⟩;replace HB:=HB.trans (hb.mono HB.size);replace R:=R.below hb;replace hA:=hA.below hb;have hz1W:w.heap.size+1≤W1.heap.size:=R.lt;clear hb)
  |(have _t:=tok1;go_at_call 35;refine(CloneF_m A c m l HM.out _ hA (by omega) hc).mono ?_;rintro e W2 ⟨B,d,rfl,hd,own1,hb⟩;replace HB:=HB.trans (hb.mono HB.size);replace R:=R.below hb;replace hA:=hA.below hb;have hz12:=HB.size;have h12:=hb.size;clear hb tok1;have tok2:=True.intro)
  |(have _t:=tok2;go_at_call 35;refine(CloneF_m A c m l HM.out _ hA (by omega) hc).mono ?_;rintro e W3 ⟨B2,d2,rfl,hd2,own2,hb3⟩;replace HB:=HB.trans (hb3.mono HB.size);replace R:=R.below hb3;clear hA tok2))
 have O:=OBox.new W3 [.slice B m d,.slice B2 m d2,.slice none 0 0] 96
 have hb2:=below_new (w:=W3) (.cells #[.slice B m d,.slice B2 m d2,.slice none 0 0] 96)
 have hzW:w.heap.size<W3.heap.size:=R.lt
 have h23:=hb3.size
 have lt1:OwnLt W2.heap.size (.slice B m d):=own_lt own1
 have own1':=own_mono (own_below (own_below own1 hb3) hb2) hz1W
 have own2':=own_below own2 hb2
 have lt2:OwnLt W3.heap.size (.slice B2 m d2):=own_lt own2
 have R0:=R.below hb2
 have HB0:=HB.trans (hb2.mono HB.size)
 clear hb2 HB R own1 own2 hb3
 go_loopw [4,16] (fun i j wr=>∃(k:Nat) (v:Value),k≤m∧j=.int .i64 k∧wr.ownsRow (W3.heap.size+1) 137 4 v k (cellsM (kM k))∧OBox wr W3.heap.size [.slice B m d,.slice B2 m d2,v] 96∧OBox wr w.heap.size [.slice none 0 0,.slice none 0 0,.slice none 0 0] 96∧Below w.heap.size w wr∧W3.heap.size<wr.heap.size∧wr.ownsRow (w.heap.size+1) 68 3 (.slice B m d) m (cellsF l)∧wr.ownsRow W2.heap.size 68 3 (.slice B2 m d2) m (cellsF l)) (fun _ i _=>m - (intOf i).toNat)
 case atStart=>exact⟨0,_,by omega,rfl,own_nil _ _ _ _,O,R0,HB0,by simp,own1',own2'⟩
 case round=>
  obtain⟨k,v,hk,rfl,hown,O,R,HB,hz,own1,own2⟩:=hrel
  clear R0 HB0
  by_cases hlt:k<m
  ·have HK:=J0 (kM_succ k)
   obtain⟨k0,k1,k2,f0,f1,f2⟩:=(O.below (below_new (w:=wr) (.cells #[.int .i64 k,.int .i64 0,.int .u64 0,.string ⟨#[]⟩] 137))).f3
   obtain⟨q0,q1,q2,p0,p1,p2⟩:=O.f3
   go_wp2_with (at_builtin;refine wpList_append_own _ rfl _ _ 94 rfl (W3.heap.size+1) 137 i0 (.agg #[.int .i64 0,.int .i64 0,.int .u64 0,.string ⟨#[]⟩]) 4 40 Tryz.underlying94 hi hz0 hz1 hz2 rfl (by decide) _ _ _ rfl (hown.alloc _) ⟨wr.heap.size,0,none⟩ 1 1 [.int .i64 k,.int .i64 0,.int .u64 0,.string ⟨#[]⟩] rfl rfl ?c1 ?c2 ?c3 ?c4 ?c5 ?_)
   case c1=>exact news4 _ _ _ _ _ _
   case c2=>intro u hu;simp at hu;rcases hu with rfl|rfl|rfl|rfl <;> rfl
   case c3=>simp only[maxLen];omega
   case c4=>omega
   case c5=>simp;omega
   intro v' w3 hown' hgrow _
   have BG:Below (W3.heap.size+1) wr w3:=((Jy _ _).alloc (by omega) (.cells #[.int .i64 k,.int .i64 0,.int .u64 0,.string ⟨#[]⟩] 137)).grown hgrow (by simp;omega) (fun q hq=>own_base hown q hq)
   have O3:OBox w3 W3.heap.size [.slice B m d,.slice B2 m d2,v] 96:=(BG.block _ (by omega)).trans O
   have R3:OBox w3 w.heap.size [.slice none 0 0,.slice none 0 0,.slice none 0 0] 96:=(BG.block _ (by omega)).trans R
   have HB3:=HB.trans (BG.mono (by omega))
   have hown3:w3.ownsRow (W3.heap.size+1) 137 4 v' (k+1) (cellsM (kM (k+1))):=own_eq hown' (by simp) (by rw[HK.out,cellsM_append];rfl)
   have hz3:=BG.size
   obtain⟨B',c',rfl,_,_,_⟩:=own_rd hown3
   clear hown' hgrow hown k0 k1 k2 f0 f1 f2 q0 q1 q2 p0 p1 p2
   obtain⟨k0,k1,k2,f0,f1,f2⟩:=O3.f3
   go_wp2
   go_roundw
   case rel=>
    have BS:Below W3.heap.size wr (w3.setCell ⟨W3.heap.size,2,none⟩ (.slice B' (k+1) c')):=(BG.mono (Nat.le_succ _)).setCell (J9 _) _
    exact⟨k+1,_,by omega,by go_num,ownsRow_setCell_below hown3 (by show _<_;simp) _,obox_set O3 2 _,(J5 _ _ _ _ (by show _≠_;simp;omega)).trans R3,HB3.setCell (by show _≤_;simp;omega) _,by simp;omega,own_belowB own1 lt1 (BS.mono h23),own_belowB own2 lt2 BS⟩
   case measure=>simp[intOf];omega
  ·obtain rfl:k=m:=by omega
   obtain⟨B',c',rfl,_,_,_⟩:=own_rd hown
   obtain⟨k0,k1,k2,f0,f1,f2⟩:=O.f3
   obtain⟨q0,q1,q2,p0,p1,p2⟩:=R.f3
   go_wp2
   refine bodyPost_ret (v:=.agg #[.slice B k d,.slice B2 k d2,.slice B' k c']) (by simp[results,Tryz.results45,go_sem, *];done) rfl ⟨B,d,_,_,W2.heap.size,W3.heap.size,rfl,hd,hz12,h23,?_,?_,?_,?_,lt2,?_,?_⟩
   ·simp;omega
   ·refine RdB.own (ownsRow_setCell_below (ownsRow_setCell_below (ownsRow_setCell_below own1 ?_ _) ?_ _) ?_ _) lt1 <;> (show _<_;simp)
   ·intro ad e;have:=own_base own1 ad.block (by rw[e];rfl);have:=lt1 ad.block (by rw[e];rfl);omega
   ·refine ownsRow_setCell_below (ownsRow_setCell_below (ownsRow_setCell_below own2 ?_ _) ?_ _) ?_ _ <;> (show _<_;simp;omega)
   ·refine own_mono (ownsRow_setCell_below (ownsRow_setCell_below (ownsRow_setCell_below hown ?_ _) ?_ _) ?_ _) (Nat.le_succ _) <;> (show _<_;simp;omega)
   ·(repeat (first|exact HB|refine J8 ?_ (by dsimp only;omega) _|refine Jk ?_ (by have hs_:=HB.size;first|(simp;done)|(simp;omega)|omega) _|apply Jv))
end
end Go.Proofs.YteembinfgbapgaaGreat
