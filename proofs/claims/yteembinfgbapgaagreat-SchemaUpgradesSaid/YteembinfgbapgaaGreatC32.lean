/- Merged out of: Te Tb Tp Tf. -/
import Derived.Test.YteembinfgbapgaaGreatC00
import Derived.Test.YteembinfgbapgaaGreatC31
import Derived.Test.YteembinfgbapgaaGreatC29
import Derived.Test.YteembinfgbapgaaGreatC01
import Derived.Maps.AppendAt
import Derived.Deep.RegionLawGrows
set_option linter.unusedSimpArgs false
set_option linter.unusedVariables false
set_option maxRecDepth 100000
set_option maxHeartbeats 8000000
namespace Go.Proofs.YteembinfgbapgaaGreat
section
open Go.RowKit Go.Lib
theorem RdP.and {P Q:Nat→Prop} {w:World} {A:Option Addr} {cs:List Value} (h:RdP P w A cs) (k:RdP Q w A cs):RdP (fun g=>P g∧Q g) w A cs:=fun hn=>by
 obtain⟨ad,e,hp,hc⟩:=h hn
 obtain⟨ad',e',hq,_⟩:=k hn
 rw[e] at e';cases e'
 exact⟨ad,e,⟨hp,hq⟩,hc⟩
theorem RdFP.set3 {P:Nat→Prop} {w:World} {A:Option Addr} {l:List Fd} {b:Nat} {P0 P1 P2:Option Addr} {n0 n1 n2 c0 c1 c2:Nat} {T:TypeId} (h:RdP P w A (cellsF l)) (hb:OBox w b [.slice P0 n0 c0,.slice P1 n1 c1,.slice P2 n2 c2] T) (x y z:Value):RdP P (((w.setCell ⟨b,0,none⟩ x).setCell ⟨b,1,none⟩ y).setCell ⟨b,2,none⟩ z) A (cellsF l):=
 ((h.and (h.rd.ne hb (fun u hu=>by obtain⟨s,rfl⟩:=cellsF_head hu;simp))).set3 b (fun g hg=>hg.2) 0 1 2 x y z).mono (fun g hg=>hg.1)
theorem RdMP.set3 {P:Nat→Prop} {w:World} {A:Option Addr} {l:List Mv} {b:Nat} {P0 P1 P2:Option Addr} {n0 n1 n2 c0 c1 c2:Nat} {T:TypeId} (h:RdP P w A (cellsM l)) (hb:OBox w b [.slice P0 n0 c0,.slice P1 n1 c1,.slice P2 n2 c2] T) (x y z:Value):RdP P (((w.setCell ⟨b,0,none⟩ x).setCell ⟨b,1,none⟩ y).setCell ⟨b,2,none⟩ z) A (cellsM l):=
 ((h.and (h.rd.ne hb (fun u hu=>by obtain⟨s,rfl⟩:=cellsM_head hu;simp))).set3 b (fun g hg=>hg.2) 0 1 2 x y z).mono (fun g hg=>hg.1)
theorem AllL_no (l:List Fd) (m:Nat) (hm:l.length=m) (hl:m≤9223372036854775807) (A:Option Addr) (cA:Nat) (hcA:m≤cA) (K:Option Addr) (cK nc:Nat) (cs:List (Ch×Value)) (hnc:cs.length=nc) (hk:nc≤9223372036854775807) (hn:NmS l) (hw:∀p∈cs,ChW p) (w:World) (hA:Rd w A (cellsF l)) (hK:Rd w K (cellsC cs)) (ho:∀p∈cs,ChO w p) (hr:rightF l=false):
 Calls Tryz.prog 63 #[.slice A m cA,.slice K nc cK] w fun e w'=>CoL Tb.z 60 w e w':=by
 have nb:=below_new (w:=w) (.cells #[.slice none 0 0,.slice none 0 0,.slice none 0 0] 96)
 have R:=OBox.new w [.slice none 0 0,.slice none 0 0,.slice none 0 0] 96
 have HB:=nb
 have hA1:=hA.below nb
 have HM:=J0 hm;have HR:=J0 hr
 clear nb hm hr hw ho hK hnc
 go_enter Tryz.func63,Tryz.ntmps63
 go_wp2_with (go_at_call 62;refine(Right_m A cA m l HM.out false HR.out _ hA1 hl).mono ?_;rintro e W1 ⟨rfl,hb⟩;replace HB:=HB.trans (hb.mono HB.size);replace R:=R.below hb;obtain⟨q0,q1,q2,q3,q4,q5⟩:=R.f3;clear hb)
 refine bodyPost_ret (v:=.tuple #[.agg #[.slice none 0 0,.slice none 0 0,.slice none 0 0],.int .i64 60]) (by simp[results,Tryz.results63,go_sem, *];done) rfl ⟨none,0,none,0,none,0,rfl,J9 _,J9 _,fun h=>absurd rfl h,fun h=>absurd rfl h,fun h=>absurd rfl h,?_⟩
 (repeat (first|exact HB|refine J8 ?_ (by dsimp only;omega) _|refine Jk ?_ (by have hs_:=HB.size;first|(simp;done)|(simp;omega)|omega) _|apply Jv))
theorem AllL_yes (l:List Fd) (m:Nat) (hm:l.length=m) (hl:m≤9223372036854775807) (A:Option Addr) (cA:Nat) (hcA:m≤cA) (K:Option Addr) (cK nc:Nat) (cs:List (Ch×Value)) (hnc:cs.length=nc) (hk:nc≤9223372036854775807) (hn:NmS l) (hw:∀p∈cs,ChW p) (w:World) (hA:Rd w A (cellsF l)) (hK:Rd w K (cellsC cs)) (ho:∀p∈cs,ChO w p) (hr:rightF l=true) (T:Tb) (code:Int) (hT:goT (keepT l) (cs.map (·.1))=(T,code)):
 Calls Tryz.prog 63 #[.slice A m cA,.slice K nc cK] w fun e w'=>CoL T code w e w':=by
 have hk0:=keepT_right hr
 have tk:=TOk.keep hr hn
 have nb:=below_new (w:=w) (.cells #[.slice none 0 0,.slice none 0 0,.slice none 0 0] 96)
 have R:=OBox.new w [.slice none 0 0,.slice none 0 0,.slice none 0 0] 96
 have HB:=nb
 have hA1:=hA.below nb
 have HM:=J0 hm;have HR:=J0 hr;have HNC:=J0 hnc;have HT:=J0 hT;have HK0:=J0 hk0;have TK:=J0 tk;have HW:=J0 hw;have HO:=J0 ho
 clear nb hm hr hnc hT hk0 tk hw ho hn
 go_enter Tryz.func63,Tryz.ntmps63
 go_upto_region 4 with (first
  |(go_at_call 62;refine(Right_m A cA m l HM.out true HR.out _ hA1 hl).mono ?_;rintro e W1 ⟨rfl,hb⟩;replace HB:=HB.trans (hb.mono HB.size);replace R:=R.below hb;replace hA1:=hA1.below hb;have hwW1:=HB.size;clear hb)
  |(go_at_call 45;refine(TSame_cap A cA m l HM.out HR.out _ hA1 hl hcA).mono ?_;rintro e W2 ⟨B,d,v2,v3,b1,b2,rfl,hd,hb1,hb12,hb2,R1,hBl,own2,lt2,own3,hbS⟩;obtain⟨X1,z1,rfl,u1,u2,r1⟩:=own_rd own2;obtain⟨X2,z2,rfl,u4,u5,r2⟩:=own_rd own3;have hz:=hbS.size;replace HB:=HB.trans (hbS.mono HB.size);replace R:=R.below hbS))
 have TB:=OBox.new W2 [.slice B m d,.slice X1 m z1,.slice X2 m z2] 96
 have nb2:=below_new (w:=W2) (.cells #[.slice B m d,.slice X1 m z1,.slice X2 m z2] 96)
 have RR:=R.below nb2
 have HB0:=HB.trans (nb2.mono HB.size)
 have hw1:w.heap.size≤W1.heap.size:=hwW1
 have r0:RdP (fun g=>w.heap.size≤g) _ B (cellsF l):=(RdP.mk R1.rd (fun ad e=>by show w.heap.size≤ad.block;have:=(hBl ad e).1;omega)).up nb2
 replace r1:RdP (fun g=>w.heap.size≤g) _ X1 (cellsF l):=(own_P own2 (fun g hg=>by show w.heap.size≤g;have:=own_base own2 g hg;omega)).up nb2
 replace r2:RdP (fun g=>w.heap.size≤g) _ X2 (cellsM (kM m)):=(own_P own3 (fun g hg=>by show w.heap.size≤g;have:=own_base own3 g hg;omega)).up nb2
 have hq0:=R.lt
 generalize W2.alloc (.cells #[.slice B m d,.slice X1 m z1,.slice X2 m z2] 96)=W3 at *
 obtain⟨q,hq⟩:∃q,W2.heap.size=q:=⟨_,rfl⟩
 rw[hq] at TB hq0 ⊢
 have HQ:=J0 hq0
 clear hq hq0 nb2 R HB R1 hBl own2 lt2 own3 hbS hb1 hb12 hb2 hz u2 u4 u5 hA1
 clear hw1 hwW1
 clear W2 W1 b1 b2
 go_wp2
 go_loopw [8,9,10,19] (fun _ _ _ i wr=>∃(j:Nat) (t:Tb) (no nn nm:Nat) (Y0:Option Addr) (y0:Nat) (Y1:Option Addr) (y1:Nat) (Y2:Option Addr) (y2:Nat),j≤nc∧i=.int .i64 j∧Hid (t.o.length=no)∧Hid (t.n.length=nn)∧Hid (t.m.length=nm)∧OBox wr q [.slice Y0 no y0,.slice Y1 nn y1,.slice Y2 nm y2] 96∧no≤y0∧nn≤y1∧RdP (fun g=>w.heap.size≤g) wr Y0 (cellsF t.o)∧RdP (fun g=>w.heap.size≤g) wr Y1 (cellsF t.n)∧RdP (fun g=>w.heap.size≤g) wr Y2 (cellsM t.m)∧Hid (TOk t)∧Hid (goT t ((cs.drop j).map (·.1))=(T,code))∧OBox wr w.heap.size [.slice none 0 0,.slice none 0 0,.slice none 0 0] 96∧Below w.heap.size w wr) (fun _ _ _ i _=>nc - (intOf i).toNat)
 case atStart=>exact⟨0,keepT l,m,m,m,_,_,_,_,_,_,by omega,rfl,J0 (by rw[HK0.out];exact HM.out),J0 (by rw[HK0.out];exact HM.out),J0 (by rw[HK0.out];show(kM l.length).length=m;rw[kM_length];exact HM.out),TB,hd,u1,by rw[HK0.out];exact r0,by rw[HK0.out];exact r1,by rw[HK0.out];show RdP _ _ _ (cellsM (kM l.length));rw[HM.out];exact r2,TK,HT,RR,HB0⟩
 case round=>
  obtain⟨j,t,no,nn,nm,Y0,y0,Y1,y1,Y2,y2,hj,rfl,HNO,HNN,HNM,TB,hy0,hy1,r0,r1,r2,HTK,HG,R,HB⟩:=hrel
  clear RR HB0 TK HT
  by_cases hlt:j<nc
  ·obtain⟨⟨c,pv⟩,hp⟩:∃p,cs[j]?=some p:=⟨_,J4 (by rw[HNC.out];exact hlt)⟩
   obtain⟨⟨p0,p1⟩,⟨x0,x1⟩,hq4,hgs⟩:(-9223372036854775808≤c.op∧c.op≤9223372036854775807)∧(0≤c.d.b∧c.d.b<18446744073709551616)∧c.q.length≤17592186044415∧c.g.s.size≤281474976710656:=HW.out _ (J7 hp)
   obtain⟨Q,qc,ev,hqc,RQ⟩:∃Q qc,pv=.slice Q c.q.length qc∧c.q.length≤qc∧Rd w Q (cellsI c.q):=by
    obtain⟨Q,qc,h1,h2,_,h4⟩:=HO.out _ (J7 hp)
    exact⟨Q,qc,h1,h2,h4⟩
   subst ev
   obtain⟨ad,rfl,c0,c1,c2,c3,c4,c5,c6,c7,c8⟩:=(hK.below HB).ch hp
   dsimp only at c0 c1 c2 c3 c4 c5 c6 c7 c8
   have hgo:goT t (c :: (cs.drop (j+1)).map (·.1))=(T,code):=by
    rw[←HG.out,List.drop_eq_getElem_cons (show j<cs.length by rw[HNC.out];exact hlt)]
    rw[J4 (by rw[HNC.out];exact hlt)] at hp
    rw[List.map_cons,Jj hp]
   obtain⟨n,hn⟩:∃n,c.q.length=n:=⟨_,rfl⟩
   simp only[hn] at c8 hqc hq4
   obtain⟨e0,he⟩:∃e,makeE t.n c=e:=⟨_,rfl⟩
   obtain⟨M,hM⟩:∃M,makeT t.n c=M:=⟨_,rfl⟩
   have HN:=J0 hn;have HE:=J0 he;have HMK:=J0 hM;have HGO:=J0 hgo
   have hs16:Hid (no≤16∧nn≤16∧nm≤16):=J0 (by have:=rightT_16 HTK.out.r;rw[HNO.out,HNN.out,HNM.out] at this;exact this)
   have nbc:=below_new (w:=wr) (.cells #[.int .i64 c.op,.string c.s,.string c.g.s,.int .i64 c.g.k,.int .i64 c.g.l,.int .i64 c.d.k,.int .u64 c.d.b,.string c.d.t,.slice Q n qc] 76)
   have C:CBox (wr.alloc (.cells #[.int .i64 c.op,.string c.s,.string c.g.s,.int .i64 c.g.k,.int .i64 c.g.l,.int .i64 c.d.k,.int .u64 c.d.b,.string c.d.t,.slice Q n qc] 76)) wr.heap.size c (.slice Q n qc) 76:=OBox.new wr (chL c (.slice Q n qc)) 76
   have hj0:(0:Int)≤(j:Int):=by omega
   have hj1:(j:Int)<(nc:Int):=by omega
   clear hn he hM hgo hp HG
   go_upto_region 7 with fail
   generalize wr.alloc (.cells #[.int .i64 c.op,.string c.s,.string c.g.s,.int .i64 c.g.k,.int .i64 c.g.l,.int .i64 c.d.k,.int .u64 c.d.b,.string c.d.t,.slice Q n qc] 76)=W4 at *
   clear c0 c1 c2 c3 c4 c5 c6 c7 c8
   obtain⟨a0,a1,a2,a3,a4,a5,a6,a7,a8⟩:=C.c9
   have TB4:=TB.below nbc
   obtain⟨t0,t1,t2,f0,f1,f2⟩:=TB4.f3
   have HB4:=HB.trans (nbc.mono HB.size)
   have RQ4:=RQ.below HB4
   have r14:=r1.rd.below nbc
   have hs2:=hs16.out
   go_wp2_with (go_at_call 97;refine(Make_m t.n c nn HNN.out (by omega) Y1 y1 hy1 Q n qc HN.out hq4 hqc p0 p1 x0 x1 _ r14 RQ4).mono ?_)
   rw[HMK.out,HE.out]
   rintro e W5 ⟨U0,_,v0,U1,_,v1,U2,_,v2,rfl,hTV,hb5⟩
   obtain⟨_,_,_,_,_,_,ev,hdU,s0',s1',s2'⟩:=hTV
   cases ev
   obtain⟨mo,hmo⟩:∃x,M.o.length=x:=⟨_,rfl⟩
   obtain⟨mn,hmn⟩:∃x,M.n.length=x:=⟨_,rfl⟩
   obtain⟨mm,hmm⟩:∃x,M.m.length=x:=⟨_,rfl⟩
   rw[hmn] at hdU
   rw[hmo,hmn,hmm]
   have HMO:=J0 hmo;have HMN:=J0 hmn;have HMM:=J0 hmm
   clear hmo hmn hmm a0 a1 a2 a3 a4 a5 a6 a7 a8 t0 t1 t2 f0 f1 f2 C RQ4 r14
   have nb6:=below_new (w:=W5) (.cells #[.slice U0 mo v0,.slice U1 mn v1,.slice U2 mm v2] 96)
   have MB:OBox (W5.alloc (.cells #[.slice U0 mo v0,.slice U1 mn v1,.slice U2 mm v2] 96)) W5.heap.size [.slice U0 mo v0,.slice U1 mn v1,.slice U2 mm v2] 96:=OBox.new W5 _ _
   have hb6:=below_seq (below_seq nbc hb5) nb6
   have s0:=s0'.rd.below nb6
   have s1:=s1'.rd.below nb6
   have s2:=s2'.rd.below nb6
   clear s0' s1' s2' HB4 TB4 nbc
   go_upto_region 8 with fail
   generalize W5.alloc (.cells #[.slice U0 mo v0,.slice U1 mn v1,.slice U2 mm v2] 96)=W6 at *
   have TB6:=TB.below hb6
   have R6:=R.below hb6
   have HB6:=HB.trans (hb6.mono HB.size)
   have r06:=r0.rd.below hb6
   have r16:=r1.rd.below hb6
   have r26:=r2.rd.below hb6
   obtain⟨q0,q1,q2,g0,g1,g2⟩:=R6.f3
   clear r0 r1 r2 HB TB R hb5 nb6 hb6
   by_cases h0:e0=0
   ·subst h0
    obtain⟨t0,t1,t2,f0,f1,f2⟩:=TB6.f3
    obtain⟨m0,m1,m2,_,_,_⟩:=MB.f3
    have hMk:TOk M:=by rw[←HMK.out];exact TOk.make HE.out HTK.out.n hgs x0 x1
    have HMT:=J0 hMk
    have hm16:Hid (mo≤16∧mn≤16∧mm≤16):=J0 (by have:=rightT_16 hMk.r;rw[HMO.out,HMN.out,HMM.out] at this;exact this)
    clear hMk
    have hs3:=hm16.out
    go_wp2_with (go_at_call 98;refine(ComposeL_m t M Y0 Y1 Y2 U0 U1 U2 y0 y1 y2 v0 v1 v2 no nn nm mo mn mm HNO.out HNN.out HNM.out HMO.out HMN.out HMM.out (by omega) (by omega) (by omega) (by omega) (by omega) (by omega) HTK.out.w HMT.out.w _ r06 r16 r26 s0 s1 s2 hy0 hdU).mono ?_)
    obtain⟨G,hG⟩:∃G,composeT t M=G:=⟨_,rfl⟩
    obtain⟨lo,hlo⟩:∃x,G.o.length=x:=⟨_,rfl⟩
    obtain⟨ln,hln⟩:∃x,G.n.length=x:=⟨_,rfl⟩
    obtain⟨lm,hlm⟩:∃x,G.m.length=x:=⟨_,rfl⟩
    rw[hG]
    rintro e W7 ⟨V0,w0,V1,w1,V2,w2,rfl,hc0,hc1,a0,a1,a2,hb7⟩
    rw[hlo] at hc0
    rw[hln] at hc1
    rw[hlo,hln,hlm]
    have HGL:=J0 hlo;have HGN:=J0 hln;have HGM:=J0 hlm;have HGT:=J0 hG
    have TB7:=TB6.below hb7
    have R7:=R6.below hb7
    have HB7:=HB6.trans (hb7.mono HB6.size)
    have hw6:=HB6.size
    replace a0:=a0.mono (Q:=fun g=>w.heap.size≤g) (fun g hg=>Q7 hw6 hg)
    replace a1:=a1.mono (Q:=fun g=>w.heap.size≤g) (fun g hg=>Q7 hw6 hg)
    replace a2:=a2.mono (Q:=fun g=>w.heap.size≤g) (fun g hg=>Q7 hw6 hg)
    clear hlo hln hlm hG q0 q1 q2 g0 g1 g2 t0 t1 t2 f0 f1 f2 m0 m1 m2 TB6 R6 HB6 r06 r16 r26 s0 s1 s2 hb7 MB
    obtain⟨t0,t1,t2,f0,f1,f2⟩:=TB7.f3
    obtain⟨q0,q1,q2,g0,g1,g2⟩:=R7.f3
    have hwq:=HQ.out
    rcases composeE_ways t M with h2|h2
    ·rw[h2]
     have hG1:TOk G:=by rw[←HGT.out];exact TOk.comp HTK.out HMT.out h2
     have hG2:goT G ((cs.drop (j+1)).map (·.1))=(T,code):=by
      have h:=HGO.out
      rw[goT_next HE.out (by rw[HMK.out];exact h2),HMK.out,HGT.out] at h
      exact h
     have HG1:=J0 hG1
     have HG2:=J0 hG2
     clear hG1 hG2 h2
     go_wp2
     go_roundw
     case rel=>
      exact⟨j+1,G,lo,ln,lm,V0,w0,V1,w1,V2,w2,by omega,by go_num,HGL,HGN,HGM,obox_set (obox_set (obox_set TB7 0 (.slice V0 lo w0)) 1 (.slice V1 ln w1)) 2 (.slice V2 lm w2),hc0,hc1,RdFP.set3 a0 TB7 _ _ _,RdFP.set3 a1 TB7 _ _ _,RdMP.set3 a2 TB7 _ _ _,HG1,HG2,OBox.far (OBox.far (OBox.far R7 (p:=⟨q,0,none⟩) (by show q≠_;omega) _) (p:=⟨q,1,none⟩) (by show q≠_;omega) _) (p:=⟨q,2,none⟩) (by show q≠_;omega) _,((HB7.setCell (p:=⟨q,0,none⟩) (Nat.le_of_lt hwq) _).setCell (p:=⟨q,1,none⟩) (Nat.le_of_lt hwq) _).setCell (p:=⟨q,2,none⟩) (Nat.le_of_lt hwq) _⟩
     case measure=>simp[intOf];omega
    ·rw[h2]
     obtain⟨rfl,rfl⟩:Tb.z=T∧70=code:=by
      have h:=HGO.out
      rw[goT_comp HE.out (by rw[HMK.out,h2];decide)] at h
      exact⟨congrArg Prod.fst h,congrArg Prod.snd h⟩
     clear h2
     go_wp2
     refine bodyPost_ret (v:=.tuple #[.agg #[.slice none 0 0,.slice none 0 0,.slice none 0 0],.int .i64 70]) (by simp[results,Tryz.results63,go_sem, *];done) rfl ⟨none,0,none,0,none,0,rfl,J9 _,J9 _,fun h=>absurd rfl h,fun h=>absurd rfl h,fun h=>absurd rfl h,?_⟩
     have HB:=HB7
     (repeat (first|exact HB|refine J8 ?_ (by dsimp only;omega) _|refine Jk ?_ (by have hs_:=HB.size;first|(simp;done)|(simp;omega)|omega) _|apply Jv))
   ·have e1:(e0 == 0)=false:=by simpa using h0
    have e2:(e0 != 0)=true:=by simpa using h0
    obtain⟨rfl,rfl⟩:Tb.z=T∧e0=code:=by
     have h:=HGO.out
     rw[goT_make (by rw[HE.out];exact h0),HE.out] at h
     exact⟨congrArg Prod.fst h,congrArg Prod.snd h⟩
    clear h0
    go_wp2
    refine bodyPost_ret (v:=.tuple #[.agg #[.slice none 0 0,.slice none 0 0,.slice none 0 0],.int .i64 e0]) (by simp[results,Tryz.results63,go_sem, *];done) rfl ⟨none,0,none,0,none,0,rfl,J9 _,J9 _,fun h=>absurd rfl h,fun h=>absurd rfl h,fun h=>absurd rfl h,?_⟩
    have HB:=HB6
    (repeat (first|exact HB|refine J8 ?_ (by dsimp only;omega) _|refine Jk ?_ (by have hs_:=HB.size;first|(simp;done)|(simp;omega)|omega) _|apply Jv))
  ·obtain rfl:j=nc:=by omega
   have h:=HG.out
   rw[List.drop_of_length_le (by rw[HNC.out];exact J9 _)] at h
   have hT1:t=T:=congrArg Prod.fst h
   have hT2:(0:Int)=code:=congrArg Prod.snd h
   subst hT1 hT2
   clear h HG
   obtain⟨t0,t1,t2,f0,f1,f2⟩:=TB.f3
   obtain⟨q0,q1,q2,g0,g1,g2⟩:=R.f3
   go_wp2
   refine bodyPost_ret (v:=.tuple #[.agg #[.slice Y0 no y0,.slice Y1 nn y1,.slice Y2 nm y2],.int .i64 0]) (by simp[results,Tryz.results63,go_sem, *];done) rfl ?_
   have e1:=HNO.out
   have e2:=HNN.out
   have e3:=HNM.out
   refine⟨Y0,y0,Y1,y1,Y2,y2,by rw[e1,e2,e3],by rw[e1];exact hy0,by rw[e2];exact hy1,RdFP.set3 r0 R _ _ _,RdFP.set3 r1 R _ _ _,RdMP.set3 r2 R _ _ _,?_⟩
   (repeat (first|exact HB|refine J8 ?_ (by dsimp only;omega) _|refine Jk ?_ (by have hs_:=HB.size;first|(simp;done)|(simp;omega)|omega) _|apply Jv))
theorem AllL_m (l:List Fd) (m:Nat) (hm:l.length=m) (hl:m≤9223372036854775807) (A:Option Addr) (cA:Nat) (hcA:m≤cA) (K:Option Addr) (cK nc:Nat) (cs:List (Ch×Value)) (hnc:cs.length=nc) (hk:nc≤9223372036854775807) (hn:NmS l) (hw:∀p∈cs,ChW p) (w:World) (hA:Rd w A (cellsF l)) (hK:Rd w K (cellsC cs)) (ho:∀p∈cs,ChO w p):
 Calls Tryz.prog 63 #[.slice A m cA,.slice K nc cK] w fun e w'=>CoL (allT l (cs.map (·.1))).1 (allT l (cs.map (·.1))).2 w e w':=by
 cases hr:rightF l
 ·rw[allT,if_neg (by rw[hr];decide)]
  exact AllL_no l m hm hl A cA hcA K cK nc cs hnc hk hn hw w hA hK ho hr
 ·rw[allT,if_pos hr]
  exact AllL_yes l m hm hl A cA hcA K cK nc cs hnc hk hn hw w hA hK ho hr _ _ rfl
end
section
open Go.RowKit Go.Lib Go.Maps
section
variable {P:Program} {t k e:TypeId}
def prs (es:List MapEntry):List (Value×Value):=es.map fun x=>(x.key,x.val)
theorem map_replace (K:Keyed P k) (ht:P.underlying t=some (.map k e)) {w:World} {b:Nat} {es:List MapEntry} {clock:Nat} (hb:MBk w b es clock) (hes:∀x∈es,∃l,keyOf P k x.key=some l) {key val:Value} {l:Lit} (hk:keyOf P k key=some l) {i:Nat} {old:Value} (hi:(prs es)[i]?=some (key,old)) (hu:∀(j:Nat) (x:MapEntry),es[j]?=some x→x.key=key→j=i):
 ∃w' es',(Instr.mapUpdate t (.map (some b)) key val).run P w=.ok () w'∧MBk w' b es' clock∧prs es'=(prs es).set i (key,val)∧es'.map (·.born)=es.map (·.born)∧w.grownBy w' (some b)∧w'.heap.size=w.heap.size:=by
 have hlt:b<w.heap.size:=(Qk.1 hb).1
 obtain⟨x0,hx0,hx1⟩:∃x,es[i]?=some x∧x.key=key:=by
  rw[prs,Kv] at hi
  cases hx:es[i]? with
  |none=>rw[hx] at hi;cases hi
  |some x=>rw[hx] at hi;exact⟨x,rfl,congrArg Prod.fst (Jj hi)⟩
 obtain⟨j,x,hfind,h2,h3⟩:∃j x,(Instr.findKey k key es).run P w=.ok (some (j,x.val)) w∧es[j]?=some x∧x.key=key:=by
  rcases K.find w hk es hes with ⟨_,h⟩|h
  ·exact absurd hx1 (h x0 (J7 hx0))
  ·exact h
 obtain rfl:j=i:=hu j x h2 h3
 refine⟨{ w with heap:=w.heap.setIfInBounds b (.map (es.toArray.modify j fun e=>{ e with key:=key,val:=val }) clock) },(es.toArray.modify j fun e=>{ e with key:=key,val:=val }).toList,?_,?_,?_,?_,?_,by simp⟩
 ·have hst:=K.stays w hk
  have hkey:((es.toArray[j]?).map (·.key)).getD key=key:=by
   have:es.toArray[j]?=some x:=by simpa using h2
   rw[this];exact h3
  have hkey2:((es[j]?).map (·.key)).getD key=key:=by rw[h2];exact h3
  simp[Instr.mapUpdate,run_underlying ht,MapKept.run_getObj_map hb,K.check w false hk,hfind,hkey,hkey2,hst,MapKept.run_setObj_map _ hb,Result.andThen]
 ·simp[MBk,hlt]
 ·unfold prs
  apply Xv
  intro n
  by_cases hn:j=n
  ·subst hn
   have hjl:j<es.length:=(J6.1 h2).1
   simp[List.getElem?_set,hjl]
  ·simp[List.getElem?_set,hn,List.getElem?_modify]
 ·apply Xv
  intro n
  by_cases hn:j=n
  ·subst hn
   simp[List.getElem?_modify,h2]
  ·simp[hn,List.getElem?_modify]
 ·exact⟨rfl,rfl,rfl,by simp,fun j' hj hne=>by
   show(w.heap.setIfInBounds b _)[j']?=_
   rw[Array.getElem?_setIfInBounds_ne (by rintro rfl;exact hne rfl)]⟩
theorem key_string (hk:P.underlying k=some .string) {s:ByteArray} (h:s.size≤maxLen):∃l,keyOf P k (.string s)=some l:=by
 refine⟨.string s.data.toList,?_⟩
 simp[keyOf,hk,mapKey,h]
end
end
section
open Go.RowKit Go.Lib
def AllC (S:Value→Prop) (w:World) (g:Nat):Prop:=∀off u,w.cell? ⟨g,off,none⟩=some u→S u
theorem AllC.of {S:Value→Prop} {w:World} {g:Nat} {cs:Array Value} {e:TypeId} (h:w.heap[g]?=some (.cells cs e (0,0))) (hs:∀u∈cs.toList,S u):AllC S w g:=by
 intro off u hu
 simp[World.cell?,h] at hu
 exact hs u (by simpa using Array.mem_of_getElem? hu)
theorem AllC.get {S:Value→Prop} {w:World} {g:Nat} {cs:Array Value} {e:TypeId} (h:w.heap[g]?=some (.cells cs e (0,0))) (ha:AllC S w g):∀u∈cs.toList,S u:=by
 intro u hu
 obtain⟨i,hi⟩:=Array.mem_iff_getElem?.1 (Array.mem_def.2 hu)
 exact ha i u (by simp[World.cell?,h,hi])
theorem AllC.keep {S:Value→Prop} {w w':World} {g:Nat} (h:AllC S w g) (hk:w'.heap[g]?=w.heap[g]?):AllC S w' g:=fun off u hu=>h off u ((World.cell?_of_block (a:=⟨g,off,none⟩) hk).symm.trans hu)
theorem zeros_all {S:Value→Prop} {z:Array Value} {n:Nat} (hz:∀u∈z.toList,S u):∀u∈(Builtin.zeroCells z n).toList,S u:=by
 intro u hu
 simp only[Builtin.zeroCells,Array.toList_map,X5,Array.toList_range,List.mem_range] at hu
 obtain⟨i,hi,rfl⟩:=hu
 have h0:0<z.size:=by
  rcases Nat.eq_zero_or_pos z.size with h|h
  ·rw[h] at hi;simp at hi
  ·exact h
 have hlt:i % z.size<z.size:=Nat.mod_lt _ h0
 rw[getElem!_pos z _ hlt]
 exact hz _ (Array.mem_def.1 (Array.getElem_mem hlt))
section
variable {P:Program} (w:World)
theorem append_all {S:Value→Prop} (base:Nat) (t ty e:TypeId) (i:TypeInfo) (z:Value) (size bytes:Nat) (ht:P.underlying t=some (.slice e)) (hi:P.info? e=some i) (hz:i.zero=some z)
 (hsize:i.size=size) (hby:i.bytes=bytes)
 (v:Value) (n:Nat) (xs:List Value) (hown:w.ownsRow base e size v n xs)
 (a:Addr) (m c:Nat) (news:List Value) (hl:news.length=m * size) (hnews:∀j u,news[j]?=some u→w.cell? (a.add j)=some u) (h1:∀u∈news,u.oneCell'=true)
 (h63:n+m≤maxLen) (hbytes:(n+m) * bytes≤140737488355328) (hm:0<m)
 (sz:∀u∈z.cells.toList,S u) (sn:∀u∈news,S u) (so:∀g,v.ownBlock=some g→AllC S w g) {v':Value} {w':World}
 (hrun:(Builtin.append_ #[t,t] ty #[v,.slice (some a) m c]).run P w=.ok v' w'):∀g,v'.ownBlock=some g→AllC S w' g:=by
 subst hsize hby
 simp only[maxLen] at h63
 have fin:∀{u:Value} {W:World},(Builtin.append_ #[t,t] ty #[v,.slice (some a) m c]).run P w=.ok u W→v'=u∧w'=W:=fun h=>by
  rw[hrun] at h;injection h with h1 h2;exact⟨h1,h2⟩
 have fresh:∀(cs:List Value) (k l:Nat),(∀u∈cs,S u)→v'=.slice (some ⟨w.heap.size,0,none⟩) k l→∀q,w'=w.drew.alloc (.cells (cs.toArray++Builtin.zeroCells z.cells q) e)→∀g,v'.ownBlock=some g→AllC S w' g:=by
  intro cs k l hcs e1 q e2 g hg
  subst e1 e2
  cases hg
  refine AllC.of (heap_alloc_new w.drew _) fun u hu=>?_
  simp only[Array.toList_append,X7] at hu
  exact hu.elim (hcs u) (zeros_all sz u)
 rcases hown.2 with ⟨rfl,rfl⟩|⟨g,cap,cur,rfl,hbg,hg,hnc,hcm,hcs,htake⟩
 ·have hr:=run_append_nil (P:=P) w t ty e i z ht hi hz a m c news hl hnews hm (by omega) (by simp only[Nat.zero_add] at hbytes;omega)
  obtain⟨e1,e2⟩:=fin hr
  exact fresh news _ _ sn e1 _ e2
 ·have hcur:∀u∈cur.toList,S u:=(so g rfl).get hg
  by_cases hroom:n+m≤cap
  ·have hr:=run_append_room (P:=P) w t ty e i ht hi g n cap cur hg a m c news hl hnews h1 hroom (by rw[hl,hcs,←Nat.add_mul];exact Nat.mul_le_mul_right _ hroom)
   obtain⟨rfl,rfl⟩:=fin hr
   intro g' hg'
   cases hg'
   refine AllC.of (setRow_heap w g cur _ e _ hg) fun u hu=>?_
   simp only[X7] at hu
   rcases hu with (h|h)|h
   ·exact hcur u (List.mem_of_mem_take h)
   ·exact sn u h
   ·exact hcur u (List.mem_of_mem_drop h)
  ·have hr:=run_append_grow (P:=P) w t ty e i z ht hi hz ⟨g,0,none⟩ n cap xs hown.1 (hown.cells (g:=g) rfl) a m c news hl hnews (by omega) (by omega) (growslice_fits (by omega) hbytes)
   obtain⟨e1,e2⟩:=fin hr
   refine fresh (xs++news) _ _ (fun u hu=>?_) e1 (grownCap w (n+m) cap e - (n+m)) (by rw[e2];simp)
   rcases X7.1 hu with h|h
   ·exact hcur u (List.mem_of_mem_take (by rw[htake];exact h))
   ·exact sn u h
end
theorem step_append_all {P:Program} {ops:Array Oper} {o:Oper} {a:Act} {w:World} {K:Act→World→Prop} {Q:Exit→Act→World→Prop} {E:Prop} {S:Value→Prop}
 (hg:o.guard=none) (s x:Operand) (t:TypeId) (hop:o.op=Op.call { callee:=Callee.builtin Builtin.append,args:=#[s,x],argTypes:=#[t,t] })
 (base:Nat) (e:TypeId) (i:TypeInfo) (z:Value) (size bytes:Nat) (h1:P.underlying t=some (.slice e)) (h2:P.info? e=some i) (h3:i.zero=some z) (h4:i.size=size) (h5:i.bytes=bytes) (h6:z.cells.size=size) (h7:0<size)
 (v:Value) (n:Nat) (xs:List Value) (hs:a.eval s=v) (hown:w.ownsRow base e size v n xs)
 (ad:Addr) (m c:Nat) (news:List Value) (hx:a.eval x=.slice (some ad) m c) (hn:news.length=m * size) (hc:∀j u,news[j]?=some u→w.cell? (ad.add j)=some u) (h1c:∀u∈news,u.oneCell'=true)
 (b1:n+m≤maxLen) (b2:(n+m) * bytes≤140737488355328) (hbase:base≤w.heap.size) (hm:0<m)
 (sz:∀u∈z.cells.toList,S u) (sn:∀u∈news,S u) (so:∀g,v.ownBlock=some g→AllC S w g)
 (hK:∀v' w',w'.ownsRow base e size v' (n+m) (xs++news)→w.grownBy w' v.ownBlock→(v'.ownBlock=v.ownBlock∨v'.ownBlock=some w.heap.size)→(∀g,v'.ownBlock=some g→AllC S w' g)→K (a.put o.dst v') w'):
 if Region.wanted o (yielded ops a.tmps)=true then Oper.wp P o a w K Q else E:=by
 have hw:Region.wanted o (yielded ops a.tmps)=true:=by simp[Region.wanted,hg]
 rw[if_pos hw]
 obtain⟨v',w',hrun,r2,r3,_,r5⟩:=run_append_own_at (P:=P) w base t o.type e i z size bytes h1 h2 h3 h4 h5 h6 h7 v n xs hown ad m c news hn hc h1c b1 b2 hbase
 have r6:=append_all w base t o.type e i z size bytes h1 h2 h3 h4 h5 v n xs hown ad m c news hn hc h1c b1 b2 hm sz sn so hrun
 unfold Oper.wp
 simp[execOp,hop,resolve,invoke,builtin,hs,hx,hrun,Result.andThen]
 exact hK v' w' r2 r3 r5 r6
end
section
open Go.RowKit Go.Lib Go.Maps
structure TabV where
 t:Tb
 A:Option Addr
 a:Nat
 B:Option Addr
 b:Nat
 C:Option Addr
 c:Nat
def TabV.cells (x:TabV):List Value:=[.slice x.A x.t.o.length x.a,.slice x.B x.t.n.length x.b,.slice x.C x.t.m.length x.c]
def cellsT (xs:List TabV):List Value:=xs.flatMap TabV.cells
theorem cellsT_append (a b:List TabV):cellsT (a++b)=cellsT a++cellsT b:=by simp[cellsT]
theorem cellsT_length (xs:List TabV):(cellsT xs).length=3 * xs.length:=by
 induction xs with
 |nil=>rfl
 |cons x r ih=>simp[cellsT,TabV.cells] at ih ⊢;omega
theorem cellsT_get {xs:List TabV} {i:Nat} {x:TabV} (h:xs[i]?=some x):(cellsT xs)[i * 3]?=some (.slice x.A x.t.o.length x.a)∧(cellsT xs)[i * 3+1]?=some (.slice x.B x.t.n.length x.b)∧(cellsT xs)[i * 3+2]?=some (.slice x.C x.t.m.length x.c):=by
 induction xs generalizing i with
 |nil=>simp at h
 |cons y r ih=>
  have e:cellsT (y :: r)=y.cells++cellsT r:=by simp[cellsT]
  cases i with
  |zero=>simp at h;subst h;rw[e];simp[TabV.cells]
  |succ i=>
   obtain⟨h0,h1,h2⟩:=ih (by simpa using h)
   rw[e]
   refine⟨?_,?_,?_⟩
   ·rw[Q8 (by simp[TabV.cells];omega),show(i+1) * 3 - y.cells.length=i * 3 by simp[TabV.cells];omega];exact h0
   ·rw[Q8 (by simp[TabV.cells];omega),show(i+1) * 3+1 - y.cells.length=i * 3+1 by simp[TabV.cells];omega];exact h1
   ·rw[Q8 (by simp[TabV.cells];omega),show(i+1) * 3+2 - y.cells.length=i * 3+2 by simp[TabV.cells];omega];exact h2
structure TabV.Is (Q:Nat→Prop) (W:World) (x:TabV):Prop where
 o:RdP Q W x.A (cellsF x.t.o)
 n:RdP Q W x.B (cellsF x.t.n)
 m:RdP Q W x.C (cellsM x.t.m)
 ca:x.t.o.length≤x.a
 cb:x.t.n.length≤x.b
theorem TabV.Is.keep {P:Nat→Prop} {W W':World} {x:TabV} (h:x.Is P W) (hk:∀g,P g→W'.heap[g]?=W.heap[g]?):x.Is P W':=⟨h.o.keep hk,h.n.keep hk,h.m.keep hk,h.ca,h.cb⟩
theorem TabV.Is.mono {P Q:Nat→Prop} {W:World} {x:TabV} (h:x.Is P W) (hq:∀g,P g→Q g):x.Is Q W:=⟨h.o.mono hq,h.n.mono hq,h.m.mono hq,h.ca,h.cb⟩
theorem TabV.Is.lt {P:Nat→Prop} {W:World} {x:TabV} (h:x.Is P W):x.Is (fun g=>P g∧g<W.heap.size) W:=⟨h.o.lt,h.n.lt,h.m.lt,h.ca,h.cb⟩
def SlV (u:Value):Prop:=∃a b c,u=.slice a b c
structure En where
 y:Ty
 p:Nat
 v:Value
 xs:List TabV
def En.has (d:En) (g:Nat):Prop:=g=d.p∨d.v.ownBlock=some g
structure En.Is (ST:TypeId) (W:World) (d:En):Prop where
 box:OBox W d.p [.int .i64 (d.y.old:Nat),d.v] ST
 row:W.ownsRow 0 96 3 d.v d.xs.length (cellsT d.xs)
 tabs:d.xs.map (·.t)=d.y.ts
 sl:∀g,d.v.ownBlock=some g→AllC SlV W g
structure CatIs (ST CT:TypeId) (W:World) (cp mp:Nat) (E:List En) (es:List MapEntry) (clock:Nat):Prop where
 box:OBox W cp [.map (some mp)] CT
 map:MBk W mp es clock
 b1:∀x∈es,x.born<clock
 b2:(es.map (·.born)).Nodup
 prs:prs es=E.map fun d=>(Value.string d.y.s,Value.pointer (some ⟨d.p,0,none⟩))
 ents:∀d∈E,d.Is ST W
 names:(E.map (·.y.s)).Nodup
 small:∀d∈E,d.y.s.size≤maxLen
 apart:E.Pairwise fun a b=>∀g,a.has g→¬b.has g
 free:∀d∈E,¬d.has cp∧¬d.has mp
 tabs:∀d∈E,∀x∈d.xs,x.Is (fun g=>(∀d'∈E,¬d'.has g)∧g≠cp∧g≠mp) W
theorem En.lt {ST:TypeId} {W:World} {d:En} (h:d.Is ST W) {g:Nat} (hg:d.has g):g<W.heap.size:=by
 rcases hg with rfl|hg
 ·exact h.box.lt
 ·exact own_lt h.row g hg
theorem En.Is.keep {ST:TypeId} {W W':World} {d:En} (h:d.Is ST W) (hk:∀g,d.has g→W'.heap[g]?=W.heap[g]?):d.Is ST W':=
 ⟨(hk d.p (.inl rfl)).trans h.box,own_keep h.row (fun g hg=>hk g (.inr hg)),h.tabs,fun g hg=>(h.sl g hg).keep (hk g (.inr hg))⟩
theorem CatIs.keep {ST CT:TypeId} {W W':World} {cp mp:Nat} {E:List En} {es:List MapEntry} {clock:Nat} (h:CatIs ST CT W cp mp E es clock) (hk:∀g,g<W.heap.size→W'.heap[g]?=W.heap[g]?):CatIs ST CT W' cp mp E es clock:=
 ⟨(hk cp h.box.lt).trans h.box,(hk mp (Qk.1 h.map).1).trans h.map,h.b1,h.b2,h.prs,fun d hd=>(h.ents d hd).keep (fun g hg=>hk g (En.lt (h.ents d hd) hg)),h.names,h.small,h.apart,h.free,fun d hd x hx=>((h.tabs d hd x hx).lt.keep (fun g hg=>hk g hg.2)).mono (fun g hg=>hg.1)⟩
theorem CatIs.below {ST CT:TypeId} {W W':World} {cp mp:Nat} {E:List En} {es:List MapEntry} {clock:Nat} (h:CatIs ST CT W cp mp E es clock) (hb:Below W.heap.size W W'):CatIs ST CT W' cp mp E es clock:=h.keep fun g hg=>hb.block g hg
theorem CatIs.drew {ST CT:TypeId} {W:World} {cp mp:Nat} {E:List En} {es:List MapEntry} {clock:Nat} (h:CatIs ST CT W cp mp E es clock):CatIs ST CT W.drew cp mp E es clock:=h.keep fun _ _=>rfl
theorem nodup_of_prs {es:List MapEntry} {E:List En} (h:prs es=E.map fun d=>(Value.string d.y.s,Value.pointer (some ⟨d.p,0,none⟩))) {i:Nat} {x:MapEntry} (hx:es[i]?=some x):∃d,E[i]?=some d∧x.key=.string d.y.s∧x.val=.pointer (some ⟨d.p,0,none⟩):=by
 have h1:(prs es)[i]?=some (x.key,x.val):=by rw[prs,Kv,hx];rfl
 rw[h,Kv] at h1
 cases hd:E[i]? with
 |none=>rw[hd] at h1;cases h1
 |some d=>
  rw[hd] at h1
  have h2:=Jj h1
  exact⟨d,rfl,(congrArg Prod.fst h2).symm,(congrArg Prod.snd h2).symm⟩
theorem CatIs.keys {ST CT:TypeId} {W:World} {cp mp:Nat} {E:List En} {es:List MapEntry} {clock:Nat} (h:CatIs ST CT W cp mp E es clock) {P:Program} {k:TypeId} (hk:P.underlying k=some .string):∀x∈es,∃l,keyOf P k x.key=some l:=by
 intro x hx
 obtain⟨i,hi⟩:=Qq.1 hx
 obtain⟨d,hd,e1,_⟩:=nodup_of_prs h.prs hi
 rw[e1]
 exact key_string hk (h.small d (J7 hd))
theorem prs_len (es:List MapEntry):(prs es).length=es.length:=by simp[prs]
def findE (E:List En) (nm:ByteArray):Option En:=E.find? fun d=>decide (d.y.s=nm)
theorem findE_y (E:List En) (nm:ByteArray):(findE E nm).map (·.y)=findY (E.map (·.y)) nm:=by
 unfold findE findY
 rw[List.find?_map]
 rfl
theorem findE_mem {E:List En} {nm:ByteArray} {d:En} (h:findE E nm=some d):d∈E∧d.y.s=nm:=by
 refine⟨List.mem_of_find?_eq_some h,?_⟩
 have:=List.find?_some h
 simpa using this
theorem findE_none {E:List En} {nm:ByteArray} (h:findE E nm=none):∀d∈E,d.y.s≠nm:=by
 intro d hd e
 have:=List.find?_eq_none.1 h d hd
 simp[e] at this
theorem CatIs.look {ST CT:TypeId} {W:World} {cp mp:Nat} {E:List En} {es:List MapEntry} {clock:Nat} (h:CatIs ST CT W cp mp E es clock) {P:Program} {t k e:TypeId} (ht:P.underlying t=some (.map k e)) (hk:P.underlying k=some .string) (hz:∀w,(zeroValue e).run P w=.ok (.pointer none) w) {nm:ByteArray} (hn:nm.size≤maxLen):
 (Instr.lookup t (.map (some mp)) (.string nm) false).run P W=.ok (match findE E nm with|some d=>.pointer (some ⟨d.p,0,none⟩)|none=>.pointer none) W:=by
 obtain⟨l,hl⟩:=key_string (P:=P) hk hn
 cases hf:findE E nm with
 |none=>
  refine map_none (string_keyed hk) ht h.map (h.keys hk) hl (fun x hx e=>?_) (hz W) false
  obtain⟨i,hi⟩:=Qq.1 hx
  obtain⟨d,hd,e1,_⟩:=nodup_of_prs h.prs hi
  rw[e1] at e
  cases e
  exact findE_none hf d (J7 hd) rfl
 |some d=>
  obtain⟨hd,hs⟩:=findE_mem hf
  obtain⟨i,hi⟩:=Qq.1 hd
  have hil:i<es.length:=by
   have h1:=congrArg List.length h.prs
   have h2:=(J6.1 hi).1
   rw[prs_len,Kz] at h1
   omega
  have hx:es[i]?=some (es[i]'hil):=J4 hil
  obtain⟨d1,hd1,e1,e2⟩:=nodup_of_prs h.prs hx
  rw[hi] at hd1
  cases hd1
  refine map_some (string_keyed hk) ht h.map (h.keys hk) hl ⟨_,List.getElem_mem hil,by rw[e1,hs]⟩ (fun x hx2 e=>?_) false
  obtain⟨j,hj⟩:=Qq.1 hx2
  obtain⟨d2,hd2,e3,e4⟩:=nodup_of_prs h.prs hj
  rw[e3] at e
  have e5:d2.y.s=d.y.s:=by cases e;exact hs.symm
  have hij:j=i:=by
   have hnd:=h.names
   have a1:(E.map (·.y.s))[j]?=some d.y.s:=by rw[Kv,hd2];exact congrArg some e5
   have a2:(E.map (·.y.s))[i]?=some d.y.s:=by rw[Kv,hi];rfl
   have b1:=(J6.1 a1).1
   have b2:=(J6.1 a2).1
   exact(List.getElem?_inj b1 hnd).1 (a1.trans a2.symm)
  subst hij
  rw[hi] at hd2
  cases hd2
  exact e4
end
end Go.Proofs.YteembinfgbapgaaGreat
