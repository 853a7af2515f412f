/- Merged out of: Ql Qm Tq. -/
import Derived.Test.YteembinfgbapgaaGreatC00
import Derived.Test.YteembinfgbapgaaGreatC28
import Derived.Test.YteembinfgbapgaaGreatC29
set_option linter.unusedSimpArgs false
set_option linter.unusedVariables false
set_option maxRecDepth 100000
set_option maxHeartbeats 8000000
namespace Go.Proofs.YteembinfgbapgaaGreat
section
open Go.RowKit Go.Lib
theorem rAll_no (l:List Fd) (m:Nat) (hm:l.length=m) (hl:m≤9223372036854775807) (A:Option Addr) (cA:Nat) (K:Option Addr) (cK nc:Nat) (cs:List (Ch×Value)) (hnc:cs.length=nc) (hk:nc≤9223372036854775807) (hn:NmS l) (hw:∀p∈cs,ChW p) (w:World) (hA:Rd w A (cellsF l)) (hK:Rd w K (cellsC cs)) (ho:∀p∈cs,ChO w p) (hr:rightF l=false):
 Calls Tryz.prog 102 #[.slice A m cA,.slice K nc cK] w fun e w'=>CoR Tb.z 60 w e w':=by
 have nb:=below_new (w:=w) (.cells #[.slice none 0 0,.slice none 0 0,.slice none 0 0] 110)
 have nb1:=below_new (w:=w.alloc (.cells #[.slice none 0 0,.slice none 0 0,.slice none 0 0] 110)) (.cells #[.slice none 0 0,.slice none 0 0,.slice none 0 0] 110)
 have R:=(OBox.new w [.slice none 0 0,.slice none 0 0,.slice none 0 0] 110).below nb1
 have V:OBox ((w.alloc (.cells #[.slice none 0 0,.slice none 0 0,.slice none 0 0] 110)).alloc (.cells #[.slice none 0 0,.slice none 0 0,.slice none 0 0] 110)) (w.heap.size+1) [.slice none 0 0,.slice none 0 0,.slice none 0 0] 110:=by have:=OBox.new (w.alloc (.cells #[.slice none 0 0,.slice none 0 0,.slice none 0 0] 110)) [.slice none 0 0,.slice none 0 0,.slice none 0 0] 110;rw[Jq] at this;exact this
 have HB:=below_seq nb nb1
 have hA1:=hA.below HB
 have HM:=J0 hm;have HR:=J0 hr;have HN:=J0 hn
 clear nb nb1 hm hr hw ho hK hnc hn
 go_enter Tryz.func102,Tryz.ntmps102
 go_wp2_with (go_at_call 77;refine(rRight_m A cA m l HM.out false HR.out _ hA1 hl HN.out.fds).mono ?_;rintro e W1 ⟨rfl,hb⟩;replace HB:=HB.trans (hb.mono HB.size);replace R:=R.below hb;replace V:=V.below hb;obtain⟨q0,q1,q2,q3,q4,q5⟩:=R.f3;obtain⟨v0,v1,v2,v3,v4,v5⟩:=V.f3;clear hb)
 refine bodyPost_ret (v:=.tuple #[.agg #[.slice none 0 0,.slice none 0 0,.slice none 0 0],.int .i64 60]) (by simp[results,Tryz.results102,go_sem, *];done) rfl ⟨none,0,none,0,none,0,rfl,fun h=>absurd rfl h,fun h=>absurd rfl h,fun h=>absurd rfl h,?_⟩
 (repeat (first|exact HB|refine J8 ?_ (by dsimp only;omega) _|refine Jk ?_ (by have hs_:=HB.size;first|(simp;done)|(simp;omega)|omega) _|apply Jv))
theorem rAll_yes (l:List Fd) (m:Nat) (hm:l.length=m) (hl:m≤9223372036854775807) (A:Option Addr) (cA:Nat) (K:Option Addr) (cK nc:Nat) (cs:List (Ch×Value)) (hnc:cs.length=nc) (hk:nc≤9223372036854775807) (hn:NmS l) (hw:∀p∈cs,ChW p) (w:World) (hA:Rd w A (cellsF l)) (hK:Rd w K (cellsC cs)) (ho:∀p∈cs,ChO w p) (hr:rightF l=true) (T:Tb) (code:Int) (hT:goT (keepT l) (cs.map (·.1))=(T,code)):
 Calls Tryz.prog 102 #[.slice A m cA,.slice K nc cK] w fun e w'=>CoR T code w e w':=by
 have hk0:=keepT_right hr
 have tk:=TOk.keep hr hn
 have nb:=below_new (w:=w) (.cells #[.slice none 0 0,.slice none 0 0,.slice none 0 0] 110)
 have nb1:=below_new (w:=w.alloc (.cells #[.slice none 0 0,.slice none 0 0,.slice none 0 0] 110)) (.cells #[.slice none 0 0,.slice none 0 0,.slice none 0 0] 110)
 have R:=(OBox.new w [.slice none 0 0,.slice none 0 0,.slice none 0 0] 110).below nb1
 have V:OBox ((w.alloc (.cells #[.slice none 0 0,.slice none 0 0,.slice none 0 0] 110)).alloc (.cells #[.slice none 0 0,.slice none 0 0,.slice none 0 0] 110)) (w.heap.size+1) [.slice none 0 0,.slice none 0 0,.slice none 0 0] 110:=by have:=OBox.new (w.alloc (.cells #[.slice none 0 0,.slice none 0 0,.slice none 0 0] 110)) [.slice none 0 0,.slice none 0 0,.slice none 0 0] 110;rw[Jq] at this;exact this
 have HB:=below_seq nb nb1
 have hA1:=hA.below HB
 have HM:=J0 hm;have HR:=J0 hr;have HNC:=J0 hnc;have HT:=J0 hT;have HK0:=J0 hk0;have TK:=J0 tk;have HW:=J0 hw;have HO:=J0 ho;have HN:=J0 hn
 clear nb nb1 hm hr hnc hT hk0 tk hw ho hn
 go_enter Tryz.func102,Tryz.ntmps102
 go_upto_region 5 with (first
  |(go_at_call 77;refine(rRight_m A cA m l HM.out true HR.out _ hA1 hl HN.out.fds).mono ?_;rintro e W1 ⟨rfl,hb⟩;replace HB:=HB.trans (hb.mono HB.size);replace R:=R.below hb;replace V:=V.below hb;replace hA1:=hA1.below hb;clear hb)
  |(go_at_call 153;refine(rTSame_yes A cA m l HM.out HR.out _ hA1 hl HN.out.fds).mono ?_;rintro e W2 ⟨v3,rfl,own3,hbS⟩;obtain⟨X2,z2,rfl,u4,u5,r2⟩:=own_rd own3;have hz:=hbS.size;replace HB:=HB.trans (hbS.mono HB.size);replace R:=R.below hbS;replace V:=V.below hbS))
 have TB:=OBox.new W2 [.slice A m cA,.slice A m cA,.slice X2 m z2] 110
 have nb2:=below_new (w:=W2) (.cells #[.slice A m cA,.slice A m cA,.slice X2 m z2] 110)
 have RR:=R.below nb2
 have VV:=V.below nb2
 have HB0:=HB.trans (nb2.mono HB.size)
 have r0:=hA.below HB0
 replace r2:=r2.below nb2
 have hq0:=V.lt
 generalize W2.alloc (.cells #[.slice A m cA,.slice A m cA,.slice X2 m z2] 110)=W3 at *
 obtain⟨q,hq⟩:∃q,W2.heap.size=q:=⟨_,rfl⟩
 rw[hq] at TB hq0 ⊢
 have HQ:=J0 hq0
 clear hq hq0 nb2 R V HB own3 hbS hz u4 u5 hA1
 clear W2 W1
 go_wp2
 go_loopw [8,9,10,11,12] (fun i _ _ _ _ wr=>∃(j:Nat) (t:Tb) (no nn nm:Nat) (Y0:Option Addr) (y0:Nat) (Y1:Option Addr) (y1:Nat) (Y2:Option Addr) (y2:Nat),j≤nc∧i=.int .i64 j∧Hid (t.o.length=no)∧Hid (t.n.length=nn)∧Hid (t.m.length=nm)∧OBox wr q [.slice Y0 no y0,.slice Y1 nn y1,.slice Y2 nm y2] 110∧Rd wr Y0 (cellsF t.o)∧Rd wr Y1 (cellsF t.n)∧Rd wr Y2 (cellsM t.m)∧Hid (TOk t)∧Hid (goT t ((cs.drop j).map (·.1))=(T,code))∧OBox wr w.heap.size [.slice none 0 0,.slice none 0 0,.slice none 0 0] 110∧OBox wr (w.heap.size+1) [.slice none 0 0,.slice none 0 0,.slice none 0 0] 110∧Below w.heap.size w wr) (fun i _ _ _ _ _=>nc - (intOf i).toNat)
 case atStart=>exact⟨0,keepT l,m,m,m,_,_,_,_,_,_,by omega,rfl,J0 (by rw[HK0.out];exact HM.out),J0 (by rw[HK0.out];exact HM.out),J0 (by rw[HK0.out];show(kM l.length).length=m;rw[kM_length];exact HM.out),TB,by rw[HK0.out];exact r0,by rw[HK0.out];exact r0,by rw[HK0.out];show Rd _ _ (cellsM (kM l.length));rw[HM.out];exact r2,TK,HT,RR,VV,HB0⟩
 case round=>
  obtain⟨j,t,no,nn,nm,Y0,y0,Y1,y1,Y2,y2,hj,rfl,HNO,HNN,HNM,TB,r0,r1,r2,HTK,HG,R,V,HB⟩:=hrel
  clear RR VV HB0 TK HT
  by_cases hlt:j<nc
  ·obtain⟨⟨c,pv⟩,hp⟩:∃p,cs[j]?=some p:=⟨_,J4 (by rw[HNC.out];exact hlt)⟩
   obtain⟨⟨p0,p1⟩,⟨x0,x1⟩,hq4,hgs⟩:(-9223372036854775808≤c.op∧c.op≤9223372036854775807)∧(0≤c.d.b∧c.d.b<18446744073709551616)∧c.q.length≤17592186044415∧c.g.s.size≤281474976710656:=HW.out _ (J7 hp)
   obtain⟨Q,qc,ev,hqc,RQ⟩:∃Q qc,pv=.slice Q c.q.length qc∧c.q.length≤qc∧Rd w Q (cellsI c.q):=by
    obtain⟨Q,qc,h1,h2,_,h4⟩:=HO.out _ (J7 hp)
    exact⟨Q,qc,h1,h2,h4⟩
   subst ev
   obtain⟨ad,rfl,_⟩:=hK.ch hp
   have hgo:goT t (c :: (cs.drop (j+1)).map (·.1))=(T,code):=by
    rw[←HG.out,List.drop_eq_getElem_cons (show j<cs.length by rw[HNC.out];exact hlt)]
    rw[J4 (by rw[HNC.out];exact hlt)] at hp
    rw[List.map_cons,Jj hp]
   obtain⟨n,hn⟩:∃n,c.q.length=n:=⟨_,rfl⟩
   rw[hn] at hp
   simp only[hn] at hqc hq4
   obtain⟨e0,he⟩:∃e,makeE t.n c=e:=⟨_,rfl⟩
   obtain⟨M,hM⟩:∃M,makeT t.n c=M:=⟨_,rfl⟩
   obtain⟨mo,hmo⟩:∃x,M.o.length=x:=⟨_,rfl⟩
   obtain⟨mn,hmn⟩:∃x,M.n.length=x:=⟨_,rfl⟩
   obtain⟨mm,hmm⟩:∃x,M.m.length=x:=⟨_,rfl⟩
   have HN:=J0 hn;have HE:=J0 he;have HMK:=J0 hM;have HGO:=J0 hgo;have HP:=J0 hp
   have HMO:=J0 hmo;have HMN:=J0 hmn;have HMM:=J0 hmm
   have hs16:Hid (no≤16∧nn≤16∧nm≤16):=J0 (by have:=rightT_16 HTK.out.r;rw[HNO.out,HNN.out,HNM.out] at this;exact this)
   have hj0:(0:Int)≤(j:Int):=by omega
   have hj1:(j:Int)<(nc:Int):=by omega
   have hmk:∀W,Below wr.heap.size wr W→Calls Tryz.prog 154 #[.slice Y1 nn y1,.agg #[.int .i64 c.op,.string c.s,.string c.g.s,.int .i64 c.g.k,.int .i64 c.g.l,.int .i64 c.d.k,.int .u64 c.d.b,.string c.d.t,.slice Q n qc]] W fun e w'=>∃U0 v0 U1 v1 U2 v2,e=.returned (.tuple #[.agg #[.slice U0 mo v0,.slice U1 mn v1,.slice U2 mm v2],.int .i64 e0])∧Rd w' U0 (cellsF M.o)∧Rd w' U1 (cellsF M.n)∧Rd w' U2 (cellsM M.m)∧Below W.heap.size W w':=fun W hb=>by
    refine(rMake_m t.n c nn HNN.out (by have:=hs16.out;omega) Y1 y1 Q n qc hn hq4 x0 x1 HTK.out.n.fds (Q7 hgs (by decide)) W (r1.below hb) ((RQ.below HB).below hb)).mono ?_
    rintro e W5 ⟨U0,_,v0,U1,_,v1,U2,_,v2,rfl,hTV,hb5⟩
    obtain⟨_,_,_,_,_,_,ev,hdU,s0',s1',s2'⟩:=hTV
    cases ev
    rw[hM] at s0' s1' s2' ⊢
    rw[hmo,hmn,hmm,he]
    exact⟨U0,v0,U1,v1,U2,v2,rfl,s0'.rd,s1'.rd,s2'.rd,hb5⟩
   have HMKC:=J0 hmk
   have hall:∀W,Below wr.heap.size wr W→W.cell? ⟨q,1,none⟩=some (.slice Y1 nn y1)∧W.cell? (ad.add (j * 9))=some (.int .i64 c.op)∧W.cell? ⟨(ad.add (j * 9)).block,(ad.add (j * 9)).off+(0+1),none⟩=some (.string c.s)∧W.cell? ⟨(ad.add (j * 9)).block,(ad.add (j * 9)).off+(1+1),none⟩=some (.string c.g.s)∧W.cell? ⟨(ad.add (j * 9)).block,(ad.add (j * 9)).off+(2+1),none⟩=some (.int .i64 c.g.k)∧W.cell? ⟨(ad.add (j * 9)).block,(ad.add (j * 9)).off+(3+1),none⟩=some (.int .i64 c.g.l)∧W.cell? ⟨(ad.add (j * 9)).block,(ad.add (j * 9)).off+(4+1),none⟩=some (.int .i64 c.d.k)∧W.cell? ⟨(ad.add (j * 9)).block,(ad.add (j * 9)).off+(5+1),none⟩=some (.int .u64 c.d.b)∧W.cell? ⟨(ad.add (j * 9)).block,(ad.add (j * 9)).off+(6+1),none⟩=some (.string c.d.t)∧W.cell? ⟨(ad.add (j * 9)).block,(ad.add (j * 9)).off+(7+1),none⟩=some (.slice Q n qc)∧Below wr.heap.size wr W:=fun W hb=>by
    obtain⟨_,ea,c0,c1,c2,c3,c4,c5,c6,c7,c8⟩:=((hK.below HB).below hb).ch hp
    cases ea
    exact⟨(TB.below hb).f3.2.1,c0,c1,c2,c3,c4,c5,c6,c7,c8,hb⟩
   have hzt:=TB.lt
   clear hn he hM hgo hp HG hmo hmn hmm hmk
   obtain⟨t0,t1,t2,f0,f1,f2⟩:=TB.f3
   go_upto_region 8 with fail
   go_cut [9,10] (fun s9 s10 wx=>∃p U0 v0 U1 v1 U2 v2,s9=.pointer (some ⟨p,0,none⟩)∧s10=.int .i64 e0∧OBox wx p [.slice U0 mo v0,.slice U1 mn v1,.slice U2 mm v2] 110∧Rd wx U0 (cellsF M.o)∧Rd wx U1 (cellsF M.n)∧Rd wx U2 (cellsM M.m)∧Below wr.heap.size wr wx)
   case first=>
    go_region_held3 (fun W=>W.cell? ⟨q,1,none⟩=some (.slice Y1 nn y1)∧W.cell? (ad.add (j * 9))=some (.int .i64 c.op)∧W.cell? ⟨(ad.add (j * 9)).block,(ad.add (j * 9)).off+(0+1),none⟩=some (.string c.s)∧W.cell? ⟨(ad.add (j * 9)).block,(ad.add (j * 9)).off+(1+1),none⟩=some (.string c.g.s)∧W.cell? ⟨(ad.add (j * 9)).block,(ad.add (j * 9)).off+(2+1),none⟩=some (.int .i64 c.g.k)∧W.cell? ⟨(ad.add (j * 9)).block,(ad.add (j * 9)).off+(3+1),none⟩=some (.int .i64 c.g.l)∧W.cell? ⟨(ad.add (j * 9)).block,(ad.add (j * 9)).off+(4+1),none⟩=some (.int .i64 c.d.k)∧W.cell? ⟨(ad.add (j * 9)).block,(ad.add (j * 9)).off+(5+1),none⟩=some (.int .u64 c.d.b)∧W.cell? ⟨(ad.add (j * 9)).block,(ad.add (j * 9)).off+(6+1),none⟩=some (.string c.d.t)∧W.cell? ⟨(ad.add (j * 9)).block,(ad.add (j * 9)).off+(7+1),none⟩=some (.slice Q n qc)∧Below wr.heap.size wr W) ((refine hall _ ?_;repeat (first|assumption|exact Jy _ _|refine J8 ?_ (by dsimp only;first|exact J9 _|omega) _|refine Jk ?_ (by first|exact J9 _|omega) _|apply Jv)))
     (first
       |(go_at_call 154;obtain⟨_,_,_,_,_,_,_,_,_,_,HBx⟩:=‹_∧_∧_∧_∧_∧_∧_∧_∧_∧_∧Below wr.heap.size wr _›;refine(HMKC.out _ HBx).mono ?_;rintro e' W8 ⟨U0,v0,U1,v1,U2,v2,rfl,s0,s1,s2,hb⟩;have HB8:Below wr.heap.size wr W8:=below_seq HBx hb;have hz8:=HB8.size;(first|(have VB:=OBox.below (OBox.new _ [.slice none 0 0,.slice none 0 0,.slice none 0 0] 110) hb)|(have VB:=OBox.newB (cs:=[.slice none 0 0,.slice none 0 0,.slice none 0 0]) hb)|skip);(first|(obtain⟨b0,b1,b2,b3,b4,b5⟩:=VB.f3)|skip)))
    all_goals (go_wp2_with fail;go_meet;refine⟨_,U0,v0,U1,v1,U2,v2,rfl,rfl,?_,?_,?_,?_,?_⟩)
    all_goals first
     |exact OBox.new _ _ _
     |(exact obox_set (obox_set (obox_set VB 0 _) 1 _) 2 _)
     |exact RdF.set3 s0 VB _ _ _
     |exact RdF.set3 s1 VB _ _ _
     |exact RdM.set3 s2 VB _ _ _
     |exact s0.below (below_new _)
     |exact s1.below (below_new _)
     |exact s2.below (below_new _)
     |(repeat (first|assumption|exact Jy _ _|refine J8 ?_ (by dsimp only;first|exact J9 _|omega) _|refine Jk ?_ (by first|exact J9 _|omega) _|apply Jv))
   case rest=>
    obtain⟨p,U0,v0,U1,v1,U2,v2,rfl,rfl,MB,s0,s1,s2,hb6⟩:=hcut
    rename World=>W6
    clear hall HMKC t0 t1 t2 f0 f1 f2
    have TB6:=TB.below hb6
    have R6:=R.below hb6
    have V6:=V.below hb6
    have HB6:=HB.trans (hb6.mono HB.size)
    have r06:=r0.below hb6
    have r16:=r1.below hb6
    have r26:=r2.below hb6
    obtain⟨q0,q1,q2,g0,g1,g2⟩:=R6.f3
    obtain⟨d0,d1,d2,_,_,_⟩:=V6.f3
    clear r0 r1 r2 HB TB R V hb6 hzt
    have hs2:=hs16.out
    by_cases h0:e0=0
    ·subst h0
     obtain⟨t0,t1,t2,f0,f1,f2⟩:=TB6.f3
     obtain⟨m0,m1,m2,_,_,_⟩:=MB.f3
     have hMk:TOk M:=by rw[←HMK.out];exact TOk.make HE.out HTK.out.n hgs x0 x1
     have HMT:=J0 hMk
     have hm16:Hid (mo≤16∧mn≤16∧mm≤16):=J0 (by have:=rightT_16 hMk.r;rw[HMO.out,HMN.out,HMM.out] at this;exact this)
     clear hMk
     have hs3:=hm16.out
     go_wp2_with (go_at_call 155;refine(rCompose_m t M Y0 Y1 Y2 U0 U1 U2 y0 y1 y2 v0 v1 v2 no nn nm mo mn mm HNO.out HNN.out HNM.out HMO.out HMN.out HMM.out (by omega) (by omega) (by omega) (by omega) (by omega) (by omega) HTK.out.w HMT.out.w HTK.out.o.fds HTK.out.n.fds HMT.out.o.fds HMT.out.n.fds _ r06 r16 r26 s0 s1 s2).mono ?_)
     obtain⟨G,hG⟩:∃G,composeT t M=G:=⟨_,rfl⟩
     obtain⟨lo,hlo⟩:∃x,G.o.length=x:=⟨_,rfl⟩
     obtain⟨ln,hln⟩:∃x,G.n.length=x:=⟨_,rfl⟩
     obtain⟨lm,hlm⟩:∃x,G.m.length=x:=⟨_,rfl⟩
     obtain⟨e2,he2⟩:∃x,composeE t M=x:=⟨_,rfl⟩
     rw[hG,he2]
     rintro e W7 ⟨V0,w0,V1,w1,V2,w2,rfl,a0,a1,a2,hb7⟩
     rw[hlo,hln,hlm]
     have HGL:=J0 hlo;have HGN:=J0 hln;have HGM:=J0 hlm;have HGT:=J0 hG;have HE2:=J0 he2
     have TB7:=TB6.below hb7
     have R7:=R6.below hb7
     have V7:=V6.below hb7
     have HB7:=HB6.trans (hb7.mono HB6.size)
     clear hlo hln hlm hG he2 q0 q1 q2 g0 g1 g2 t0 t1 t2 f0 f1 f2 m0 m1 m2 d0 d1 d2 TB6 R6 V6 HB6 r06 r16 r26 s0 s1 s2 hb7 MB
     have nb8:=below_new (w:=W7) (.cells #[.slice V0 lo w0,.slice V1 ln w1,.slice V2 lm w2] 110)
     have GB:=OBox.new W7 [.slice V0 lo w0,.slice V1 ln w1,.slice V2 lm w2] 110
     have TB8:=TB7.below nb8
     have R8:=R7.below nb8
     have V8:=V7.below nb8
     have HB8:=HB7.trans (nb8.mono HB7.size)
     replace a0:=a0.below nb8
     replace a1:=a1.below nb8
     replace a2:=a2.below nb8
     have hzq:=TB7.lt
     clear TB7 R7 V7 HB7 nb8
     go_upto_region 12 with fail
     generalize W7.alloc (.cells #[.slice V0 lo w0,.slice V1 ln w1,.slice V2 lm w2] 110)=W8 at *
     obtain⟨t0,t1,t2,f0,f1,f2⟩:=TB8.f3
     obtain⟨q0,q1,q2,g0,g1,g2⟩:=R8.f3
     obtain⟨d0,d1,d2,_,_,_⟩:=V8.f3
     obtain⟨b0,b1,b2,_,_,_⟩:=GB.f3
     have hwq:=HQ.out
     rcases composeE_ways t M with h2|h2
     ·obtain rfl:e2=0:=by rw[←HE2.out];exact h2
      have hG1:TOk G:=by rw[←HGT.out];exact TOk.comp HTK.out HMT.out h2
      have hG2:goT G ((cs.drop (j+1)).map (·.1))=(T,code):=by
       have h:=HGO.out
       rw[goT_next HE.out (by rw[HMK.out];exact h2),HMK.out,HGT.out] at h
       exact h
      have HG1:=J0 hG1
      have HG2:=J0 hG2
      clear hG1 hG2 h2
      go_wp2
      go_roundw
      case rel=>
       exact⟨j+1,G,lo,ln,lm,V0,w0,V1,w1,V2,w2,by omega,by go_num,HGL,HGN,HGM,obox_set (obox_set (obox_set TB8 0 (.slice V0 lo w0)) 1 (.slice V1 ln w1)) 2 (.slice V2 lm w2),RdF.set3 a0 TB8 _ _ _,RdF.set3 a1 TB8 _ _ _,RdM.set3 a2 TB8 _ _ _,HG1,HG2,OBox.far (OBox.far (OBox.far R8 (p:=⟨q,0,none⟩) (by show q≠_;omega) _) (p:=⟨q,1,none⟩) (by show q≠_;omega) _) (p:=⟨q,2,none⟩) (by show q≠_;omega) _,OBox.far (OBox.far (OBox.far V8 (p:=⟨q,0,none⟩) (by show q≠_;omega) _) (p:=⟨q,1,none⟩) (by show q≠_;omega) _) (p:=⟨q,2,none⟩) (by show q≠_;omega) _,((HB8.setCell (p:=⟨q,0,none⟩) (by show w.heap.size≤q;omega) _).setCell (p:=⟨q,1,none⟩) (by show w.heap.size≤q;omega) _).setCell (p:=⟨q,2,none⟩) (by show w.heap.size≤q;omega) _⟩
      case measure=>simp[intOf];omega
     ·obtain rfl:e2=70:=by rw[←HE2.out];exact h2
      obtain⟨rfl,rfl⟩:Tb.z=T∧70=code:=by
       have h:=HGO.out
       rw[goT_comp HE.out (by rw[HMK.out,h2];decide)] at h
       exact⟨congrArg Prod.fst h,congrArg Prod.snd h⟩
      clear h2
      go_wp2
      refine bodyPost_ret (v:=.tuple #[.agg #[.slice none 0 0,.slice none 0 0,.slice none 0 0],.int .i64 70]) (by simp[results,Tryz.results102,go_sem, *];done) rfl ⟨none,0,none,0,none,0,rfl,fun h=>absurd rfl h,fun h=>absurd rfl h,fun h=>absurd rfl h,?_⟩
      have HB:=HB8
      (repeat (first|exact HB|refine J8 ?_ (by dsimp only;omega) _|refine Jk ?_ (by have hs_:=HB.size;first|(simp;done)|(simp;omega)|omega) _|apply Jv))
    ·have e2:(e0 != 0)=true:=by simpa using h0
     obtain⟨rfl,rfl⟩:Tb.z=T∧e0=code:=by
      have h:=HGO.out
      rw[goT_make (by rw[HE.out];exact h0),HE.out] at h
      exact⟨congrArg Prod.fst h,congrArg Prod.snd h⟩
     clear h0
     go_wp2
     refine bodyPost_ret (v:=.tuple #[.agg #[.slice none 0 0,.slice none 0 0,.slice none 0 0],.int .i64 e0]) (by simp[results,Tryz.results102,go_sem, *];done) rfl ⟨none,0,none,0,none,0,rfl,fun h=>absurd rfl h,fun h=>absurd rfl h,fun h=>absurd rfl h,?_⟩
     have HB:=HB6
     (repeat (first|exact HB|refine J8 ?_ (by dsimp only;omega) _|refine Jk ?_ (by have hs_:=HB.size;first|(simp;done)|(simp;omega)|omega) _|apply Jv))
  ·obtain rfl:j=nc:=by omega
   have h:=HG.out
   rw[List.drop_of_length_le (by rw[HNC.out];exact J9 _)] at h
   have hT1:t=T:=congrArg Prod.fst h
   have hT2:(0:Int)=code:=congrArg Prod.snd h
   subst hT1 hT2
   clear h HG
   obtain⟨t0,t1,t2,f0,f1,f2⟩:=TB.f3
   obtain⟨q0,q1,q2,g0,g1,g2⟩:=R.f3
   go_wp2
   refine bodyPost_ret (v:=.tuple #[.agg #[.slice Y0 no y0,.slice Y1 nn y1,.slice Y2 nm y2],.int .i64 0]) (by simp[results,Tryz.results102,go_sem, *];done) rfl ?_
   have e1:=HNO.out
   have e2:=HNN.out
   have e3:=HNM.out
   refine⟨Y0,y0,Y1,y1,Y2,y2,by rw[e1,e2,e3],RdF.set3 r0 R _ _ _,RdF.set3 r1 R _ _ _,RdM.set3 r2 R _ _ _,?_⟩
   (repeat (first|exact HB|refine J8 ?_ (by dsimp only;omega) _|refine Jk ?_ (by have hs_:=HB.size;first|(simp;done)|(simp;omega)|omega) _|apply Jv))
theorem rAll_m (l:List Fd) (m:Nat) (hm:l.length=m) (hl:m≤9223372036854775807) (A:Option Addr) (cA:Nat) (K:Option Addr) (cK nc:Nat) (cs:List (Ch×Value)) (hnc:cs.length=nc) (hk:nc≤9223372036854775807) (hn:NmS l) (hw:∀p∈cs,ChW p) (w:World) (hA:Rd w A (cellsF l)) (hK:Rd w K (cellsC cs)) (ho:∀p∈cs,ChO w p):
 Calls Tryz.prog 102 #[.slice A m cA,.slice K nc cK] w fun e w'=>CoR (allT l (cs.map (·.1))).1 (allT l (cs.map (·.1))).2 w e w':=by
 cases hr:rightF l
 ·rw[allT,if_neg (by rw[hr];decide)]
  exact rAll_no l m hm hl A cA K cK nc cs hnc hk hn hw w hA hK ho hr
 ·rw[allT,if_pos hr]
  exact rAll_yes l m hm hl A cA K cK nc cs hnc hk hn hw w hA hK ho hr _ _ rfl
theorem infoCh:(Tryz.prog.info? 76).map (fun i=>(i.zero,i.size,i.bytes))=some (some (.agg #[.int .i64 0,.string ⟨#[]⟩,.string ⟨#[]⟩,.int .i64 0,.int .i64 0,.int .i64 0,.int .u64 0,.string ⟨#[]⟩,.slice none 0 0]),9,112):=by kernel_rfl
theorem newsL (w:World) (cs:List Value) (T:TypeId) (hn:cs≠[]):∀j x,cs[j]?=some x→(w.alloc (.cells cs.toArray T)).cell? ((⟨w.heap.size,0,none⟩:Addr).add j)=some x:=by
 intro j x hj
 obtain⟨ad,e,h⟩:=rd_new w cs T hn
 cases e
 exact h j x hj
theorem takeC {cs:List (Ch×Value)} {k:Nat} {p:Ch×Value} (h:cs[k]?=some p):cellsC (cs.take (k+1))=cellsC (cs.take k)++chL p.1 p.2:=by
 rw[Vq,h]
 simp[cellsC]
theorem Rd.op {w:World} {A:Option Addr} {os:List OpV} (h:Rd w A (cellsO os)) {j:Nat} {x:OpV} (hx:os[j]?=some x):∃ad,A=some ad∧w.cell? (ad.add (j * 5))=some (.int .i64 x.k)∧w.cell? ⟨(ad.add (j * 5)).block,(ad.add (j * 5)).off+(0+1),none⟩=some (.string x.s)∧w.cell? ⟨(ad.add (j * 5)).block,(ad.add (j * 5)).off+(1+1),none⟩=some (.slice x.A x.fs.length x.a)∧
 w.cell? ⟨(ad.add (j * 5)).block,(ad.add (j * 5)).off+(2+1),none⟩=some (.slice x.C x.cs.length x.c)∧w.cell? ⟨(ad.add (j * 5)).block,(ad.add (j * 5)).off+(3+1),none⟩=some (.slice x.L x.live.length x.l):=by
 have hg:=fun r (hr:r<5)=>flat_get (F:=OpV.cells) (k:=5) (fun _=>rfl) hx r hr
 obtain⟨ad,e,hc⟩:=h (by intro e;have:=hg 0 (by omega);unfold cellsO at e;rw[e] at this;simp[OpV.cells] at this)
 have h0:=hc (j * 5) _ (hg 0 (by omega))
 have h1:=hc (j * 5+1) _ (hg 1 (by omega))
 have h2:=hc (j * 5+2) _ (hg 2 (by omega))
 have h3:=hc (j * 5+3) _ (hg 3 (by omega))
 have h4:=hc (j * 5+4) _ (hg 4 (by omega))
 rw[add_part _ _ 0] at h1
 rw[add_part _ _ 1] at h2
 rw[add_part _ _ 2] at h3
 rw[add_part _ _ 3] at h4
 exact⟨ad,e,h0,h1,h2,h3,h4⟩
theorem OBox.f5 {w:World} {b:Nat} {x0 x1 x2 x3 x4:Value} {T:TypeId} (h:OBox w b [x0,x1,x2,x3,x4] T):w.cell? ⟨b,0,none⟩=some x0∧w.cell? ⟨b,1,none⟩=some x1∧w.cell? ⟨b,2,none⟩=some x2∧w.cell? ⟨b,3,none⟩=some x3∧w.cell? ⟨b,4,none⟩=some x4:=⟨h.cell rfl,h.cell rfl,h.cell rfl,h.cell rfl,h.cell rfl⟩
theorem own9_m (K:Option Addr) (cK nc:Nat) (cs:List (Ch×Value)) (hnc:cs.length=nc) (hk:nc≤1256584717458) (w:World) (hK:Rd w K (cellsC cs)) (ho:∀p∈cs,ChO w p):
 Calls Tryz.prog 30 #[.slice K nc cK] w fun e w'=>∃B d,e=.returned (.slice B nc d)∧Rd w' B (cellsC cs)∧Below w.heap.size w w':=by
 obtain⟨i0,hi,hz0,hz1,hz2⟩:=info_parts infoCh
 have HNC:=J0 hnc;have HO:=J0 ho
 clear hnc ho
 go_enter Tryz.func30,Tryz.ntmps30
 go_wp2
 go_loopw [3,5,8] (fun v _ i wr=>∃(k:Nat),k≤nc∧i=.int .i64 k∧wr.ownsRow w.heap.size 76 9 v k (cellsC (cs.take k))∧Below w.heap.size w wr) (fun _ _ i _=>nc - (intOf i).toNat)
 case atStart=>exact⟨0,by omega,rfl,own_nil _ _ _ _,Jy _ _⟩
 case round=>
  obtain⟨k,hk1,rfl,hown,HB⟩:=hrel
  by_cases hlt:k<nc
  ·obtain⟨⟨c,pv⟩,hp⟩:∃x,cs[k]?=some x:=⟨_,J4 (by rw[HNC.out];exact hlt)⟩
   obtain⟨Q,qc,ev⟩:∃Q qc,pv=.slice Q c.q.length qc:=by
    obtain⟨Q,qc,h1,_⟩:=HO.out _ (J7 hp)
    exact⟨Q,qc,h1⟩
   subst ev
   obtain⟨n,hn⟩:∃n,c.q.length=n:=⟨_,rfl⟩
   rw[hn] at hp
   have hs:cellsC (cs.take (k+1))=cellsC (cs.take k)++[.int .i64 c.op,.string c.s,.string c.g.s,.int .i64 c.g.k,.int .i64 c.g.l,.int .i64 c.d.k,.int .u64 c.d.b,.string c.d.t,.slice Q n qc]:=takeC hp
   have HS:=J0 hs
   have hj0:(0:Int)≤(k:Int):=by omega
   have hj1:(k:Int)<(nc:Int):=by omega
   obtain⟨ad,e,c0,c1,c2,c3,c4,c5,c6,c7,c8⟩:=(hK.below HB).ch hp
   subst e
   dsimp only at c0 c1 c2 c3 c4 c5 c6 c7 c8
   have nb:=below_new (w:=wr) (.cells #[.int .i64 c.op,.string c.s,.string c.g.s,.int .i64 c.g.k,.int .i64 c.g.l,.int .i64 c.d.k,.int .u64 c.d.b,.string c.d.t,.slice Q n qc] 73)
   have C:CBox (wr.alloc (.cells #[.int .i64 c.op,.string c.s,.string c.g.s,.int .i64 c.g.k,.int .i64 c.g.l,.int .i64 c.d.k,.int .u64 c.d.b,.string c.d.t,.slice Q n qc] 73)) wr.heap.size c (.slice Q n qc) 73:=OBox.new wr (chL c (.slice Q n qc)) 73
   have hown4:=hown.alloc (.cells #[.int .i64 c.op,.string c.s,.string c.g.s,.int .i64 c.g.k,.int .i64 c.g.l,.int .i64 c.d.k,.int .u64 c.d.b,.string c.d.t,.slice Q n qc] 73)
   clear hp hs hn
   go_upto_region 5 with fail
   generalize wr.alloc (.cells #[.int .i64 c.op,.string c.s,.string c.g.s,.int .i64 c.g.k,.int .i64 c.g.l,.int .i64 c.d.k,.int .u64 c.d.b,.string c.d.t,.slice Q n qc] 73)=W4 at *
   clear c0 c1 c2 c3 c4 c5 c6 c7 c8
   have HB4:=HB.trans (nb.mono HB.size)
   obtain⟨a0,a1,a2,a3,a4,a5,a6,a7,a8⟩:=C.c9
   obtain⟨V,vc,rfl,_,_,_⟩:=own_rd hown4
   have hz4:=HB4.size
   go_wp2_with (at_builtin;refine wpList_append_own _ rfl _ _ 77 rfl w.heap.size 76 i0 (.agg #[.int .i64 0,.string ⟨#[]⟩,.string ⟨#[]⟩,.int .i64 0,.int .i64 0,.int .i64 0,.int .u64 0,.string ⟨#[]⟩,.slice none 0 0]) 9 112 Tryz.underlying77 hi hz0 hz1 hz2 rfl (by decide) _ _ _ rfl (hown4.alloc _) ⟨W4.heap.size,0,none⟩ 1 1 [.int .i64 c.op,.string c.s,.string c.g.s,.int .i64 c.g.k,.int .i64 c.g.l,.int .i64 c.d.k,.int .u64 c.d.b,.string c.d.t,.slice Q n qc] rfl rfl ?c1 ?c2 ?c3 ?c4 ?c5 ?_)
   case c1=>exact newsL _ _ _ (by simp)
   case c2=>intro u hu;simp at hu;rcases hu with rfl|rfl|rfl|rfl|rfl|rfl|rfl|rfl|rfl <;> rfl
   case c3=>simp only[maxLen];omega
   case c4=>omega
   case c5=>simp <;> omega
   intro v' w3 hown' hgrow _
   have BG:Below w.heap.size W4 w3:=((Jy _ _).alloc (by omega) (.cells #[.int .i64 c.op,.string c.s,.string c.g.s,.int .i64 c.g.k,.int .i64 c.g.l,.int .i64 c.d.k,.int .u64 c.d.b,.string c.d.t,.slice Q n qc] 76)).grown hgrow (by simp <;> omega) (fun q hq=>own_base hown4 q hq)
   have hown3:w3.ownsRow w.heap.size 76 9 v' (k+1) (cellsC (cs.take (k+1))):=own_eq hown' (by simp) (by rw[HS.out])
   obtain⟨B',c',rfl,_,_,_⟩:=own_rd hown3
   have HB3:=HB4.trans BG
   clear hown' hgrow hown hown4 a0 a1 a2 a3 a4 a5 a6 a7 a8 nb C
   go_wp2
   go_roundw
   case rel=>exact⟨k+1,by omega,by go_num,hown3,HB3⟩
   case measure=>simp[intOf];omega
  ·obtain rfl:k=nc:=by omega
   have hall:cs.take k=cs:=Vz (by rw[HNC.out];exact J9 _)
   rw[hall] at hown
   obtain⟨B',c',rfl,_,_,r⟩:=own_rd hown
   go_wp2
   go_ret
   exact⟨B',c',rfl,r,HB⟩
theorem few9_m (A:Option Addr) (cA m:Nat) (os:List OpV) (hm:os.length=m) (hl:m≤9223372036854775807) (w:World) (hA:Rd w A (cellsO os)) (hg:∀x∈os,x.G w) (hs:∀x∈os,x.S):
 Calls Tryz.prog 10 #[.slice A m cA] w fun e w'=>∃r:Bool,e=.returned (.bool r)∧Below w.heap.size w w':=by
 have HM:=J0 hm;have HG:=J0 hg;have HZ:=J0 hs
 clear hm hg hs
 go_enter Tryz.func10,Tryz.ntmps10
 go_wp2
 go_loopw [3,5,12] (fun n _ i wr=>∃(j:Nat) (z:Int),j≤m∧i=.int .i64 j∧n=.int .i64 z∧Below w.heap.size w wr) (fun _ _ i _=>m - (intOf i).toNat)
 case atStart=>exact⟨0,0,by omega,rfl,rfl,Jy _ _⟩
 case round=>
  obtain⟨j,z,hj,rfl,rfl,HB⟩:=hrel
  have hAr:=hA.below HB
  by_cases hlt:j<m
  ·obtain⟨x,hx⟩:∃x,os[j]?=some x:=⟨_,J4 (by rw[HM.out];exact hlt)⟩
   have hxm:=J7 hx
   obtain⟨x1,x2,x3,x4,x5,x6,x7,x8,x9,x10⟩:=HG.out x hxm
   obtain⟨s1,s2,s3,s4,s5,s6⟩:=HZ.out x hxm
   obtain⟨ad,rfl,c0,c1,c2,c3,c4⟩:=hAr.op hx
   obtain⟨nf,hnf⟩:∃y,x.fs.length=y:=⟨_,rfl⟩
   obtain⟨nc,hnc⟩:∃y,x.cs.length=y:=⟨_,rfl⟩
   obtain⟨nl,hnl⟩:∃y,x.live.length=y:=⟨_,rfl⟩
   rw[hnf] at c2 s3;rw[hnc] at c3 s5;rw[hnl] at c4 s6
   have P:=OBox.new wr [.int .i64 x.k,.string x.s,.slice x.A nf x.a,.slice x.C nc x.c,.slice x.L nl x.l] 31
   obtain⟨p0,p1,p2,p3,p4⟩:=P.f5
   have HNF:=J0 hnf;have HNC:=J0 hnc
   have HB1:=HB.alloc HB.size (.cells #[.int .i64 x.k,.string x.s,.slice x.A nf x.a,.slice x.C nc x.c,.slice x.L nl x.l] 31)
   have hw1:IntKind.i64.wrap ((x.s.size:Int)+(nl:Int))=((x.s.size+nl:Nat):Int):=(Xq _ (by omega)).trans (by omega)
   have hw2:IntKind.i64.wrap (((x.s.size+nl:Nat):Int)+(nf:Int))=((x.s.size+nl+nf:Nat):Int):=(Xq _ (by omega)).trans (by omega)
   clear hAr hx hnf hnc hnl x1 x2 x3 x5 x7 x9 x10
   go_upto_region 7 with fail
   generalize wr.alloc (.cells #[.int .i64 x.k,.string x.s,.slice x.A nf x.a,.slice x.C nc x.c,.slice x.L nl x.l] 31)=W1 at *
   clear c0 c1 c2 c3 c4
   go_loopw [3,7,32] (fun n _ i wr=>∃(j:Nat) (z:Int),j≤nf∧i=.int .i64 j∧n=.int .i64 z∧Below w.heap.size w wr∧Below W1.heap.size W1 wr) (fun _ _ i _=>nf - (intOf i).toNat)
   case atStart=>exact⟨0,_,by omega,rfl,rfl,HB1,Jy _ _⟩
   case round=>
    obtain⟨i,z2,hi,rfl,rfl,HB2,HP2⟩:=hrel
    have hF:=x4.below HB2
    by_cases hlt2:i<nf
    ·obtain⟨f,hf⟩:∃f,x.fs[i]?=some f:=⟨_,J4 (by rw[HNF.out];exact hlt2)⟩
     obtain⟨ad2,hxA,d0,d1,d2⟩:=hF.fld hf
     have hfs:=s2 f (J7 hf)
     clear hF hf p0 p1 p2 p3 p4
     simp only[hxA]
     go_wp2
     go_roundw
     case rel=>exact⟨i+1,_,by omega,by go_num,rfl,HB2.alloc HB2.size _,HP2.alloc HP2.size _⟩
     case measure=>simp[intOf];omega
    ·obtain rfl:i=nf:=by omega
     have P2:=P.below HP2
     clear hF p0 p1 p2 p3 p4
     obtain⟨p0,p1,p2,p3,p4⟩:=P2.f5
     have hHB:=HB2
     clear HB1 HB2
     go_wp2
     go_loopw [3,9,45] (fun n _ i wx=>∃(j:Nat) (z:Int),j≤nc∧i=.int .i64 j∧n=.int .i64 z∧Below w.heap.size w wx) (fun _ _ i _=>nc - (intOf i).toNat)
     case atStart=>exact⟨0,_,by omega,rfl,rfl,hHB⟩
     case round=>
      obtain⟨l,z3,hl3,rfl,rfl,HB3⟩:=hrel
      have hC:=x6.below HB3
      clear p0 p1 p2 p3 p4 P2 HP2
      by_cases hlt3:l<nc
      ·obtain⟨p,hp⟩:∃p,x.cs[l]?=some p:=⟨_,J4 (by rw[HNC.out];exact hlt3)⟩
       obtain⟨Q,qc,eq,hq1,hq2,hq⟩:=(x8 p (J7 hp)).2.2
       obtain⟨ad3,hxC,c0,c1,c2,c3,c4,c5,c6,c7,c8⟩:=hC.ch hp
       rw[eq] at c8
       clear hC hp eq hq
       simp only[hxC]
       go_wp2
       go_roundw
       case rel=>exact⟨l+1,_,by omega,by go_num,rfl,HB3.alloc HB3.size _⟩
       case measure=>simp[intOf];omega
      ·obtain rfl:l=nc:=by omega
       clear hC
       go_wp2
       go_roundw
       case rel=>exact⟨j+1,_,by omega,by go_num,rfl,HB3⟩
       case measure=>simp[intOf];omega
  ·obtain rfl:j=m:=by omega
   clear hAr
   by_cases h60:j≤60
   ·have e1:decide ((j:Int)≤60)=true:=by simp;omega
    obtain⟨e2,he2⟩:∃r,decide (z≤3000)=r:=⟨_,rfl⟩
    cases e2
    ·go_wp2
     go_ret
     exact⟨_,rfl,HB⟩
    ·go_wp2
     go_ret
     exact⟨_,rfl,HB⟩
   ·have e1:decide ((j:Int)≤60)=false:=by simp;omega
    go_wp2
    go_ret
    exact⟨_,rfl,HB⟩
end
end Go.Proofs.YteembinfgbapgaaGreat
