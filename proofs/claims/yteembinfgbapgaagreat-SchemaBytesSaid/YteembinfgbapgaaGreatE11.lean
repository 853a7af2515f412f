/- Merged out of: Ql Qm Tq Ts Tl Kx Hw Hc Qu Sc Sd Se Ua. -/
import Derived.Test.YteembinfgbapgaaGreatE00
import Derived.Test.YteembinfgbapgaaGreatE09
import Derived.Test.YteembinfgbapgaaGreatE10
import Derived.Test.YteembinfgbapgaaGreatE02
import Derived.Test.YteembinfgbapgaaGreatE04
set_option linter.unusedSimpArgs false
set_option linter.unusedVariables false
set_option maxRecDepth 100000
set_option maxHeartbeats 8000000
namespace Go.Proofs.YteembinfgbapgaaGreat
section
open Go.RowKit Go.Lib
theorem Cd (l:List Fd) (m:Nat) (hm:l.length=m) (hl:m<=9223372036854775807) (A:EL) (cA:Nat) (K:EL) (cK nc:Nat) (cs:List (Ch×ER)) (hnc:cs.length=nc) (hk:nc<=9223372036854775807) (hn:mU l) (hw:∀p∈cs,wA p) (w:EQ) (hA:Rd w A (aC l)) (hK:Rd w K (bV cs)) (ho:∀p∈cs,ou w p) (hr:aK l=false):
 Calls Tryz.prog 102 #[.slice A m cA,.slice K nc cK] w fun e w'=>CO Tb.z 60 w e w':=by
 have nb:=aA (w:=w) (.cells #[.slice none 0 0,.slice none 0 0,.slice none 0 0] 110)
 have nb1:=aA (w:=w.alloc (.cells #[.slice none 0 0,.slice none 0 0,.slice none 0 0] 110)) (.cells #[.slice none 0 0,.slice none 0 0,.slice none 0 0] 110)
 have R:=(aD.new w [.slice none 0 0,.slice none 0 0,.slice none 0 0] 110).below nb1
 have V:aD ((w.alloc (.cells #[.slice none 0 0,.slice none 0 0,.slice none 0 0] 110)).alloc (.cells #[.slice none 0 0,.slice none 0 0,.slice none 0 0] 110)) (w.heap.size+1) [.slice none 0 0,.slice none 0 0,.slice none 0 0] 110:=by have:=aD.new (w.alloc (.cells #[.slice none 0 0,.slice none 0 0,.slice none 0 0] 110)) [.slice none 0 0,.slice none 0 0,.slice none 0 0] 110;rw[Jq] at this;exact this
 have HB:=aB nb nb1
 have hA1:=hA.below HB
 have HM:=J0 hm;have HR:=J0 hr;have HN:=J0 hn
 clear nb nb1 hm hr hw ho hK hnc hn
 go_enter Tryz.func102,Tryz.ntmps102
 go_wp2_with (go_at_call 77;refine(ab A cA m l HM.out false HR.out _ hA1 hl HN.out.fds).mono ?_;rintro e W1 ⟨rfl,hb⟩;replace HB:=HB.trans (hb.mono HB.size);replace R:=R.below hb;replace V:=V.below hb;obtain⟨q0,q1,q2,q3,q4,q5⟩:=R.f3;obtain⟨v0,v1,v2,v3,v4,v5⟩:=V.f3;clear hb)
 refine Xx (v:=.tuple #[.agg #[.slice none 0 0,.slice none 0 0,.slice none 0 0],.int .i64 60]) (by simp[results,Tryz.results102,go_sem, *];done) rfl ⟨none,0,none,0,none,0,rfl,fun h=>absurd rfl h,fun h=>absurd rfl h,fun h=>absurd rfl h,?_⟩
 (repeat (first|exact HB|refine J8 ?_ (by dsimp only;omega) _|refine Jk ?_ (by have:=HB.size;(try simp) <;> omega) _|apply Jv))
theorem At (l:List Fd) (m:Nat) (hm:l.length=m) (hl:m<=9223372036854775807) (A:EL) (cA:Nat) (K:EL) (cK nc:Nat) (cs:List (Ch×ER)) (hnc:cs.length=nc) (hk:nc<=9223372036854775807) (hn:mU l) (hw:∀p∈cs,wA p) (w:EQ) (hA:Rd w A (aC l)) (hK:Rd w K (bV cs)) (ho:∀p∈cs,ou w p) (hr:aK l=true) (T:Tb) (code:Int) (hT:pH (bA l) (cs.map (·.1))=(T,code)):
 Calls Tryz.prog 102 #[.slice A m cA,.slice K nc cK] w fun e w'=>CO T code w e w':=by
 have hk0:=bx hr
 have tk:=iH.keep hr hn
 have nb:=aA (w:=w) (.cells #[.slice none 0 0,.slice none 0 0,.slice none 0 0] 110)
 have nb1:=aA (w:=w.alloc (.cells #[.slice none 0 0,.slice none 0 0,.slice none 0 0] 110)) (.cells #[.slice none 0 0,.slice none 0 0,.slice none 0 0] 110)
 have R:=(aD.new w [.slice none 0 0,.slice none 0 0,.slice none 0 0] 110).below nb1
 have V:aD ((w.alloc (.cells #[.slice none 0 0,.slice none 0 0,.slice none 0 0] 110)).alloc (.cells #[.slice none 0 0,.slice none 0 0,.slice none 0 0] 110)) (w.heap.size+1) [.slice none 0 0,.slice none 0 0,.slice none 0 0] 110:=by have:=aD.new (w.alloc (.cells #[.slice none 0 0,.slice none 0 0,.slice none 0 0] 110)) [.slice none 0 0,.slice none 0 0,.slice none 0 0] 110;rw[Jq] at this;exact this
 have HB:=aB nb nb1
 have hA1:=hA.below HB
 have HM:=J0 hm;have HR:=J0 hr;have HNC:=J0 hnc;have HT:=J0 hT;have HK0:=J0 hk0;have TK:=J0 tk;have HW:=J0 hw;have HO:=J0 ho;have HN:=J0 hn
 clear nb nb1 hm hr hnc hT hk0 tk hw ho hn
 go_enter Tryz.func102,Tryz.ntmps102
 go_upto_region 5 with (first
  |(go_at_call 77;refine(ab A cA m l HM.out true HR.out _ hA1 hl HN.out.fds).mono ?_;rintro e W1 ⟨rfl,hb⟩;replace HB:=HB.trans (hb.mono HB.size);replace R:=R.below hb;replace V:=V.below hb;replace hA1:=hA1.below hb;clear hb)
  |(go_at_call 153;refine(vj A cA m l HM.out HR.out _ hA1 hl HN.out.fds).mono ?_;rintro e W2 ⟨v3,rfl,own3,hbS⟩;obtain⟨X2,z2,rfl,u4,u5,r2⟩:=aL own3;have hz:=hbS.size;replace HB:=HB.trans (hbS.mono HB.size);replace R:=R.below hbS;replace V:=V.below hbS))
 have TB:=aD.new W2 [.slice A m cA,.slice A m cA,.slice X2 m z2] 110
 have nb2:=aA (w:=W2) (.cells #[.slice A m cA,.slice A m cA,.slice X2 m z2] 110)
 have RR:=R.below nb2
 have VV:=V.below nb2
 have HB0:=HB.trans (nb2.mono HB.size)
 have r0:=hA.below HB0
 replace r2:=r2.below nb2
 have hq0:=V.lt
 generalize W2.alloc (.cells #[.slice A m cA,.slice A m cA,.slice X2 m z2] 110)=W3 at *
 obtain⟨q,hq⟩:∃q,W2.heap.size=q:=⟨_,rfl⟩
 rw[hq] at TB hq0 |-
 have HQ:=J0 hq0
 clear hq hq0 nb2 R V HB own3 hbS hz u4 u5 hA1
 clear W2 W1
 go_wp2
 go_loopw [8,9,10,11,12] (fun i _ _ _ _ wr=>∃(j:Nat) (t:Tb) (no nn nm:Nat) (Y0:EL) (y0:Nat) (Y1:EL) (y1:Nat) (Y2:EL) (y2:Nat),j<=nc/\i=.int .i64 j/\Hid (t.o.length=no)/\Hid (t.n.length=nn)/\Hid (t.m.length=nm)/\aD wr q [.slice Y0 no y0,.slice Y1 nn y1,.slice Y2 nm y2] 110/\Rd wr Y0 (aC t.o)/\Rd wr Y1 (aC t.n)/\Rd wr Y2 (aJ t.m)/\Hid (iH t)/\Hid (pH t ((cs.drop j).map (·.1))=(T,code))/\aD wr w.heap.size [.slice none 0 0,.slice none 0 0,.slice none 0 0] 110/\aD wr (w.heap.size+1) [.slice none 0 0,.slice none 0 0,.slice none 0 0] 110/\Below w.heap.size w wr) (fun i _ _ _ _ _=>nc - (intOf i).toNat)
 case atStart=>exact⟨0,bA l,m,m,m,_,_,_,_,_,_,by omega,rfl,J0 (by rw[HK0.out];exact HM.out),J0 (by rw[HK0.out];exact HM.out),J0 (by rw[HK0.out];show(kM l.length).length=m;rw[aP];exact HM.out),TB,by rw[HK0.out];exact r0,by rw[HK0.out];exact r0,by rw[HK0.out];show Rd _ _ (aJ (kM l.length));rw[HM.out];exact r2,TK,HT,RR,VV,HB0⟩
 case round=>
  obtain⟨j,t,no,nn,nm,Y0,y0,Y1,y1,Y2,y2,hj,rfl,HNO,HNN,HNM,TB,r0,r1,r2,HTK,HG,R,V,HB⟩:=hrel
  clear RR VV HB0 TK HT
  by_cases hlt:j<nc
  ·obtain⟨⟨c,pv⟩,hp⟩:∃p,cs[j]?=some p:=⟨_,J4 (by rw[HNC.out];exact hlt)⟩
   obtain⟨⟨p0,p1⟩,⟨x0,x1⟩,hq4,hgs⟩:(-9223372036854775808<=c.op/\c.op<=9223372036854775807)/\(0<=c.d.b/\c.d.b<18446744073709551616)/\c.q.length<=17592186044415/\c.g.s.size<=281474976710656:=HW.out _ (J7 hp)
   obtain⟨Q,qc,ev,hqc,RQ⟩:∃Q qc,pv=.slice Q c.q.length qc/\c.q.length<=qc/\Rd w Q (aV c.q):=by
    obtain⟨Q,qc,h1,h2,_,h4⟩:=HO.out _ (J7 hp)
    exact⟨Q,qc,h1,h2,h4⟩
   subst ev
   obtain⟨ad,rfl,_⟩:=hK.ch hp
   have hgo:pH t (c :: (cs.drop (j+1)).map (·.1))=(T,code):=by
    rw[<-HG.out,List.drop_eq_getElem_cons (show j<cs.length by rw[HNC.out];exact hlt)]
    rw[J4 (by rw[HNC.out];exact hlt)] at hp
    rw[List.map_cons,Jj hp]
   obtain⟨n,hn⟩:∃n,c.q.length=n:=⟨_,rfl⟩
   rw[hn] at hp
   simp only[hn] at hqc hq4
   obtain⟨e0,he⟩:∃e,dR t.n c=e:=⟨_,rfl⟩
   obtain⟨M,hM⟩:∃M,dy t.n c=M:=⟨_,rfl⟩
   obtain⟨mo,hmo⟩:∃x,M.o.length=x:=⟨_,rfl⟩
   obtain⟨mn,hmn⟩:∃x,M.n.length=x:=⟨_,rfl⟩
   obtain⟨mm,hmm⟩:∃x,M.m.length=x:=⟨_,rfl⟩
   have HN:=J0 hn;have HE:=J0 he;have HMK:=J0 hM;have HGO:=J0 hgo;have HP:=J0 hp
   have HMO:=J0 hmo;have HMN:=J0 hmn;have HMM:=J0 hmm
   have hs16:Hid (no<=16/\nn<=16/\nm<=16):=J0 (by have:=bN HTK.out.r;rw[HNO.out,HNN.out,HNM.out] at this;exact this)
   have hj0:(0:Int)<=(j:Int):=by omega
   have hj1:(j:Int)<(nc:Int):=by omega
   have hmk:∀W,Below wr.heap.size wr W->Calls Tryz.prog 154 #[.slice Y1 nn y1,.agg #[.int .i64 c.op,.string c.s,.string c.g.s,.int .i64 c.g.k,.int .i64 c.g.l,.int .i64 c.d.k,.int .u64 c.d.b,.string c.d.t,.slice Q n qc]] W fun e w'=>∃U0 v0 U1 v1 U2 v2,e=.returned (.tuple #[.agg #[.slice U0 mo v0,.slice U1 mn v1,.slice U2 mm v2],.int .i64 e0])/\Rd w' U0 (aC M.o)/\Rd w' U1 (aC M.n)/\Rd w' U2 (aJ M.m)/\Below W.heap.size W w':=fun W hb=>by
    refine(Cm t.n c nn HNN.out (by have:=hs16.out;omega) Y1 y1 Q n qc hn hq4 x0 x1 HTK.out.n.fds (Q7 hgs (by decide)) W (r1.below hb) ((RQ.below HB).below hb)).mono ?_
    rintro e W5 ⟨U0,_,v0,U1,_,v1,U2,_,v2,rfl,hTV,hb5⟩
    obtain⟨_,_,_,_,_,_,ev,hdU,s0',s1',s2'⟩:=hTV
    cases ev
    rw[hM] at s0' s1' s2' |-
    rw[hmo,hmn,hmm,he]
    exact⟨U0,v0,U1,v1,U2,v2,rfl,s0'.rd,s1'.rd,s2'.rd,hb5⟩
   have HMKC:=J0 hmk
   have hall:∀W,Below wr.heap.size wr W->W.cell? ⟨q,1,none⟩=some (.slice Y1 nn y1)/\W.cell? (ad.add (j * 9))=some (.int .i64 c.op)/\W.cell? ⟨(ad.add (j * 9)).block,(ad.add (j * 9)).off+(0+1),none⟩=some (.string c.s)/\W.cell? ⟨(ad.add (j * 9)).block,(ad.add (j * 9)).off+(1+1),none⟩=some (.string c.g.s)/\W.cell? ⟨(ad.add (j * 9)).block,(ad.add (j * 9)).off+(2+1),none⟩=some (.int .i64 c.g.k)/\W.cell? ⟨(ad.add (j * 9)).block,(ad.add (j * 9)).off+(3+1),none⟩=some (.int .i64 c.g.l)/\W.cell? ⟨(ad.add (j * 9)).block,(ad.add (j * 9)).off+(4+1),none⟩=some (.int .i64 c.d.k)/\W.cell? ⟨(ad.add (j * 9)).block,(ad.add (j * 9)).off+(5+1),none⟩=some (.int .u64 c.d.b)/\W.cell? ⟨(ad.add (j * 9)).block,(ad.add (j * 9)).off+(6+1),none⟩=some (.string c.d.t)/\W.cell? ⟨(ad.add (j * 9)).block,(ad.add (j * 9)).off+(7+1),none⟩=some (.slice Q n qc)/\Below wr.heap.size wr W:=fun W hb=>by
    obtain⟨_,ea,c0,c1,c2,c3,c4,c5,c6,c7,c8⟩:=((hK.below HB).below hb).ch hp
    cases ea
    exact⟨(TB.below hb).f3.2.1,c0,c1,c2,c3,c4,c5,c6,c7,c8,hb⟩
   have hzt:=TB.lt
   clear hn he hM hgo hp HG hmo hmn hmm hmk
   obtain⟨t0,t1,t2,f0,f1,f2⟩:=TB.f3
   go_upto_region 8 with fail
   go_cut [9,10] (fun s9 s10 wx=>∃p U0 v0 U1 v1 U2 v2,s9=.pointer (some ⟨p,0,none⟩)/\s10=.int .i64 e0/\aD wx p [.slice U0 mo v0,.slice U1 mn v1,.slice U2 mm v2] 110/\Rd wx U0 (aC M.o)/\Rd wx U1 (aC M.n)/\Rd wx U2 (aJ M.m)/\Below wr.heap.size wr wx)
   case first=>
    go_region_held3 (fun W=>W.cell? ⟨q,1,none⟩=some (.slice Y1 nn y1)/\W.cell? (ad.add (j * 9))=some (.int .i64 c.op)/\W.cell? ⟨(ad.add (j * 9)).block,(ad.add (j * 9)).off+(0+1),none⟩=some (.string c.s)/\W.cell? ⟨(ad.add (j * 9)).block,(ad.add (j * 9)).off+(1+1),none⟩=some (.string c.g.s)/\W.cell? ⟨(ad.add (j * 9)).block,(ad.add (j * 9)).off+(2+1),none⟩=some (.int .i64 c.g.k)/\W.cell? ⟨(ad.add (j * 9)).block,(ad.add (j * 9)).off+(3+1),none⟩=some (.int .i64 c.g.l)/\W.cell? ⟨(ad.add (j * 9)).block,(ad.add (j * 9)).off+(4+1),none⟩=some (.int .i64 c.d.k)/\W.cell? ⟨(ad.add (j * 9)).block,(ad.add (j * 9)).off+(5+1),none⟩=some (.int .u64 c.d.b)/\W.cell? ⟨(ad.add (j * 9)).block,(ad.add (j * 9)).off+(6+1),none⟩=some (.string c.d.t)/\W.cell? ⟨(ad.add (j * 9)).block,(ad.add (j * 9)).off+(7+1),none⟩=some (.slice Q n qc)/\Below wr.heap.size wr W) ((refine hall _ ?_;repeat (first|assumption|exact Jy _ _|refine J8 ?_ (by dsimp only;first|exact J9 _|omega) _|refine Jk ?_ (by first|exact J9 _|omega) _|apply Jv)))
     (first
       |(go_at_call 154;obtain⟨_,_,_,_,_,_,_,_,_,_,HBx⟩:=‹_/\_/\_/\_/\_/\_/\_/\_/\_/\_/\Below wr.heap.size wr _›;refine(HMKC.out _ HBx).mono ?_;rintro e' W8 ⟨U0,v0,U1,v1,U2,v2,rfl,s0,s1,s2,hb⟩;have HB8:Below wr.heap.size wr W8:=aB HBx hb;have hz8:=HB8.size;(first|(have VB:=aD.below (aD.new _ [.slice none 0 0,.slice none 0 0,.slice none 0 0] 110) hb)|(have VB:=aD.newB (cs:=[.slice none 0 0,.slice none 0 0,.slice none 0 0]) hb)|skip);(first|(obtain⟨b0,b1,b2,b3,b4,b5⟩:=VB.f3)|skip)))
    all_goals (go_wp2_with fail;go_meet;refine⟨_,U0,v0,U1,v1,U2,v2,rfl,rfl,?_,?_,?_,?_,?_⟩)
    all_goals first
     |exact aD.new _ _ _
     |(exact aI (aI (aI VB 0 _) 1 _) 2 _)
     |exact RdF.set3 s0 VB _ _ _
     |exact RdF.set3 s1 VB _ _ _
     |exact RdM.set3 s2 VB _ _ _
     |exact s0.below (aA _)
     |exact s1.below (aA _)
     |exact s2.below (aA _)
     |(repeat (first|assumption|exact Jy _ _|refine J8 ?_ (by dsimp only;first|exact J9 _|omega) _|refine Jk ?_ (by first|exact J9 _|omega) _|apply Jv))
   case rest=>
    obtain⟨p,U0,v0,U1,v1,U2,v2,rfl,rfl,MB,s0,s1,s2,hb6⟩:=hcut
    rename EQ=>W6
    clear hall HMKC t0 t1 t2 f0 f1 f2
    have TB6:=TB.below hb6
    have R6:=R.below hb6
    have V6:=V.below hb6
    have HB6:=HB.trans (hb6.mono HB.size)
    have r06:=r0.below hb6
    have r16:=r1.below hb6
    have r26:=r2.below hb6
    obtain⟨q0,q1,q2,g0,g1,g2⟩:=R6.f3
    obtain⟨d0,d1,d2,_,_,_⟩:=V6.f3
    clear r0 r1 r2 HB TB R V hb6 hzt
    have hs2:=hs16.out
    by_cases h0:e0=0
    ·subst h0
     obtain⟨t0,t1,t2,f0,f1,f2⟩:=TB6.f3
     obtain⟨m0,m1,m2,_,_,_⟩:=MB.f3
     have hMk:iH M:=by rw[<-HMK.out];exact iH.make HE.out HTK.out.n hgs x0 x1
     have HMT:=J0 hMk
     have hm16:Hid (mo<=16/\mn<=16/\mm<=16):=J0 (by have:=bN hMk.r;rw[HMO.out,HMN.out,HMM.out] at this;exact this)
     clear hMk
     have hs3:=hm16.out
     go_wp2_with (go_at_call 155;refine(vW t M Y0 Y1 Y2 U0 U1 U2 y0 y1 y2 v0 v1 v2 no nn nm mo mn mm HNO.out HNN.out HNM.out HMO.out HMN.out HMM.out (by omega) (by omega) (by omega) (by omega) (by omega) (by omega) HTK.out.w HMT.out.w HTK.out.o.fds HTK.out.n.fds HMT.out.o.fds HMT.out.n.fds _ r06 r16 r26 s0 s1 s2).mono ?_)
     obtain⟨G,hG⟩:∃G,bv t M=G:=⟨_,rfl⟩
     obtain⟨lo,hlo⟩:∃x,G.o.length=x:=⟨_,rfl⟩
     obtain⟨ln,hln⟩:∃x,G.n.length=x:=⟨_,rfl⟩
     obtain⟨lm,hlm⟩:∃x,G.m.length=x:=⟨_,rfl⟩
     obtain⟨e2,he2⟩:∃x,az t M=x:=⟨_,rfl⟩
     rw[hG,he2]
     rintro e W7 ⟨V0,w0,V1,w1,V2,w2,rfl,a0,a1,a2,hb7⟩
     rw[hlo,hln,hlm]
     have HGL:=J0 hlo;have HGN:=J0 hln;have HGM:=J0 hlm;have HGT:=J0 hG;have HE2:=J0 he2
     have TB7:=TB6.below hb7
     have R7:=R6.below hb7
     have V7:=V6.below hb7
     have HB7:=HB6.trans (hb7.mono HB6.size)
     clear hlo hln hlm hG he2 q0 q1 q2 g0 g1 g2 t0 t1 t2 f0 f1 f2 m0 m1 m2 d0 d1 d2 TB6 R6 V6 HB6 r06 r16 r26 s0 s1 s2 hb7 MB
     have nb8:=aA (w:=W7) (.cells #[.slice V0 lo w0,.slice V1 ln w1,.slice V2 lm w2] 110)
     have GB:=aD.new W7 [.slice V0 lo w0,.slice V1 ln w1,.slice V2 lm w2] 110
     have TB8:=TB7.below nb8
     have R8:=R7.below nb8
     have V8:=V7.below nb8
     have HB8:=HB7.trans (nb8.mono HB7.size)
     replace a0:=a0.below nb8
     replace a1:=a1.below nb8
     replace a2:=a2.below nb8
     have hzq:=TB7.lt
     clear TB7 R7 V7 HB7 nb8
     go_upto_region 12 with fail
     generalize W7.alloc (.cells #[.slice V0 lo w0,.slice V1 ln w1,.slice V2 lm w2] 110)=W8 at *
     obtain⟨t0,t1,t2,f0,f1,f2⟩:=TB8.f3
     obtain⟨q0,q1,q2,g0,g1,g2⟩:=R8.f3
     obtain⟨d0,d1,d2,_,_,_⟩:=V8.f3
     obtain⟨b0,b1,b2,_,_,_⟩:=GB.f3
     have hwq:=HQ.out
     rcases jl t M with h2|h2
     ·obtain rfl:e2=0:=by rw[<-HE2.out];exact h2
      have hG1:iH G:=by rw[<-HGT.out];exact iH.comp HTK.out HMT.out h2
      have hG2:pH G ((cs.drop (j+1)).map (·.1))=(T,code):=by
       have h:=HGO.out
       rw[kc HE.out (by rw[HMK.out];exact h2),HMK.out,HGT.out] at h
       exact h
      have HG1:=J0 hG1
      have HG2:=J0 hG2
      clear hG1 hG2 h2
      go_wp2
      go_roundw
      case rel=>
       exact⟨j+1,G,lo,ln,lm,V0,w0,V1,w1,V2,w2,by omega,by go_num,HGL,HGN,HGM,aI (aI (aI TB8 0 (.slice V0 lo w0)) 1 (.slice V1 ln w1)) 2 (.slice V2 lm w2),RdF.set3 a0 TB8 _ _ _,RdF.set3 a1 TB8 _ _ _,RdM.set3 a2 TB8 _ _ _,HG1,HG2,aD.far (aD.far (aD.far R8 (p:=⟨q,0,none⟩) (by show q≠_;omega) _) (p:=⟨q,1,none⟩) (by show q≠_;omega) _) (p:=⟨q,2,none⟩) (by show q≠_;omega) _,aD.far (aD.far (aD.far V8 (p:=⟨q,0,none⟩) (by show q≠_;omega) _) (p:=⟨q,1,none⟩) (by show q≠_;omega) _) (p:=⟨q,2,none⟩) (by show q≠_;omega) _,((HB8.setCell (p:=⟨q,0,none⟩) (by show w.heap.size<=q;omega) _).setCell (p:=⟨q,1,none⟩) (by show w.heap.size<=q;omega) _).setCell (p:=⟨q,2,none⟩) (by show w.heap.size<=q;omega) _⟩
      case measure=>simp[intOf];omega
     ·obtain rfl:e2=70:=by rw[<-HE2.out];exact h2
      obtain⟨rfl,rfl⟩:Tb.z=T/\70=code:=by
       have h:=HGO.out
       rw[kZ HE.out (by rw[HMK.out,h2];decide)] at h
       exact⟨congrArg Prod.fst h,congrArg Prod.snd h⟩
      clear h2
      go_wp2
      refine Xx (v:=.tuple #[.agg #[.slice none 0 0,.slice none 0 0,.slice none 0 0],.int .i64 70]) (by simp[results,Tryz.results102,go_sem, *];done) rfl ⟨none,0,none,0,none,0,rfl,fun h=>absurd rfl h,fun h=>absurd rfl h,fun h=>absurd rfl h,?_⟩
      have HB:=HB8
      (repeat (first|exact HB|refine J8 ?_ (by dsimp only;omega) _|refine Jk ?_ (by have:=HB.size;(try simp) <;> omega) _|apply Jv))
    ·have e2:(e0 != 0)=true:=by simpa using h0
     obtain⟨rfl,rfl⟩:Tb.z=T/\e0=code:=by
      have h:=HGO.out
      rw[ka (by rw[HE.out];exact h0),HE.out] at h
      exact⟨congrArg Prod.fst h,congrArg Prod.snd h⟩
     clear h0
     go_wp2
     refine Xx (v:=.tuple #[.agg #[.slice none 0 0,.slice none 0 0,.slice none 0 0],.int .i64 e0]) (by simp[results,Tryz.results102,go_sem, *];done) rfl ⟨none,0,none,0,none,0,rfl,fun h=>absurd rfl h,fun h=>absurd rfl h,fun h=>absurd rfl h,?_⟩
     have HB:=HB6
     (repeat (first|exact HB|refine J8 ?_ (by dsimp only;omega) _|refine Jk ?_ (by have:=HB.size;(try simp) <;> omega) _|apply Jv))
  ·obtain rfl:j=nc:=by omega
   have h:=HG.out
   rw[List.drop_of_length_le (by rw[HNC.out];exact J9 _)] at h
   have hT1:t=T:=congrArg Prod.fst h
   have hT2:(0:Int)=code:=congrArg Prod.snd h
   subst hT1 hT2
   clear h HG
   obtain⟨t0,t1,t2,f0,f1,f2⟩:=TB.f3
   obtain⟨q0,q1,q2,g0,g1,g2⟩:=R.f3
   go_wp2
   refine Xx (v:=.tuple #[.agg #[.slice Y0 no y0,.slice Y1 nn y1,.slice Y2 nm y2],.int .i64 0]) (by simp[results,Tryz.results102,go_sem, *];done) rfl ?_
   have e1:=HNO.out
   have e2:=HNN.out
   have e3:=HNM.out
   refine⟨Y0,y0,Y1,y1,Y2,y2,by rw[e1,e2,e3],RdF.set3 r0 R _ _ _,RdF.set3 r1 R _ _ _,RdM.set3 r2 R _ _ _,?_⟩
   (repeat (first|exact HB|refine J8 ?_ (by dsimp only;omega) _|refine Jk ?_ (by have:=HB.size;(try simp) <;> omega) _|apply Jv))
theorem Ds (l:List Fd) (m:Nat) (hm:l.length=m) (hl:m<=9223372036854775807) (A:EL) (cA:Nat) (K:EL) (cK nc:Nat) (cs:List (Ch×ER)) (hnc:cs.length=nc) (hk:nc<=9223372036854775807) (hn:mU l) (hw:∀p∈cs,wA p) (w:EQ) (hA:Rd w A (aC l)) (hK:Rd w K (bV cs)) (ho:∀p∈cs,ou w p):
 Calls Tryz.prog 102 #[.slice A m cA,.slice K nc cK] w fun e w'=>CO (gb l (cs.map (·.1))).1 (gb l (cs.map (·.1))).2 w e w':=by
 cases hr:aK l
 ·rw[gb,Xy (by rw[hr];decide)]
  exact Cd l m hm hl A cA K cK nc cs hnc hk hn hw w hA hK ho hr
 ·rw[gb,Xz hr]
  exact At l m hm hl A cA K cK nc cs hnc hk hn hw w hA hK ho hr _ _ rfl
theorem Dg:(Tryz.prog.info? 76).map (fun i=>(i.zero,i.size,i.bytes))=some (some (.agg #[.int .i64 0,.string ⟨#[]⟩,.string ⟨#[]⟩,.int .i64 0,.int .i64 0,.int .i64 0,.int .u64 0,.string ⟨#[]⟩,.slice none 0 0]),9,112):=by kernel_rfl
theorem jD (w:EQ) (cs:EO) (T:ES) (hn:cs≠[]):∀j x,cs[j]?=some x->(w.alloc (.cells cs.toArray T)).cell? ((⟨w.heap.size,0,none⟩:Addr).add j)=some x:=by
 intro j x hj
 obtain⟨ad,e,h⟩:=gh w cs T hn
 cases e
 exact h j x hj
theorem Ec {cs:List (Ch×ER)} {k:Nat} {p:Ch×ER} (h:cs[k]?=some p):bV (cs.take (k+1))=bV (cs.take k)++pX p.1 p.2:=by
 rw[Vv,h]
 simp[bV]
theorem Rd.op {w:EQ} {A:EL} {os:List lA} (h:Rd w A (lC os)) {j:Nat} {x:lA} (hx:os[j]?=some x):∃ad,A=some ad/\w.cell? (ad.add (j * 5))=some (.int .i64 x.k)/\w.cell? ⟨(ad.add (j * 5)).block,(ad.add (j * 5)).off+(0+1),none⟩=some (.string x.s)/\w.cell? ⟨(ad.add (j * 5)).block,(ad.add (j * 5)).off+(1+1),none⟩=some (.slice x.A x.fs.length x.a)/\
 w.cell? ⟨(ad.add (j * 5)).block,(ad.add (j * 5)).off+(2+1),none⟩=some (.slice x.C x.cs.length x.c)/\w.cell? ⟨(ad.add (j * 5)).block,(ad.add (j * 5)).off+(3+1),none⟩=some (.slice x.L x.live.length x.l):=by
 have hg:=fun r (hr:r<5)=>iq (F:=lA.cells) (k:=5) (fun _=>rfl) hx r hr
 obtain⟨ad,e,hc⟩:=h (by intro e;have:=hg 0 (by omega);unfold lC at e;rw[e] at this;simp[lA.cells] at this)
 have h0:=hc (j * 5) _ (hg 0 (by omega))
 have h1:=hc (j * 5+1) _ (hg 1 (by omega))
 have h2:=hc (j * 5+2) _ (hg 2 (by omega))
 have h3:=hc (j * 5+3) _ (hg 3 (by omega))
 have h4:=hc (j * 5+4) _ (hg 4 (by omega))
 rw[ba _ _ 0] at h1
 rw[ba _ _ 1] at h2
 rw[ba _ _ 2] at h3
 rw[ba _ _ 3] at h4
 exact⟨ad,e,h0,h1,h2,h3,h4⟩
theorem aD.f5 {w:EQ} {b:Nat} {x0 x1 x2 x3 x4:ER} {T:ES} (h:aD w b [x0,x1,x2,x3,x4] T):w.cell? ⟨b,0,none⟩=some x0/\w.cell? ⟨b,1,none⟩=some x1/\w.cell? ⟨b,2,none⟩=some x2/\w.cell? ⟨b,3,none⟩=some x3/\w.cell? ⟨b,4,none⟩=some x4:=⟨h.cell rfl,h.cell rfl,h.cell rfl,h.cell rfl,h.cell rfl⟩
theorem Dk (K:EL) (cK nc:Nat) (cs:List (Ch×ER)) (hnc:cs.length=nc) (hk:nc<=1256584717458) (w:EQ) (hK:Rd w K (bV cs)) (ho:∀p∈cs,ou w p):
 Calls Tryz.prog 30 #[.slice K nc cK] w fun e w'=>∃B d,e=.returned (.slice B nc d)/\Rd w' B (bV cs)/\Below w.heap.size w w':=by
 obtain⟨i0,hi,hz0,hz1,hz2⟩:=info_parts Dg
 have HNC:=J0 hnc;have HO:=J0 ho
 clear hnc ho
 go_enter Tryz.func30,Tryz.ntmps30
 go_wp2
 go_loopw [3,5,8] (fun v _ i wr=>∃(k:Nat),k<=nc/\i=.int .i64 k/\wr.ownsRow w.heap.size 76 9 v k (bV (cs.take k))/\Below w.heap.size w wr) (fun _ _ i _=>nc - (intOf i).toNat)
 case atStart=>exact⟨0,by omega,rfl,ai _ _ _ _,Jy _ _⟩
 case round=>
  obtain⟨k,hk1,rfl,hown,HB⟩:=hrel
  by_cases hlt:k<nc
  ·obtain⟨⟨c,pv⟩,hp⟩:∃x,cs[k]?=some x:=⟨_,J4 (by rw[HNC.out];exact hlt)⟩
   obtain⟨Q,qc,ev⟩:∃Q qc,pv=.slice Q c.q.length qc:=by
    obtain⟨Q,qc,h1,_⟩:=HO.out _ (J7 hp)
    exact⟨Q,qc,h1⟩
   subst ev
   obtain⟨n,hn⟩:∃n,c.q.length=n:=⟨_,rfl⟩
   rw[hn] at hp
   have hs:bV (cs.take (k+1))=bV (cs.take k)++[.int .i64 c.op,.string c.s,.string c.g.s,.int .i64 c.g.k,.int .i64 c.g.l,.int .i64 c.d.k,.int .u64 c.d.b,.string c.d.t,.slice Q n qc]:=Ec hp
   have HS:=J0 hs
   have hj0:(0:Int)<=(k:Int):=by omega
   have hj1:(k:Int)<(nc:Int):=by omega
   obtain⟨ad,e,c0,c1,c2,c3,c4,c5,c6,c7,c8⟩:=(hK.below HB).ch hp
   subst e
   dsimp only at c0 c1 c2 c3 c4 c5 c6 c7 c8
   have nb:=aA (w:=wr) (.cells #[.int .i64 c.op,.string c.s,.string c.g.s,.int .i64 c.g.k,.int .i64 c.g.l,.int .i64 c.d.k,.int .u64 c.d.b,.string c.d.t,.slice Q n qc] 73)
   have C:cx (wr.alloc (.cells #[.int .i64 c.op,.string c.s,.string c.g.s,.int .i64 c.g.k,.int .i64 c.g.l,.int .i64 c.d.k,.int .u64 c.d.b,.string c.d.t,.slice Q n qc] 73)) wr.heap.size c (.slice Q n qc) 73:=aD.new wr (pX c (.slice Q n qc)) 73
   have hown4:=hown.alloc (.cells #[.int .i64 c.op,.string c.s,.string c.g.s,.int .i64 c.g.k,.int .i64 c.g.l,.int .i64 c.d.k,.int .u64 c.d.b,.string c.d.t,.slice Q n qc] 73)
   clear hp hs hn
   go_upto_region 5 with fail
   generalize wr.alloc (.cells #[.int .i64 c.op,.string c.s,.string c.g.s,.int .i64 c.g.k,.int .i64 c.g.l,.int .i64 c.d.k,.int .u64 c.d.b,.string c.d.t,.slice Q n qc] 73)=W4 at *
   clear c0 c1 c2 c3 c4 c5 c6 c7 c8
   have HB4:=HB.trans (nb.mono HB.size)
   obtain⟨a0,a1,a2,a3,a4,a5,a6,a7,a8⟩:=C.c9
   obtain⟨V,vc,rfl,_,_,_⟩:=aL hown4
   have hz4:=HB4.size
   go_wp2_with (at_builtin;refine Y5 _ rfl _ _ 77 rfl w.heap.size 76 i0 (.agg #[.int .i64 0,.string ⟨#[]⟩,.string ⟨#[]⟩,.int .i64 0,.int .i64 0,.int .i64 0,.int .u64 0,.string ⟨#[]⟩,.slice none 0 0]) 9 112 Tryz.underlying77 hi hz0 hz1 hz2 rfl (by decide) _ _ _ rfl (hown4.alloc _) ⟨W4.heap.size,0,none⟩ 1 1 [.int .i64 c.op,.string c.s,.string c.g.s,.int .i64 c.g.k,.int .i64 c.g.l,.int .i64 c.d.k,.int .u64 c.d.b,.string c.d.t,.slice Q n qc] rfl rfl ?c1 ?c2 ?c3 ?c4 ?c5 ?_)
   case c1=>exact jD _ _ _ (by simp)
   case c2=>intro u hu;simp at hu;rcases hu with rfl|rfl|rfl|rfl|rfl|rfl|rfl|rfl|rfl <;> rfl
   case c3=>simp only[maxLen];omega
   case c4=>omega
   case c5=>simp <;> omega
   intro v' w3 hown' hgrow _
   have BG:Below w.heap.size W4 w3:=((Jy _ _).alloc (by omega) (.cells #[.int .i64 c.op,.string c.s,.string c.g.s,.int .i64 c.g.k,.int .i64 c.g.l,.int .i64 c.d.k,.int .u64 c.d.b,.string c.d.t,.slice Q n qc] 76)).grown hgrow (by simp <;> omega) (fun q hq=>aF hown4 q hq)
   have hown3:w3.ownsRow w.heap.size 76 9 v' (k+1) (bV (cs.take (k+1))):=ag hown' (by simp) (by rw[HS.out])
   obtain⟨B',c',rfl,_,_,_⟩:=aL hown3
   have HB3:=HB4.trans BG
   clear hown' hgrow hown hown4 a0 a1 a2 a3 a4 a5 a6 a7 a8 nb C
   go_wp2
   go_roundw
   case rel=>exact⟨k+1,by omega,by go_num,hown3,HB3⟩
   case measure=>simp[intOf];omega
  ·obtain rfl:k=nc:=by omega
   have hall:cs.take k=cs:=Vx (by rw[HNC.out];exact J9 _)
   rw[hall] at hown
   obtain⟨B',c',rfl,_,_,r⟩:=aL hown
   go_wp2
   go_ret
   exact⟨B',c',rfl,r,HB⟩
theorem Df (A:EL) (cA m:Nat) (os:List lA) (hm:os.length=m) (hl:m<=9223372036854775807) (w:EQ) (hA:Rd w A (lC os)) (hg:∀x∈os,x.G w) (hs:∀x∈os,x.S):
 Calls Tryz.prog 10 #[.slice A m cA] w fun e w'=>∃r:Bool,e=.returned (.bool r)/\Below w.heap.size w w':=by
 have HM:=J0 hm;have HG:=J0 hg;have HZ:=J0 hs
 clear hm hg hs
 go_enter Tryz.func10,Tryz.ntmps10
 go_wp2
 go_loopw [3,5,12] (fun n _ i wr=>∃(j:Nat) (z:Int),j<=m/\i=.int .i64 j/\n=.int .i64 z/\Below w.heap.size w wr) (fun _ _ i _=>m - (intOf i).toNat)
 case atStart=>exact⟨0,0,by omega,rfl,rfl,Jy _ _⟩
 case round=>
  obtain⟨j,z,hj,rfl,rfl,HB⟩:=hrel
  have hAr:=hA.below HB
  by_cases hlt:j<m
  ·obtain⟨x,hx⟩:∃x,os[j]?=some x:=⟨_,J4 (by rw[HM.out];exact hlt)⟩
   have hxm:=J7 hx
   obtain⟨x1,x2,x3,x4,x5,x6,x7,x8,x9,x10⟩:=HG.out x hxm
   obtain⟨s1,s2,s3,s4,s5,s6⟩:=HZ.out x hxm
   obtain⟨ad,rfl,c0,c1,c2,c3,c4⟩:=hAr.op hx
   obtain⟨nf,hnf⟩:∃y,x.fs.length=y:=⟨_,rfl⟩
   obtain⟨nc,hnc⟩:∃y,x.cs.length=y:=⟨_,rfl⟩
   obtain⟨nl,hnl⟩:∃y,x.live.length=y:=⟨_,rfl⟩
   rw[hnf] at c2 s3;rw[hnc] at c3 s5;rw[hnl] at c4 s6
   have P:=aD.new wr [.int .i64 x.k,.string x.s,.slice x.A nf x.a,.slice x.C nc x.c,.slice x.L nl x.l] 31
   obtain⟨p0,p1,p2,p3,p4⟩:=P.f5
   have HNF:=J0 hnf;have HNC:=J0 hnc
   have HB1:=HB.alloc HB.size (.cells #[.int .i64 x.k,.string x.s,.slice x.A nf x.a,.slice x.C nc x.c,.slice x.L nl x.l] 31)
   have hw1:IntKind.i64.wrap ((x.s.size:Int)+(nl:Int))=((x.s.size+nl:Nat):Int):=(Xj _ (by omega)).trans (by omega)
   have hw2:IntKind.i64.wrap (((x.s.size+nl:Nat):Int)+(nf:Int))=((x.s.size+nl+nf:Nat):Int):=(Xj _ (by omega)).trans (by omega)
   clear hAr hx hnf hnc hnl x1 x2 x3 x5 x7 x9 x10
   go_upto_region 7 with fail
   generalize wr.alloc (.cells #[.int .i64 x.k,.string x.s,.slice x.A nf x.a,.slice x.C nc x.c,.slice x.L nl x.l] 31)=W1 at *
   clear c0 c1 c2 c3 c4
   go_loopw [3,7,32] (fun n _ i wr=>∃(j:Nat) (z:Int),j<=nf/\i=.int .i64 j/\n=.int .i64 z/\Below w.heap.size w wr/\Below W1.heap.size W1 wr) (fun _ _ i _=>nf - (intOf i).toNat)
   case atStart=>exact⟨0,_,by omega,rfl,rfl,HB1,Jy _ _⟩
   case round=>
    obtain⟨i,z2,hi,rfl,rfl,HB2,HP2⟩:=hrel
    have hF:=x4.below HB2
    by_cases hlt2:i<nf
    ·obtain⟨f,hf⟩:∃f,x.fs[i]?=some f:=⟨_,J4 (by rw[HNF.out];exact hlt2)⟩
     obtain⟨ad2,hxA,d0,d1,d2⟩:=hF.fld hf
     have hfs:=s2 f (J7 hf)
     clear hF hf p0 p1 p2 p3 p4
     simp only[hxA]
     go_wp2
     go_roundw
     case rel=>exact⟨i+1,_,by omega,by go_num,rfl,HB2.alloc HB2.size _,HP2.alloc HP2.size _⟩
     case measure=>simp[intOf];omega
    ·obtain rfl:i=nf:=by omega
     have P2:=P.below HP2
     clear hF p0 p1 p2 p3 p4
     obtain⟨p0,p1,p2,p3,p4⟩:=P2.f5
     have hHB:=HB2
     clear HB1 HB2
     go_wp2
     go_loopw [3,9,45] (fun n _ i wx=>∃(j:Nat) (z:Int),j<=nc/\i=.int .i64 j/\n=.int .i64 z/\Below w.heap.size w wx) (fun _ _ i _=>nc - (intOf i).toNat)
     case atStart=>exact⟨0,_,by omega,rfl,rfl,hHB⟩
     case round=>
      obtain⟨l,z3,hl3,rfl,rfl,HB3⟩:=hrel
      have hC:=x6.below HB3
      clear p0 p1 p2 p3 p4 P2 HP2
      by_cases hlt3:l<nc
      ·obtain⟨p,hp⟩:∃p,x.cs[l]?=some p:=⟨_,J4 (by rw[HNC.out];exact hlt3)⟩
       obtain⟨Q,qc,eq,hq1,hq2,hq⟩:=(x8 p (J7 hp)).2.2
       obtain⟨ad3,hxC,c0,c1,c2,c3,c4,c5,c6,c7,c8⟩:=hC.ch hp
       rw[eq] at c8
       clear hC hp eq hq
       simp only[hxC]
       go_wp2
       go_roundw
       case rel=>exact⟨l+1,_,by omega,by go_num,rfl,HB3.alloc HB3.size _⟩
       case measure=>simp[intOf];omega
      ·obtain rfl:l=nc:=by omega
       clear hC
       go_wp2
       go_roundw
       case rel=>exact⟨j+1,_,by omega,by go_num,rfl,HB3⟩
       case measure=>simp[intOf];omega
  ·obtain rfl:j=m:=by omega
   clear hAr
   by_cases h60:j<=60
   ·have e1:decide ((j:Int)<=60)=true:=by simp;omega
    obtain⟨e2,he2⟩:∃r,decide (z<=3000)=r:=⟨_,rfl⟩
    cases e2
    ·go_wp2
     go_ret
     exact⟨_,rfl,HB⟩
    ·go_wp2
     go_ret
     exact⟨_,rfl,HB⟩
   ·have e1:decide ((j:Int)<=60)=false:=by simp;omega
    go_wp2
    go_ret
    exact⟨_,rfl,HB⟩
end
section
open Go.RowKit Go.Lib Go.Maps
def gK (cp mp:Nat) (E:List En) (W:EQ) (D:List Ty) (w':EQ):Prop:=∃E' es' clock',E'.map (·.y)=D/\aa 89 80 w' cp mp E' es' clock'/\bR cp mp E E' W w'
theorem dM {E:List En} {nm:EP} {d:En} (h:bH E nm=some d):ak (E.map (·.y)) nm=some d.y:=by rw[<-jR,h];rfl
theorem nT {E:List En} {nm:EP} (h:bH E nm=none):ak (E.map (·.y)) nm=none:=by rw[<-jR,h];rfl
theorem tJ {E:List En} {nm:EP} {d:En} (h:bH E nm=some d):∃i:Nat,E[i]?=some d:=Qv.1 (bG h).1
theorem rZ {E:List En} (hn:(E.map (·.y.s)).Nodup) {i:Nat} {d d':En} (hi:E[i]?=some d) (hs:d'.y.s=d.y.s):(E.set i d').map (·.y)=ik (E.map (·.y)) d'.y:=by
 have hil:=(J6.1 hi).1
 unfold ik
 rw[List.map_map,List.map_set]
 apply Xk
 intro j
 by_cases hj:j=i
 ·subst hj
  rw[List.getElem?_set_self (by simpa using hil),Kv,hi]
  simp[hs]
 ·rw[Vz (by omega),Kv,Kv]
  cases he:E[j]? with
  |none=>rfl
  |some e=>
   have hne:e.y.s≠d'.y.s:=by
    intro hc
    have a1:(E.map (·.y.s))[j]?=some d.y.s:=by rw[Kv,he];exact congrArg some (hc.trans hs)
    have a2:(E.map (·.y.s))[i]?=some d.y.s:=by rw[Kv,hi];rfl
    have b1:=(J6.1 a1).1
    exact hj ((List.getElem?_inj b1 hn).1 (a1.trans a2.symm))
   simp[hne]
theorem sG {W:EQ} {cp mp:Nat} {E:List En} {es:List MapEntry} {clock:Nat} (h:aa 89 80 W cp mp E es clock) {nm:EP} (hn:nm.size<=maxLen) (A:EL) (cA m:Nat) (fs:List Fd) (hm:fs.length=m) (hl:m<=9223372036854775807) (hcA:m<=cA) (hA:Rd W A (aC fs)) (q:Int) (hq:fj (E.map (·.y)) nm fs=q) (D':List Ty) (hD:pF (E.map (·.y)) nm fs=D'):
 Calls Tryz.prog 28 #[.pointer (some ⟨cp,0,none⟩),.string nm,.slice A m cA] W fun e w'=>e=.returned (.int .i64 q)/\gK cp mp E W D' w':=by
 have stay:∀r:Int,r≠0->fj (E.map (·.y)) nm fs=r->∀w',Below W.heap.size W w'->gK cp mp E W D' w':=fun r h1 h2 w' hb=>⟨E,es,clock,by rw[<-hD,pF,Xy (by omega)],h.below hb,.of hb⟩
 by_cases hbad:bI nm=false\/aK fs=false
 ·have e:fj (E.map (·.y)) nm fs=60:=by rw[fj,Xz hbad]
  refine(sF h hn A cA m fs hm hl hcA hA hbad).mono ?_
  rintro e1 w' ⟨rfl,hb⟩
  exact⟨by rw[<-hq,e],stay 60 (by decide) e w' hb⟩
 ·have hx:bI nm=true:=by cases hx:bI nm with|true=>rfl|false=>exact absurd (.inl hx) hbad
  have hy:aK fs=true:=by cases hx:aK fs with|true=>rfl|false=>exact absurd (.inr hx) hbad
  by_cases h2:bH E nm≠none\/16<=E.length
  ·have e:fj (E.map (·.y)) nm fs=91:=by
    rw[fj,Xy hbad,Xz]
    rcases h2 with h3|h3
    ·left
     cases hf:bH E nm with
     |none=>exact absurd hf h3
     |some d=>rw[dM hf];simp
    ·right;simpa using h3
   refine(qR h hn A cA m fs hm hl hcA hA hx hy h2).mono ?_
   rintro e1 w' ⟨rfl,hb⟩
   exact⟨by rw[<-hq,e],stay 91 (by decide) e w' hb⟩
  ·have hf:bH E nm=none:=Classical.byContradiction fun hc=>h2 (.inl hc)
   have hlt:E.length<16:=by have:¬16<=E.length:=fun hc=>h2 (.inr hc);omega
   have e:fj (E.map (·.y)) nm fs=0:=by
    rw[fj,Xy hbad,Xy]
    rintro (h3|h3)
    ·exact h3 (nT hf)
    ·simp at h3;omega
   refine(xM h hn A cA m fs hm hl hcA hA hx hy hf hlt).mono ?_
   rintro e1 w' ⟨rfl,d,es',hd,hc,hfr⟩
   refine⟨by rw[<-hq,e],E++[d],es',clock+1,?_,hc,hfr⟩
   rw[<-hD,pF,Xz e,List.map_append,List.map_cons,List.map_nil,hd]
theorem rz {W:EQ} {cp mp:Nat} {E:List En} {es:List MapEntry} {clock:Nat} (h:aa 89 80 W cp mp E es clock) {nm:EP} (hn:nm.size<=maxLen) (K:EL) (cK nc:Nat) (cs:List (Ch×ER)) (hnc:cs.length=nc) (hk:nc<=9223372036854775807) (hw:∀p∈cs,wA p) (hK:Rd W K (bV cs)) (ho:∀p∈cs,ou W p) (hok:Wq (E.map (·.y))) (q:Int) (hq:mA (E.map (·.y)) nm (cs.map (·.1))=q) (v:Nat) (hv:xj (E.map (·.y)) nm (cs.map (·.1))=v) (D':List Ty) (hD:uT (E.map (·.y)) nm (cs.map (·.1))=D'):
 Calls Tryz.prog 29 #[.pointer (some ⟨cp,0,none⟩),.string nm,.slice K nc cK] W fun e w'=>e=.returned (.tuple #[.int .i64 (v:Nat),.int .i64 q])/\gK cp mp E W D' w':=by
 have stay:∀r:Int,r≠0->mA (E.map (·.y)) nm (cs.map (·.1))=r->v=0/\∀w',Below W.heap.size W w'->gK cp mp E W D' w':=fun r h1 h2=>⟨by rw[<-hv,xj,Xy (by omega)],fun w' hb=>⟨E,es,clock,by rw[<-hD,uT,Xy (by omega)],h.below hb,.of hb⟩⟩
 cases hf:bH E nm with
 |none=>
  have e:mA (E.map (·.y)) nm (cs.map (·.1))=90:=by rw[mA,nT hf]
  refine(sA h hn hf K cK nc).mono ?_
  rintro e1 w' ⟨rfl,hb⟩
  obtain⟨rfl,s⟩:=stay 90 (by decide) e
  exact⟨by rw[<-hq,e];rfl,s w' hb⟩
 |some d=>
  have hdE:=(bG hf).1
  have hdo:d.y.Ok:=hok.ok d.y (Vy.2 ⟨d,hdE,rfl⟩)
  obtain⟨i,hi⟩:=tJ hf
  by_cases h64:64<=d.y.top
  ·have e:mA (E.map (·.y)) nm (cs.map (·.1))=91:=by rw[mA,dM hf];simp only;rw[Xz h64]
   refine(rx h hn hf hdo h64 K cK nc).mono ?_
   rintro e1 w' ⟨rfl,hb⟩
   obtain⟨rfl,s⟩:=stay 91 (by decide) e
   exact⟨by rw[<-hq,e];rfl,s w' hb⟩
  ·obtain⟨⟨T,c⟩,hT⟩:∃x,gb d.y.last (cs.map (·.1))=x:=⟨_,rfl⟩
   have e:mA (E.map (·.y)) nm (cs.map (·.1))=c:=by rw[mA,dM hf];simp only;rw[Xy h64,hT]
   refine(xE h hn K cK nc cs hnc hk hw hK ho i hi hf hdo (by omega) T c hT).mono ?_
   rintro e1 w' (⟨hc,rfl,hb⟩|⟨rfl,rfl,d',hd',hc,hfr⟩)
   ·obtain⟨rfl,s⟩:=stay c hc e
    exact⟨by rw[<-hq,e];rfl,s w' hb⟩
   ·refine⟨?_,E.set i d',es,clock,?_,hc,hfr⟩
    ·rw[<-hq,e,<-hv,xj,Xz e,dM hf]
    ·rw[rZ h.names hi (by rw[hd'];rfl),hd',<-hD,uT,Xz e,dM hf]
theorem sP {W:EQ} {cp mp:Nat} {E:List En} {es:List MapEntry} {clock:Nat} (h:aa 89 80 W cp mp E es clock) {nm:EP} (hn:nm.size<=maxLen) (L:EL) (cL nl:Nat) (q:List Int) (hnl:q.length=nl) (hl:nl<=9223372036854775807) (hL:Rd W L (aV q)) (hok:Wq (E.map (·.y))) (qe:Int) (hqe:mN (E.map (·.y)) nm q=qe) (v:Nat) (hv:wn (E.map (·.y)) nm q=v) (D':List Ty) (hD:rp (E.map (·.y)) nm q=D'):
 Calls Tryz.prog 20 #[.pointer (some ⟨cp,0,none⟩),.string nm,.slice L nl cL] W fun e w'=>e=.returned (.tuple #[.int .i64 (v:Nat),.int .i64 qe])/\gK cp mp E W D' w':=by
 have stay:∀r:Int,r≠0->mN (E.map (·.y)) nm q=r->v=0/\∀w',Below W.heap.size W w'->gK cp mp E W D' w':=fun r h1 h2=>⟨by rw[<-hv,wn,Xy (by omega)],fun w' hb=>⟨E,es,clock,by rw[<-hD,rp,Xy (by omega)],h.below hb,.of hb⟩⟩
 cases hf:bH E nm with
 |none=>
  have e:mN (E.map (·.y)) nm q=90:=by rw[mN,nT hf]
  refine(sQ h hn hf L cL nl).mono ?_
  rintro e1 w' ⟨rfl,hb⟩
  obtain⟨rfl,s⟩:=stay 90 (by decide) e
  exact⟨by rw[<-hqe,e];rfl,s w' hb⟩
 |some d=>
  have hdE:=(bG hf).1
  have hdo:d.y.Ok:=hok.ok d.y (Vy.2 ⟨d,hdE,rfl⟩)
  obtain⟨i,hi⟩:=tJ hf
  obtain⟨u,hu⟩:∃u,rc d.y q=u:=⟨_,rfl⟩
  refine(xY h hn L cL nl q hnl hl hL i hi hf hdo u hu).mono ?_
  rintro e1 w' (⟨rfl,rfl,hb⟩|⟨rfl,rfl,d',es',hd',hc,hfr⟩)
  ·have e:mN (E.map (·.y)) nm q=93:=by rw[mN,dM hf];simp only;rw[Xz hu]
   obtain⟨rfl,s⟩:=stay 93 (by decide) e
   exact⟨by rw[<-hqe,e];rfl,s w' hb⟩
  ·have e:mN (E.map (·.y)) nm q=0:=by rw[mN,dM hf];simp only;rw[Xy (by rw[hu];decide)]
   refine⟨?_,E.set i d',es',clock,?_,hc,hfr⟩
   ·rw[<-hqe,e,<-hv,wn,Xz e,dM hf]
   ·rw[rZ h.names hi (by rw[hd'];rfl),hd',<-hD,rp,Xz e,dM hf]
theorem zE {cp mp:Nat} {E:List En} {D:List Ty} {W1 w2 w3:EQ} (hc:gK cp mp E w2 D w3) {pb:Nat} (hu:pb<W1.heap.size/\cU E mp pb) (hb:Below W1.heap.size W1 w2) {a b:Nat} {u v:Option ER} (ht:w2.cell? ⟨pb,a,none⟩=u/\w2.cell? ⟨pb,b,none⟩=v):w3.cell? ⟨pb,a,none⟩=u/\w3.cell? ⟨pb,b,none⟩=v:=by
 obtain⟨E',es',c',_,_,hf⟩:=hc
 have hk:=hf.block pb (Nat.lt_of_lt_of_le hu.1 hb.size) hu.2
 exact⟨(World.cell?_of_block (a:=⟨pb,a,none⟩) hk).trans ht.1,(World.cell?_of_block (a:=⟨pb,b,none⟩) hk).trans ht.2⟩
theorem xi {cp mp:Nat} {E:List En} {D:List Ty} {W1 w2 w3:EQ} (hb:Below W1.heap.size W1 w2) (hc:gK cp mp E w2 D w3):gK cp mp E W1 D w3:=by
 obtain⟨E',es',c',h1,h2,hf⟩:=hc
 exact⟨E',es',c',h1,h2,bR.after hb hf⟩
theorem Dd {W:EQ} {cp mp:Nat} {E:List En} {es:List MapEntry} {clock:Nat} (h:aa 89 80 W cp mp E es clock) (hok:Wq (E.map (·.y))) (x:lA) (hG:x.G W) (hS:x.S) (nf nc nl:Nat) (hnf:x.fs.length=nf) (hnc:x.cs.length=nc) (hnl:x.live.length=nl)
 (q:Int) (hq:zN (E.map (·.y)) x.z=q) (v:Nat) (hv:zO (E.map (·.y)) x.z=v) (D':List Ty) (hD:wQ (E.map (·.y)) x.z=D'):
 Calls Tryz.prog 13 #[.pointer (some ⟨cp,0,none⟩),.agg #[.int .i64 x.k,.string x.s,.slice x.A nf x.a,.slice x.C nc x.c,.slice x.L nl x.l]] W fun e w'=>e=.returned (.tuple #[.int .i64 (v:Nat),.int .i64 q])/\gK cp mp E W D' w':=by
 obtain⟨x1,x2,x3,x4,x5,x6,x7,x8,x9,x10⟩:=hG
 obtain⟨s1,s2,s3,s4,s5,s6⟩:=hS
 have nb:=aA (w:=W) (.cells #[.int .i64 x.k,.string x.s,.slice x.A nf x.a,.slice x.C nc x.c,.slice x.L nl x.l] 31)
 have P:=aD.new W [.int .i64 x.k,.string x.s,.slice x.A nf x.a,.slice x.C nc x.c,.slice x.L nl x.l] 31
 obtain⟨p0,p1,p2,p3,p4⟩:=P.f5
 have h1:=h.below nb
 have hfr:bR cp mp E E W (W.alloc (.cells #[.int .i64 x.k,.string x.s,.slice x.A nf x.a,.slice x.C nc x.c,.slice x.L nl x.l] 31)):=.of nb
 have hpb:W.heap.size<(W.alloc (.cells #[.int .i64 x.k,.string x.s,.slice x.A nf x.a,.slice x.C nc x.c,.slice x.L nl x.l] 31)).heap.size:=by simp
 have hun:cU E mp W.heap.size:=⟨by have:=h.mpLt;omega,fun d hd hh=>by have:=En.lt (h.ents d hd) hh;omega⟩
 have y4:=x4.below nb
 have y6:=x6.below nb
 have y8:∀p∈x.cs,ou (W.alloc (.cells #[.int .i64 x.k,.string x.s,.slice x.A nf x.a,.slice x.C nc x.c,.slice x.L nl x.l] 31)) p:=fun p hp=>(x8 p hp).2.2.below nb
 have y9:=x9.below nb
 have hw:∀p∈x.cs,wA p:=fun p hp=>⟨(x8 p hp).1,(x8 p hp).2.1,(s4 p hp).2.2.2,(s4 p hp).2.1⟩
 rw[hnf] at x5 s3;rw[hnc] at x7 s5;rw[hnl] at x10 s6
 have fin:∀w':EQ,gK cp mp E (W.alloc (.cells #[.int .i64 x.k,.string x.s,.slice x.A nf x.a,.slice x.C nc x.c,.slice x.L nl x.l] 31)) D' w'->gK cp mp E W D' w':=fun w' ⟨E',es',c',h1,h2,h3⟩=>⟨E',es',c',h1,h2,hfr.trans h3⟩
 have FIN:=J0 fin
 clear nb P hfr x4 x6 x8 x9
 obtain⟨kk,hkk⟩:∃kk,x.k=kk:=⟨_,rfl⟩
 have hz:x.z.k=kk:=hkk
 simp only[hkk] at h1 y4 y6 y8 y9 p0 p1 p2 p3 p4 FIN hpb |-
 unfold zN at hq
 unfold zO at hv
 unfold wQ at hD
 rw[hz] at hq hv hD
 have hmap:x.z.cs=x.cs.map (·.1):=rfl
 have HOK:=J0 hok;have HNF:=J0 hnf;have HNC:=J0 hnc;have HNL:=J0 hnl
 clear hkk hz hok hnf hnc hnl
 by_cases k0:kk=0
 ·subst k0
  rw[Xz rfl] at hq hv hD
  subst hv
  have HQ:=J0 hq;have HD:=J0 hD
  clear hq hD h p3 p4
  go_enter Tryz.func13,Tryz.ntmps13
  go_upto_region 1 with fail
  generalize W.alloc (.cells #[.int .i64 0,.string x.s,.slice x.A nf x.a,.slice x.C nc x.c,.slice x.L nl x.l] 31)=W1 at *
  generalize W.heap.size=pb at *
  go_wp2_with (go_at_call 28;refine(sG h1 x3 x.A x.a nf x.fs HNF.out (by omega) x5 y4 q HQ.out D' HD.out).mono ?_;rintro e w2 ⟨rfl,hc⟩)
  refine Xx (v:=.tuple #[.int .i64 0,.int .i64 q]) (by simp[results,Tryz.results13,go_sem, *];done) rfl ⟨rfl,FIN.out _ hc⟩
 rw[Xy k0] at hq hv hD
 have e0:(kk == 0)=false:=by simpa using k0
 by_cases k1:kk=1
 ·subst k1
  rw[Xz rfl] at hq hv hD
  have HQ:=J0 hq;have HD:=J0 hD;have HV:=J0 hv
  clear hq hD hv h p2 p4 k0
  go_enter Tryz.func13,Tryz.ntmps13
  go_upto_region 1 with fail
  generalize W.alloc (.cells #[.int .i64 1,.string x.s,.slice x.A nf x.a,.slice x.C nc x.c,.slice x.L nl x.l] 31)=W1 at *
  generalize W.heap.size=pb at *
  go_upto_region 5 with fail
  have z8:∀p∈x.cs,ou W1.drew p:=fun p hp=>(y8 p hp).below (Jy _ _).drew
  have z6:Rd W1.drew x.C (bV x.cs):=y6.below (Jy _ _).drew
  have hd1:=h1.drew
  have HU2:pb<W1.heap.size/\cU E mp pb:=⟨hpb,hun⟩
  go_region_held3 (fun W'=>W'.cell? ⟨pb,1,none⟩=some (.string x.s)/\W'.cell? ⟨pb,3,none⟩=some (.slice x.C nc x.c)) (first|assumption|exact⟨p1,p3⟩)
   (first
     |(go_at_call 30;refine(Dk x.C x.c nc x.cs HNC.out (by omega) _ z6 z8).mono ?_;rintro e w2 ⟨B,d,rfl,rB,hb⟩;have hB2:=aB (Jy _ _).drew hb;have t1:=aE (B:=0) hB2 p1;have t3:=aE (B:=0) hB2 p3;have tp:w2.cell? ⟨pb,1,none⟩=some (.string x.s)/\w2.cell? ⟨pb,3,none⟩=some (.slice x.C nc x.c):=⟨t1,t3⟩;clear t1 t3)
     |(go_at_call 29;refine(rz (hd1.below hb) x3 B d nc x.cs HNC.out (by omega) hw rB (fun p hp=>(z8 p hp).below hb) HOK.out q HQ.out v HV.out D' HD.out).mono ?_;rintro e w3 ⟨rfl,hc⟩;have tq:w3.cell? ⟨pb,1,none⟩=some (.string x.s)/\w3.cell? ⟨pb,3,none⟩=some (.slice x.C nc x.c):=zE hc HU2 hB2 tp))
  all_goals go_wp2_with fail
  all_goals refine Xx (v:=.tuple #[.int .i64 (v:Nat),.int .i64 q]) (by simp[results,Tryz.results13,go_sem, *];done) rfl ⟨rfl,FIN.out _ (xi hB2 hc)⟩
 rw[Xy k1] at hq hv hD
 have e1:(kk == 1)=false:=by simpa using k1
 by_cases k2:kk=2
 ·subst k2
  rw[Xz rfl] at hq hv hD
  have HQ:=J0 hq;have HD:=J0 hD;have HV:=J0 hv
  clear hq hD hv h p2 p3 k0 k1
  go_enter Tryz.func13,Tryz.ntmps13
  go_upto_region 1 with fail
  generalize W.alloc (.cells #[.int .i64 2,.string x.s,.slice x.A nf x.a,.slice x.C nc x.c,.slice x.L nl x.l] 31)=W1 at *
  generalize W.heap.size=pb at *
  go_wp2_with (go_at_call 20;refine(sP h1 x3 x.L x.l nl x.live HNL.out (by omega) y9 HOK.out q HQ.out v HV.out D' HD.out).mono ?_;rintro e w2 ⟨rfl,hc⟩)
  refine Xx (v:=.tuple #[.int .i64 (v:Nat),.int .i64 q]) (by simp[results,Tryz.results13,go_sem, *];done) rfl ⟨rfl,FIN.out _ hc⟩
 ·rw[Xy k2] at hq hv hD
  have e2:(kk == 2)=false:=by simpa using k2
  subst hq hv
  have hc:gK cp mp E W D' (W.alloc (.cells #[.int .i64 kk,.string x.s,.slice x.A nf x.a,.slice x.C nc x.c,.slice x.L nl x.l] 31)):=FIN.out _ ⟨E,es,clock,hD,h1,bR.refl _ _ _ _⟩
  clear h p1 p2 p3 p4
  go_enter Tryz.func13,Tryz.ntmps13
  go_upto_region 1 with fail
  generalize W.alloc (.cells #[.int .i64 kk,.string x.s,.slice x.A nf x.a,.slice x.C nc x.c,.slice x.L nl x.l] 31)=W1 at *
  generalize W.heap.size=pb at *
  go_wp2
  refine Xx (v:=.tuple #[.int .i64 0,.int .i64 0]) (by simp[results,Tryz.results13,go_sem, *];done) rfl ⟨rfl,hc⟩
theorem lE {W:EQ} {cp mp:Nat} {E:List En} {es:List MapEntry} {clock:Nat} (h:aa 89 80 W cp mp E es clock) {nm:EP} (hn:nm.size<=maxLen) {d:En} (hf:bH E nm=some d) (hok:d.y.Ok) (g c n:Nat) (ev:d.v=.slice (some ⟨g,0,none⟩) n c) (k:Nat) (hk:k<n):
 Calls Tryz.prog 34 #[.pointer (some ⟨cp,0,none⟩),.string nm,.int .i64 ((d.y.old+k:Nat):Int)] W fun e w'=>e=.returned (.tuple #[.slice (some ⟨g,k * 3,none⟩) (n - k) (n - k),.int .i64 0])/\Below W.heap.size W w':=by
 have hlk:=cD h hn
 rw[hf] at hlk
 obtain⟨b0,_⟩:=h.box.f1
 have hd:=h.ents d (bG hf).1
 obtain⟨g2,c2,n2,ev2,hnc,hnl,hsum,htop,hpos,_⟩:=En.open hd hok
 rw[ev] at ev2
 obtain⟨rfl,rfl,rfl⟩:g=g2/\n=n2/\c=c2:=by
  injection ev2 with h1 h2 h3
  injection h1 with h1
  injection h1 with h1
  exact⟨h1,h2,h3⟩
 have hbx:=hd.box
 rw[ev] at hbx
 obtain⟨old,ho⟩:∃x,d.y.old=x:=⟨_,rfl⟩
 obtain⟨top,ht⟩:∃x,d.y.top=x:=⟨_,rfl⟩
 rw[ho] at hbx hsum |-
 rw[ht] at hsum htop
 obtain⟨p,hp⟩:∃p,d.p=p:=⟨_,rfl⟩
 simp only[hp] at hlk
 rw[hp] at hbx
 have hc0:∀W',Below W.heap.size W W'->W'.cell? ⟨p,0,none⟩=some (.int .i64 (old:Nat))/\W'.cell? ⟨p,1,none⟩=some (.slice (some ⟨g,0,none⟩) n c):=fun W' hb=>⟨(hbx.below hb).cell rfl,(hbx.below hb).cell rfl⟩
 obtain⟨c0,c1⟩:=hc0 W (Jy _ _)
 have HS:=J0 hsum;have HC0:=J0 hc0
 obtain⟨v,hv⟩:∃v:Int,((old+k:Nat):Int)=v:=⟨_,rfl⟩
 rw[hv]
 have e1:decide (v<(old:Int))=false:=by simp;omega
 have e2:decide ((top:Int)<v)=false:=by simp;omega
 have hw:IntKind.i64.wrap (v - (old:Int))=(k:Int):=(Xj _ (by omega)).trans (by omega)
 have k0:(0:Int)<=(k:Int):=by omega
 have k1:(k:Int)<=(n:Int):=by omega
 have k2:(n:Int)<=(c:Int):=by omega
 have k3:k<=n:=by omega
 clear hf hd hnl ho ht hok hsum hp h ev hv ev2 hc0
 have HB:=Jy W.heap.size W
 go_enter Tryz.func34,Tryz.ntmps34
 go_upto_region 4 with (go_at_call 33;refine(di p old n _ c top HS.out (by omega) _ hbx).mono ?_;rintro e w1 ⟨rfl,hb⟩;replace HB:=HB.trans (hb.mono HB.size);clear hb c0 c1)
 obtain⟨c0,c1⟩:=HC0.out _ HB
 go_upto_region 5 with fail
 clear c0 c1
 refine RW.start (fun w'=>Below W.heap.size W w') (by kernel_rfl) (by kernel_rfl) HB.drew ?_
 repeat (first
  |(refine' RW.val (by rfl) ?_ ?_;rotate_left;(focus (intro w' hS;have HB5:=hS;obtain⟨c0,c1⟩:=HC0.out _ HB5;clear hS;go_simp;rfl));simp only[Act.put,J1,J3,J2])
  |(refine RW.off (by rfl) ?_;simp only[Act.put,J1,J3,J2]))
 refine RW.done (fun w' hS=>?_)
 have HB5:=hS;obtain⟨c0,c1⟩:=HC0.out _ HB5;clear hS
 go_wp2
 refine Xx (v:=.tuple #[.slice (some ⟨g,k * 3,none⟩) (n - k) (n - k),.int .i64 0]) (by simp[results,Tryz.results34,go_sem, *];done) rfl ⟨rfl,HB5⟩
theorem xR {W:EQ} {cp mp:Nat} {E:List En} {es:List MapEntry} {clock:Nat} (h:aa 89 80 W cp mp E es clock) {nm:EP} (hn:nm.size<=maxLen) (v:Int) (hbad:bH E nm=none\/∃d,bH E nm=some d/\d.y.Ok/\(v<(d.y.old:Int)\/(d.y.top:Int)<v)):
 Calls Tryz.prog 16 #[.pointer (some ⟨cp,0,none⟩),.string nm,.int .i64 v] W fun e w'=>e=.returned (.tuple #[.slice none 0 0,.int .i64 90])/\Below W.heap.size W w':=by
 have hfr:Calls Tryz.prog 34 #[.pointer (some ⟨cp,0,none⟩),.string nm,.int .i64 v] W fun e w'=>e=.returned (.tuple #[.slice none 0 0,.int .i64 90])/\Below W.heap.size W w':=by
  rcases hbad with h1|⟨d,h1,h2,h3⟩
  ·exact pj h hn h1 v
  ·exact tO h hn h1 h2 v h3
 have HFR:=J0 hfr
 clear hbad hfr h
 go_enter Tryz.func16,Tryz.ntmps16
 go_wp2_with (go_at_call 34;refine HFR.out.mono ?_;rintro e w1 ⟨rfl,HB⟩)
 refine Xx (v:=.tuple #[.slice none 0 0,.int .i64 90]) (by simp[results,Tryz.results16,go_sem, *];done) rfl ⟨rfl,HB⟩
theorem ud {W:EQ} {cp mp:Nat} {E:List En} {es:List MapEntry} {clock:Nat} (h:aa 89 80 W cp mp E es clock) {nm:EP} (hn:nm.size<=maxLen) {d:En} (hf:bH E nm=some d) (hok:d.y.Ok) (k:Nat) {x:bB} (hx:d.xs[k]?=some x) (m:Nat) (hm:x.t.n.length=m) (hm4:m<=4398046511104) (v:Int) (hv:v=((d.y.old+k:Nat):Int)):
 Calls Tryz.prog 16 #[.pointer (some ⟨cp,0,none⟩),.string nm,.int .i64 v] W fun e w'=>∃B b,e=.returned (.tuple #[.slice B m b,.int .i64 0])/\m<=b/\au (fun g=>W.heap.size<=g) w' B (aC x.t.n)/\Below W.heap.size W w':=by
 subst hv
 have hdE:=(bG hf).1
 have hd:=h.ents d hdE
 obtain⟨g,c,n,ev,hnc,hnl,_,_,hpos,hrd⟩:=En.open hd hok
 have hkn:k<n:=by rw[<-hnl];exact(J6.1 hx).1
 have hfr:=lE h hn hf hok g c n ev k hkn
 obtain⟨_,t1,_⟩:=Rd.tab hrd hx
 have hxI:=h.tabs d hdE x (J7 hx)
 have hcb:=hxI.cb
 rw[hm] at t1 hcb
 have hxn:=hxI.n.rd
 have hidx:(0:Int)<((n - k:Nat):Int):=by omega
 have hidx2:0<n - k:=by omega
 have HFR:=J0 hfr;have HM:=J0 hm
 obtain⟨old,ho⟩:∃o:Int,((d.y.old+k:Nat):Int)=o:=⟨_,rfl⟩
 rw[ho] at HFR |-
 obtain⟨j,hj⟩:∃j,n - k=j:=⟨_,rfl⟩
 rw[hj] at HFR hidx hidx2
 clear hfr hf hok hx hd hdE hm ev hnc hnl hrd hxI h ho hj hkn hpos
 go_enter Tryz.func16,Tryz.ntmps16
 go_upto_region 4 with (go_at_call 34;refine HFR.out.mono ?_;rintro e w1 ⟨rfl,HB⟩)
 have t1':=aE (B:=0) HB t1
 have hxn':=hxn.below HB
 go_wp2_with (go_at_call 35;refine(fx x.B x.b m x.t.n HM.out _ hxn' hm4 hcb).mono ?_;rintro e w2 ⟨B,b,rfl,hb4,own,hb2⟩)
 refine Xx (v:=.tuple #[.slice B m b,.int .i64 0]) (by simp[results,Tryz.results16,go_sem, *];done) rfl ⟨B,b,rfl,hb4,?_,HB.trans (hb2.mono HB.size)⟩
 exact dj own (fun g hg=>Q7 HB.size (aF own g hg))
end
section
open Go.RowKit
theorem nS {vk bits:Int} {tx:EP} {k l:Int} (hr:aM vk bits tx k l=true):((cR bits tx k l).length:Int)=aT k l:=by
 obtain⟨hm,rfl,ht,hf⟩:=bg hr
 unfold cR
 split
 ·rename_i h
  subst h
  rw[iQ hm,aZ]
  simpa using ht
 ·rename_i h
  rw[aX]
  have:=cH hm h
  omega
theorem wj (m w:Nat):fJ (dG (m:Int) w)=m % 2 ^ (8 * w):=by
 induction w with
 |zero=>simp[dG,fJ,Nat.mod_one]
 |succ w ih=>
  rw[kf,gX,aX,ih,jP,Nat.mul_add,Nat.pow_add,Nat.mod_mul]
  have e:fJ [UInt8.ofNat ((m / 2 ^ (8 * w) % 256:Nat):Int).toNat]=m / 2 ^ (8 * w) % 256:=by
   have hx:m / 2 ^ (8 * w) % 256<256:=Nat.mod_lt _ (by decide)
   generalize m / 2 ^ (8 * w) % 256=x at hx |-
   rw[Int.toNat_natCast]
   simp[fJ];omega
  rw[e]
theorem BT (n:Int) (w:Nat) (h0:0<=n):eV (dG n w)=n % ((2 ^ (8 * w):Nat):Int):=by
 obtain⟨m,rfl⟩:=Int.eq_ofNat_of_zero_le h0
 rw[eV,wj];rfl
theorem AK (n:Int) (w:Nat) (hw:af w=true) (h0:0<=n) (h1:n<18446744073709551616):cP (n % ((2 ^ (8 * w):Nat):Int)) w=cP n w:=by
 have hc:=cC hw
 rcases(by omega:w=1\/w=2\/w=4\/w=8) with rfl|rfl|rfl|rfl
 ·rw[show ((1:Nat):Int)=1 from rfl,show((2 ^ (8 * 1):Nat):Int)=256 by decide,dw n h0 h1,dw _ (by omega) (by omega)]
  simp
 ·rw[show ((2:Nat):Int)=2 from rfl,show((2 ^ (8 * 2):Nat):Int)=65536 by decide,ci n h0 h1,ci _ (by omega) (by omega)]
  simp
 ·rw[show ((4:Nat):Int)=4 from rfl,show((2 ^ (8 * 4):Nat):Int)=4294967296 by decide,cj n h0 h1,cj _ (by omega) (by omega)]
  simp
 ·rw[show ((8:Nat):Int)=8 from rfl,show((2 ^ (8 * 8):Nat):Int)=18446744073709551616 by decide,Int.emod_eq_of_lt h0 h1]
theorem qj {vk bits:Int} {tx:EP} {k l:Int} (h0:0<=bits) (h1:bits<18446744073709551616) (hr:aM vk bits tx k l=true):
 vk=k/\gA (cR bits tx k l) k l=bits/\eZ (cR bits tx k l) k=tx/\fZ (cR bits tx k l) k l=true:=by
 have hlen:=nS hr
 obtain⟨hm,rfl,ht,hf⟩:=bg hr
 have key:gA (cR bits tx vk l) vk l=bits/\eZ (cR bits tx vk l) vk=tx:=by
  by_cases hk:vk=12
  ·subst hk
   have hb:bits=0:=by simpa[fQ] using hf
   subst hb
   refine⟨by simp[gA,jL,eK],?_⟩
   rw[eZ,cR,Xz rfl,Xz rfl,cl]
  ·have hlc:=cH hm hk
   have htx:tx=⟨#[]⟩:=by
    rw[Xy hk] at ht
    have:tx.size=0:=by omega
    obtain⟨a⟩:=tx
    have:a=#[]:=Array.eq_empty_of_size_eq_zero this
    rw[this]
   refine⟨?_,by rw[eZ,Xy hk,htx]⟩
   have hwb:af (aT vk l)=true:=by simp[af];omega
   obtain⟨W,hW⟩:∃W:Nat,aT vk l=W:=⟨(aT vk l).toNat,by omega⟩
   rw[hW] at hlc hwb hlen
   have he:cR bits tx vk l=dG bits W:=by rw[cR,Xy hk,hW];rfl
   rw[he] at hlen |-
   have hraw:jL (dG bits W) vk l=bits % ((2 ^ (8 * W):Nat):Int):=by
    rw[jL,Xy hk,aX,hW,Xz ⟨rfl,hwb⟩,BT _ _ h0]
   rw[gA,hraw,aX]
   rw[fQ,Xy hk] at hf
   split
   ·rename_i h5
    have h5':=br.1 h5
    rw[Xy (by omega),hW,h5] at hf
    rw[AK _ _ hwb h0 h1]
    simpa[bi,hwb,show ¬vk=10 by omega,show ¬vk=11 by omega] using hf
   ·rename_i h5
    have h5:eK 5 vk 8=false:=by simpa using h5
    have hlt:bits<((2 ^ (8 * W):Nat):Int):=by
     split at hf
     ·have:bits<=1:=by simpa using hf
      rcases(by omega:W=1\/W=2\/W=4\/W=8) with rfl|rfl|rfl|rfl <;> simp <;> omega
     ·rw[hW,h5] at hf
      have hsz:vk=10\/vk=11->W=8:=fun h=>by
       have hW':=hW
       rw[aT,Xz hm,Xy hk] at hW'
       rcases h with rfl|rfl
       ·have:gH 10=8:=by decide
        omega
       ·have:gH 11=8:=by decide
        omega
      simp only[bi,hwb,Bool.true_and,Bool.false_eq_true,if_false,Bool.or_eq_true,Y8] at hf
      rcases(by omega:W=1\/W=2\/W=4\/W=8) with rfl|rfl|rfl|rfl <;> simp[fA] at hf |- <;> omega
    exact Int.emod_eq_of_lt h0 hlt
 refine⟨rfl,key.1,key.2,?_⟩
 rw[fZ,key.1,key.2,hr,hlen]
 simp
theorem zk (w:Nat):dG 0 w=List.replicate w 0:=by
 induction w with
 |zero=>rfl
 |succ w ih=>rw[kf,ih,List.replicate_succ',show(dx 0 w).toNat=0 by simp[dx]];rfl
theorem ot {k l:Int} (h:bW k l=true):∃n:Nat,aT k l=n/\0<n/\n<=64/\aM k 0 (ga k l) k l=true/\cR 0 (ga k l) k l=List.replicate n 0:=by
 by_cases hk:k=12
 ·subst hk
  have hb:=br.1 (eI▸h)
  refine⟨l.toNat,by rw[iQ h];omega,by omega,by omega,?_,?_⟩
  ·have hs:((ga 12 l).size:Int)=l:=by rw[ga,Xz rfl,aj,List.length_replicate];omega
   simp only[aM,h,hs,if_true,decide_true,Bool.and_true,Bool.true_and]
   simp[fQ]
  ·rw[cR,Xz rfl,ga,Xz rfl,fi]
 ·have hlc:=cH h hk
  have hl0:=(fm h hk).1
  subst hl0
  have hw:=ni h hk
  refine⟨(aT k 0).toNat,by omega,by omega,by omega,?_,?_⟩
  ·have hz:ga k 0=⟨#[]⟩:=by rw[ga,Xy hk]
   have hf:fQ 0 k 0=true:=by
    rw[fQ,Xy hk]
    split
    ·rfl
    ·rw[sY (by decide) (by decide) hw];rfl
   rw[hz]
   simp only[aM,h,hf,Xy hk,decide_true,Bool.and_true,Bool.true_and]
   rfl
  ·rw[cR,Xy hk,zk]
theorem iz {fs:List Fd} (hr:aK fs=true) {k:Nat} {f:Fd} (hf:fs[k]?=some f) {n:Nat} (hn:n=bP fs):∃at_,(fT fs)[k]?=some at_/\gC fs n f.s=.inr (at_,f):=by
 obtain⟨_,_,hz⟩:=lQ hr hf
 have hk:=(J6.1 hf).1
 have hk2:k<(fT fs).length:=by rw[mF hr];exact hk
 refine⟨(fT fs)[k],J4 hk2,?_⟩
 rw[gC,hr,Yx hn]
 simp only[Bool.and_true,if_true]
 rw[hz,Xy (by omega)]
 simp only[Int.toNat_natCast,Yy,hf,J4 hk2,Option.getD_some]
theorem zL {f:Fd} (h:bW f.k f.l=true):gu (List.replicate f.n 0) f=⟨f.k,0,ga f.k f.l⟩/\dq (List.replicate f.n 0) f.k f.l=0:=by
 obtain⟨n,hn,_,_,hr,he⟩:=ot h
 have:n=f.n:=by have:=f.n_eq;omega
 subst this
 obtain⟨_,h2,h3,h4⟩:=qj (by omega) (by omega) hr
 rw[he] at h2 h3 h4
 refine⟨?_,by simp[dq,h4]⟩
 rw[gu,Xz h4,h2,h3]
theorem Bw {fs:List Fd} (hr:aK fs=true) {k:Nat} {f:Fd} (hf:fs[k]?=some f) {z:Nat} (hz:bP fs=z):fR (List.replicate z 0) fs f.s=⟨f.k,0,ga f.k f.l⟩/\fc (List.replicate z 0) fs f.s=0:=by
 obtain⟨at_,_,hl⟩:=iz hr hf (n:=z) hz.symm
 obtain⟨hm,hin,_,_⟩:=qs hl
 have e:((List.replicate z (0:UInt8)).drop at_).take f.n=List.replicate f.n 0:=by
  rw[List.drop_replicate,List.take_replicate];congr 1;omega
 have hl2:gC fs (List.replicate z (0:UInt8)).length f.s=.inr (at_,f):=by rw[List.length_replicate];exact hl
 obtain⟨h1,h2⟩:=zL hm
 refine⟨?_,?_⟩
 ·simp only[fR,hl2,e,h1]
 ·simp only[fc,hl2,e,h2]
theorem td {b x:EN} {i:Nat} (h:i+x.length<=b.length) (p:Nat):(gy b i x)[p]?=if i<=p/\p<i+x.length then x[p - i]? else b[p]?:=by
 unfold gy
 have ht:(b.take i).length=i:=by rw[Qx];omega
 rcases(by omega:p<i\/(i<=p/\p<i+x.length)\/i+x.length<=p) with hp|hp|hp
 ·rw[Xy (by omega),X8,X9 (by omega),X7,Xz hp]
 ·rw[Xz hp,X8,Qk (by omega),ht,X9 (by omega)]
 ·rw[Xy (by omega),Qk (by rw[Vq,ht];omega),Vq,ht,List.getElem?_drop]
  congr 1;omega
theorem BV {b x:EN} {i:Nat} (h:i+x.length<=b.length):((gy b i x).drop i).take x.length=x:=by
 apply Xk
 intro p
 rw[X7,List.getElem?_drop,td h]
 by_cases hp:p<x.length
 ·rw[Xz hp,Xz (by omega)];congr 1;omega
 ·rw[Xy hp,Xv (by omega)]
theorem Ag {b x:EN} {i j n:Nat} (h:i+x.length<=b.length) (hd:j+n<=i\/i+x.length<=j):((gy b i x).drop j).take n=(b.drop j).take n:=by
 apply Xk
 intro p
 rw[X7,X7,List.getElem?_drop,List.getElem?_drop,td h]
 by_cases hp:p<n
 ·rw[Xz hp,Xz hp,Xy (by omega)]
 ·rw[Xy hp,Xy hp]
theorem xo {fs:List Fd} (hm:oy fs) {k l:Nat} (h:k<=l):dd 0 (fs.take k)<=dd 0 (fs.take l):=by
 have e:fs.take l=(fs.take l).take k++(fs.take l).drop k:=(List.take_append_drop _ _).symm
 rw[List.take_take,Nat.min_eq_left h] at e
 rw[e,mB]
 exact wR fun g hg=>hm g (List.mem_of_mem_take (List.mem_of_mem_drop hg))
theorem pn {fs:List Fd} (hr:aK fs=true) {i j:Nat} {f g:Fd} {a b:Nat} (hf:fs[i]?=some f) (hg:fs[j]?=some g) (ha:(fT fs)[i]?=some a) (hb:(fT fs)[j]?=some b) (hij:i<j):a+f.n<=b:=by
 obtain⟨hm,_⟩:=aQ hr
 rw[fT,Xz hr,Kv,oS 0 hf] at ha
 rw[fT,Xz hr,Kv,oS 0 hg] at hb
 simp at ha hb
 have h1:=(lS hf).2
 have h2:=xo hm (show i+1<=j by omega)
 have h3:=qY (nx:=dd 0 (fs.take j)) (hm g (J7 hg))
 omega
theorem Ct {fs:List Fd} (hr:aK fs=true) {b:EN} (hb:b.length=bP fs) {i:Nat} {f:Fd} (hf:fs[i]?=some f) (v:Vl) (h0:0<=v.b) (h1:v.b<18446744073709551616) (he:kn b fs f.s v=0):
 (fq b fs f.s v).length=bP fs/\fR (fq b fs f.s v) fs f.s=v/\fc (fq b fs f.s v) fs f.s=0/\
 ∀(j:Nat) (g:Fd),j≠i->fs[j]?=some g->fR (fq b fs f.s v) fs g.s=fR b fs g.s/\fc (fq b fs f.s v) fs g.s=fc b fs g.s:=by
 obtain⟨at_,ha,hl⟩:=iz hr hf hb
 obtain⟨hm,hin,_,hn⟩:=qs hl
 have hrr:aM v.k v.b v.t f.k f.l=true:=by
  cases h:aM v.k v.b v.t f.k f.l
  ·simp[kn,hl,h] at he
  ·rfl
 have hel:=gS hrr
 have hs:fq b fs f.s v=gy b at_ (cR v.b v.t f.k f.l):=by simp[fq,hl,hrr]
 have hfit:at_+(cR v.b v.t f.k f.l).length<=b.length:=by rw[hel];exact hin
 have hlen:(fq b fs f.s v).length=bP fs:=by rw[hs,iU hfit,hb]
 have hl2:gC fs (fq b fs f.s v).length f.s=.inr (at_,f):=by rw[hlen,<-hb];exact hl
 have hcut:((fq b fs f.s v).drop at_).take f.n=cR v.b v.t f.k f.l:=by rw[hs,<-hel];exact BV hfit
 have hk:v.k=f.k:=(bg hrr).2.1
 obtain⟨_,d1,d2,d3⟩:=qj h0 h1 hrr
 refine⟨hlen,?_,?_,fun j g hj hg=>?_⟩
 ·simp only[fR,hl2,hcut,gu]
  rw[Xz d3,d1,d2,<-hk]
 ·simp only[fc,hl2,hcut,dq]
  rw[Xz d3]
 ·obtain⟨at2,ha2,hlg⟩:=iz hr hg hb
  have hlg2:gC fs (fq b fs f.s v).length g.s=.inr (at2,g):=by rw[hlen,<-hb];exact hlg
  have hfar:((fq b fs f.s v).drop at2).take g.n=(b.drop at2).take g.n:=by
   rw[hs]
   refine Ag hfit ?_
   rw[hel]
   rcases(by omega:j<i\/i<j) with h|h
   ·exact .inl (pn hr hg hf ha2 ha h)
   ·exact .inr (pn hr hf hg ha ha2 h)
  exact⟨by simp only[fR,hlg,hlg2,hfar],by simp only[fc,hlg,hlg2,hfar]⟩
def Ba (fs:List Fd) (b:EN) (was:List Vl):Prop:=b.length=bP fs/\was.length=fs.length/\∀(j:Nat) (f:Fd) (v:Vl),fs[j]?=some f->was[j]?=some v->fR b fs f.s=v/\fc b fs f.s=0
theorem zf {fs:List Fd} (hr:aK fs=true) {b:EN} {was:List Vl} (h:Ba fs b was) {i:Nat} {f:Fd} (hf:fs[i]?=some f) (v:Vl) (h0:0<=v.b) (h1:v.b<18446744073709551616) (he:kn b fs f.s v=0):Ba fs (fq b fs f.s v) (was.set i v):=by
 obtain⟨hb,hw,hall⟩:=h
 obtain⟨s1,s2,s3,s4⟩:=Ct hr hb hf v h0 h1 he
 refine⟨s1,by rw[List.length_set];exact hw,fun j g u hg hu=>?_⟩
 by_cases hij:j=i
 ·subst hij
  rw[hf] at hg;cases hg
  rw[List.getElem?_set_self (by have:=(J6.1 hf).1;omega)] at hu
  cases hu
  exact⟨s2,s3⟩
 ·rw[Vz (by omega)] at hu
  obtain⟨g1,g2⟩:=s4 j g hij hg
  obtain⟨a1,a2⟩:=hall j g u hg hu
  exact⟨g1.trans a1,g2.trans a2⟩
def Fd.zv (f:Fd):Vl:=⟨f.k,0,ga f.k f.l⟩
theorem ze {fs:List Fd} (hr:aK fs=true) {z:Nat} (hz:bP fs=z):Ba fs (List.replicate z 0) (fs.map Fd.zv):=by
 refine⟨by rw[List.length_replicate,hz],by simp,fun j f v hf hv=>?_⟩
 rw[Kv,hf] at hv
 cases hv
 exact Bw hr hf hz
def dn (vs:List Vl):EO:=vs.flatMap fun v=>[.int .i64 v.k,.int .u64 v.b,.string v.t]
theorem ly {vs:List Vl} {i:Nat} {v:Vl} (h:vs[i]?=some v):(dn vs)[i * 3]?=some (.int .i64 v.k)/\(dn vs)[i * 3+1]?=some (.int .u64 v.b)/\(dn vs)[i * 3+2]?=some (.string v.t):=by
 induction vs generalizing i with
 |nil=>simp at h
 |cons g r ih=>
  cases i with
  |zero=>simp at h;subst h;exact⟨rfl,rfl,rfl⟩
  |succ i=>
   have:=ih (i:=i) (by simpa using h)
   rw[dn,List.flatMap_cons]
   refine⟨?_,?_,?_⟩
   ·rw[show (i+1) * 3=i * 3+3 by omega,Qk (by simp)];simpa[dn] using this.1
   ·rw[show (i+1) * 3+1=i * 3+1+3 by omega,Qk (by simp)];simpa[dn] using this.2.1
   ·rw[show (i+1) * 3+2=i * 3+2+3 by omega,Qk (by simp)];simpa[dn] using this.2.2
theorem su {vs:List Vl} {i:Nat} (h:i<vs.length) (v:Vl):(((dn vs).set (i * 3) (.int .i64 v.k)).set (i * 3+1) (.int .u64 v.b)).set (i * 3+2) (.string v.t)=dn (vs.set i v):=by
 induction vs generalizing i with
 |nil=>simp at h
 |cons g r ih=>
  cases i with
  |zero=>rfl
  |succ i=>
   have:=ih (i:=i) (by simpa using h)
   simp only[dn,List.flatMap_cons,J2] at *
   rw[<-this]
   rw[show (i+1) * 3=(i * 3)+1+1+1 by omega,show(i * 3)+1+1+1+1=(i * 3+1)+1+1+1 by omega,show(i * 3)+1+1+1+2=(i * 3+2)+1+1+1 by omega]
   simp
theorem aD.set {w:EQ} {b:Nat} {cs:EO} {T:ES} (h:aD w b cs T) (j:Nat) (v:ER):aD (w.setCell ⟨b,j,none⟩ v) b (cs.set j v) T:=by
 obtain⟨hlt,hk⟩:=Qq.1 h
 show(w.heap.modify b _)[b]?=_
 rw[Array.getElem?_eq_getElem (by rw[Array.size_modify];exact hlt),Array.getElem_modify_self,hk]
 simp
theorem aD.other {w:EQ} {b:Nat} {cs:EO} {T:ES} (h:aD w b cs T) {p:Addr} (hp:p.block≠b) (v:ER):aD (w.setCell p v) b cs T:=(J5 w p v b (fun e=>hp e.symm)).trans h
theorem aD.vals {w:EQ} {b:Nat} {vs:List Vl} {T:ES} (h:aD w b (dn vs) T) {i:Nat} {v:Vl} (hv:vs[i]?=some v):
 w.cell? ⟨b,i * 3,none⟩=some (.int .i64 v.k)/\w.cell? ⟨b,i * 3+1,none⟩=some (.int .u64 v.b)/\w.cell? ⟨b,i * 3+2,none⟩=some (.string v.t):=by
 obtain⟨g0,g1,g2⟩:=ly hv
 exact⟨h.cell g0,h.cell g1,h.cell g2⟩
def pA (w:EQ) (bd:Addr) (vs:List Vl):Prop:=bd=⟨bd.block,0,none⟩/\aD w bd.block (dn vs) 71
theorem pA.below {w w1:EQ} {bd:Addr} {vs:List Vl} (h:pA w bd vs) (hb:Below w.heap.size w w1):pA w1 bd vs:=⟨h.1,h.2.below hb⟩
theorem yx {bd:Addr} (h:bd=⟨bd.block,0,none⟩) (n:Nat):bd.add n=⟨bd.block,n,none⟩:=by
 obtain⟨b,o,s⟩:=bd
 have h:(⟨b,o,s⟩:Addr)=⟨b,0,none⟩:=h
 cases h
 unfold Addr.add;split <;> simp_all
theorem pA.at {w:EQ} {bd:Addr} {vs:List Vl} (h:pA w bd vs) {i:Nat} {v:Vl} (hv:vs[i]?=some v):
 (w.cell? (bd.add (i * 3))=some (.int .i64 v.k)/\w.cell? ⟨(bd.add (i * 3)).block,(bd.add (i * 3)).off+(0+1),none⟩=some (.int .u64 v.b)/\w.cell? ⟨(bd.add (i * 3)).block,(bd.add (i * 3)).off+(1+1),none⟩=some (.string v.t))/\
 w.frozen? (bd.add (i * 3))=false/\w.frozen? ⟨(bd.add (i * 3)).block,(bd.add (i * 3)).off+(0+1),none⟩=false/\w.frozen? ⟨(bd.add (i * 3)).block,(bd.add (i * 3)).off+(1+1),none⟩=false:=by
 obtain⟨h0,h1,h2⟩:=h.2.vals hv
 rw[yx h.1]
 exact⟨⟨h0,h1,h2⟩,h.2.frz _,h.2.frz _,h.2.frz _⟩
theorem pA.at2 {w:EQ} {bd:Addr} {vs:List Vl} (h:pA w bd vs) {i:Nat} {v:Vl} (hv:vs[i]?=some v):
 (w.cell? ⟨(bd.add (i * 3)).block,(bd.add (i * 3)).off+1,none⟩=some (.int .u64 v.b)/\w.cell? ⟨(bd.add (i * 3)).block,(bd.add (i * 3)).off+2,none⟩=some (.string v.t))/\
 w.frozen? ⟨(bd.add (i * 3)).block,(bd.add (i * 3)).off+1,none⟩=false/\w.frozen? ⟨(bd.add (i * 3)).block,(bd.add (i * 3)).off+2,none⟩=false:=by
 obtain⟨⟨_,h1,h2⟩,_,z1,z2⟩:=h.at hv
 exact⟨⟨h1,h2⟩,z1,z2⟩
def DW (w:EQ) (p:Addr) (v:Vl):EQ:=((w.setCell p (.int .i64 v.k)).setCell ⟨p.block,p.off+(0+1),none⟩ (.int .u64 v.b)).setCell ⟨p.block,p.off+(1+1),none⟩ (.string v.t)
theorem pA.set {w:EQ} {bd:Addr} {vs:List Vl} (h:pA w bd vs) {i:Nat} (hi:i<vs.length) (v:Vl):pA (DW w (bd.add (i * 3)) v) bd (vs.set i v):=by
 refine⟨h.1,?_⟩
 rw[DW,yx h.1,<-su hi]
 exact((h.2.set _ _).set _ _).set _ _
theorem Rd.vl {w:EQ} {A:EL} {vs:List Vl} (h:Rd w A (dn vs)) {k:Nat} {v:Vl} (hv:vs[k]?=some v):∃ad,A=some ad/\w.cell? (ad.add (k * 3))=some (.int .i64 v.k)/\w.cell? ⟨(ad.add (k * 3)).block,(ad.add (k * 3)).off+(0+1),none⟩=some (.int .u64 v.b)/\w.cell? ⟨(ad.add (k * 3)).block,(ad.add (k * 3)).off+(1+1),none⟩=some (.string v.t):=by
 obtain⟨g0,g1,g2⟩:=ly hv
 obtain⟨ad,rfl,h0⟩:=h.at g0
 obtain⟨_,e1,h1⟩:=h.at g1
 obtain⟨_,e2,h2⟩:=h.at g2
 cases e1;cases e2
 rw[ba _ _ 0] at h1
 rw[ba _ _ 1] at h2
 exact⟨ad,rfl,h0,h1,h2⟩
end
section
open Go.RowKit Go.Lib
theorem sj {v:Vl} {f g:Fd} (b0:0<=v.b) (b1:v.b<18446744073709551616) (h:aM v.k v.b v.t f.k f.l=true) (hc:aU f.k f.l g.k g.l=true):aM (dH v f g).k (dH v f g).b (dH v f g).t g.k g.l=true:=by
 rw[dH,Xz ⟨h,hc⟩]
 exact(nG (tx:=v.t) b0 b1 h hc).1
theorem oT {fs:List Fd} (hr:aK fs=true) {b:EN} (hb:b.length=bP fs) {i:Nat} {f:Fd} (hf:fs[i]?=some f) {v:Vl} (h:aM v.k v.b v.t f.k f.l=true):kn b fs f.s v=0:=by
 obtain⟨at_,_,hl⟩:=iz hr hf hb
 simp only[kn,hl]
 rw[Xz h]
def xT (l:List Fd) (vs:List Vl):Prop:=∀(k:Nat) (f:Fd) (v:Vl),l[k]?=some f->vs[k]?=some v->aM v.k v.b v.t f.k f.l=true/\0<=v.b/\v.b<18446744073709551616
theorem xF (l:List Fd) (m:Nat) (hm:l.length=m) (hl:m<=9223372036854775807) (hr:aK l=true) (A:EL) (cA:Nat) (b:EN) (nb:Nat) (hb0:b.length=nb) (hz:bP l=nb) (Ab:EL) (cb:Nat) (hcb:nb<=cb) (hg:∀(k:Nat) (f:Fd),l[k]?=some f->fc b l f.s=0) (w:EQ) (hA:Rd w A (aC l)) (hb:Rd w Ab (aH b)):
 Calls Tryz.prog 37 #[.slice Ab nb cb,.slice A m cA] w fun e w'=>e=.returned (.bool true)/\Below w.heap.size w w':=by
 obtain⟨ls,hls⟩:∃ls,fT l=ls:=⟨_,rfl⟩
 have HM:=J0 hm;have HZ:=J0 hz;have HLS:=J0 hls;have HR:=J0 hr;have HB0:=J0 hb0;have HG:=J0 hg
 have HB:=Jy w.heap.size w
 clear hm hz hls hr hb0 hg
 go_enter Tryz.func37,Tryz.ntmps37
 go_wp2_with (first
  |(go_at_call 70;refine(kR A cA m l HM.out nb HZ.out ls HLS.out ls.length rfl _ hA hl).mono ?_;rintro e W1 ⟨B,c',rfl,_,hb1⟩;replace HB:=HB.trans (hb1.mono HB.size);clear hb1)
  |(go_at_call 62;refine(bY A cA m l HM.out true HR.out _ (hA.below HB) hl).mono ?_;rintro e W2 ⟨rfl,hb1⟩;replace HB:=HB.trans (hb1.mono HB.size);clear hb1))
 have HBs:=HB
 clear HB
 go_loopw [8,9,10,27] (fun _ _ _ i wr=>∃(k:Nat),k<=m/\i=.int .i64 k/\Below w.heap.size w wr) (fun _ _ _ i _=>m - (intOf i).toNat)
 case atStart=>exact⟨0,by omega,rfl,HBs⟩
 case round=>
  obtain⟨k,hk1,rfl,HB⟩:=hrel
  clear HBs
  by_cases hlt:k<m
  ·obtain⟨f,hf⟩:∃f,l[k]?=some f:=⟨_,J4 (by rw[HM.out];exact hlt)⟩
   have he:=HG.out k f hf
   obtain⟨v,hv⟩:∃v,fR b l f.s=v:=⟨_,rfl⟩
   have HE:=J0 he;have HV:=J0 hv
   have hj0:(0:Int)<=(k:Int):=by omega
   have hj1:(k:Int)<(m:Int):=by omega
   obtain⟨fd,ef,f0,f1,f2⟩:=(hA.below HB).fld hf
   subst ef
   have nb1:=aA (w:=wr) (.cells #[.string f.s,.int .i64 f.k,.int .i64 f.l] 68)
   have FB:=aD.new wr [.string f.s,.int .i64 f.k,.int .i64 f.l] 68
   clear he hv hf
   go_upto_region 7 with fail
   generalize wr.alloc (.cells #[.string f.s,.int .i64 f.k,.int .i64 f.l] 68)=W3 at *
   obtain⟨g0,g1,g2⟩:=pU FB
   replace HB:=HB.trans (nb1.mono HB.size)
   clear f0 f1 f2
   go_wp2_with (go_at_call 71;refine(wC Ab nb cb b HB0.out _ cA m l HM.out f.s v HV.out 0 HE.out _ (hA.below HB) hl (hb.below HB) hcb).mono ?_;rintro e W4 ⟨rfl,hb1⟩;replace HB:=HB.trans (hb1.mono HB.size);clear hb1)
   go_roundw
   case rel=>exact⟨k+1,by omega,by go_num,HB.alloc HB.size _⟩
   case measure=>simp[intOf];omega
  ·obtain rfl:k=m:=by omega
   go_wp2
   go_ret
   exact⟨rfl,HB⟩
def tU (t:Tb) (vs:List Vl) (k:Nat):Vl:=
 match t.m[k]?,t.n[k]? with
 |some m,some g=>if 0<=m.f then(match vs[m.f.toNat]?,t.o[m.f.toNat]? with|some v,some f=>dH v f g|_,_=>Vl.z) else m.d
 |_,_=>Vl.z
def gE (t:Tb) (vs:List Vl):Nat->EN
 |0=>List.replicate (bP t.n) 0
 |k+1=>match t.n[k]? with
  |some g=>fq (gE t vs k) t.n g.s (tU t vs k)
  |none=>gE t vs k
theorem zu {t:Tb} (ht:ar t=true) (hw:iG t.m) {vs:List Vl} (hlen:t.o.length<=vs.length) (hv:xT t.o vs) {k:Nat} {g:Fd} (hg:t.n[k]?=some g):
 aM (tU t vs k).k (tU t vs k).b (tU t vs k).t g.k g.l=true/\0<=(tU t vs k).b/\(tU t vs k).b<18446744073709551616:=by
 obtain⟨_,_,hl,hok⟩:=ae.1 ht
 have hk:k<t.m.length:=by rw[hl];exact(J6.1 hg).1
 have hm:t.m[k]?=some (t.m[k]'hk):=J4 hk
 have hwm:=hw _ (List.getElem_mem hk)
 generalize t.m[k]'hk=m at hm hwm
 have h:=hok k hk
 rw[dN hm hg] at h
 by_cases hf:m.f=-1
 ·have e:tU t vs k=m.d:=by unfold tU;rw[hm,hg];simp only;rw[Xy (by omega)]
  rw[e]
  obtain⟨mf,md⟩:=m
  obtain rfl:mf=-1:=hf
  rw[kh,Qz] at h
  exact⟨h.1,hwm.1,hwm.2⟩
 ·obtain⟨h0,_,f,hof,hc⟩:=gD hf h
  have hlo:m.f.toNat<t.o.length:=(J6.1 hof).1
  have hx:vs[m.f.toNat]?=some (vs[m.f.toNat]'(by omega)):=J4 (by omega)
  generalize vs[m.f.toNat]'(by omega)=v at hx
  have e:tU t vs k=dH v f g:=by unfold tU;rw[hm,hg];simp only;rw[Xz h0,hx,hof]
  rw[e]
  obtain⟨r1,r2,r3⟩:=hv _ f v hof hx
  exact⟨sj r2 r3 r1 hc,si r2 r3⟩
theorem tZ {t:Tb} (ht:ar t=true) (hw:iG t.m) {vs:List Vl} (hlen:t.o.length<=vs.length) (hv:xT t.o vs):∀k,k<=t.n.length->∃was,Ba t.n (gE t vs k) was/\∀j,j<k->was[j]?=some (tU t vs j):=by
 have hr:=(ae.1 ht).2.1
 intro k
 induction k with
 |zero=>intro _;exact⟨t.n.map Fd.zv,ze hr rfl,fun j hj=>by omega⟩
 |succ k ih=>
  intro hk
  obtain⟨was,hi,hx⟩:=ih (by omega)
  have hf:t.n[k]?=some (t.n[k]'(by omega)):=J4 (by omega)
  generalize t.n[k]'(by omega)=g at hf
  obtain⟨h1,h2,h3⟩:=zu ht hw hlen hv hf
  have e:gE t vs (k+1)=fq (gE t vs k) t.n g.s (tU t vs k):=by rw[gE,hf]
  rw[e]
  refine⟨was.set k (tU t vs k),zf hr hi hf _ h2 h3 (oT hr hi.1 hf h1),fun j hj=>?_⟩
  by_cases hjk:j=k
  ·subst hjk
   rw[List.getElem?_set_self (by rw[hi.2.1];omega)]
  ·rw[Vz (by omega)]
   exact hx j (by omega)
theorem kj {t:Tb} (ht:ar t=true) (hw:iG t.m) {vs:List Vl} (hlen:t.o.length<=vs.length) (hv:xT t.o vs) {k:Nat} (hk:k<=t.n.length):(gE t vs k).length=bP t.n:=by
 obtain⟨was,h,_⟩:=tZ ht hw hlen hv k hk
 exact h.1
theorem Af {t:Tb} (ht:ar t=true) (hw:iG t.m) {vs:List Vl} (hlen:t.o.length<=vs.length) (hv:xT t.o vs) {j:Nat} {g:Fd} (hg:t.n[j]?=some g):fc (gE t vs t.n.length) t.n g.s=0/\fR (gE t vs t.n.length) t.n g.s=tU t vs j:=by
 obtain⟨was,h,hw⟩:=tZ ht hw hlen hv t.n.length (J9 _)
 have hj:j<t.n.length:=(J6.1 hg).1
 obtain⟨g1,g2⟩:=h.2.2 j g _ hg (hw j hj)
 exact⟨g2,g1⟩
theorem aO.setU {u:Nat} {w W:EQ} (h:aO (some u) none w W) (j:Nat) (v:ER):aO (some u) none w (W.setCell ⟨u,j,none⟩ v):=
 ⟨h.os,h.tape,h.output,by have:=h.size;simpa using this,fun k hk h2 h3=>(J5 _ _ _ _ (by intro e;exact h2 (by rw[e]))).trans (h.block k hk h2 h3)⟩
theorem mi (w:EQ) (P Q:EO) (T1 T2:ES):aD ((w.alloc (.cells P.toArray T1)).alloc (.cells Q.toArray T2)).drew w.heap.size P T1/\aD ((w.alloc (.cells P.toArray T1)).alloc (.cells Q.toArray T2)).drew (w.heap.size+1) Q T2:=by
 refine⟨(aD.new w P T1).below (Jv (aA _)),?_⟩
 have:=aD.new (w.alloc (.cells P.toArray T1)) Q T2
 rw[Jq] at this
 exact this
theorem yt {w:EQ} {b:Nat} {c:Vl} {T:ES} (h:aD w b [.int .i64 c.k,.int .u64 c.b,.string c.t] T):w.cell? ⟨b,0,none⟩=some (.int .i64 c.k)/\w.cell? ⟨b,1,none⟩=some (.int .u64 c.b)/\w.cell? ⟨b,2,none⟩=some (.string c.t)/\w.frozen? ⟨b,0,none⟩=false/\w.frozen? ⟨b,1,none⟩=false/\w.frozen? ⟨b,2,none⟩=false:=⟨h.cell rfl,h.cell rfl,h.cell rfl,h.frz 0,h.frz 1,h.frz 2⟩
theorem AM (t:Tb) (O N M:EL) (co cn cm no nn nm:Nat) (hno:t.o.length=no) (hnn:t.n.length=nn) (hnm:t.m.length=nm) (ht:ar t=true) (hw:iG t.m) (vs:List Vl) (hlen:no<=vs.length) (hv:xT t.o vs) (b:EN) (nb:Nat) (hb0:b.length=nb) (hz0:bP t.o=nb) (hg:∀(k:Nat) (f:Fd),t.o[k]?=some f->fc b t.o f.s=0/\∀v,vs[k]?=some v->fR b t.o f.s=v) (Ab:EL) (cb:Nat) (hcb:nb<=cb) (z:Nat) (hz:bP t.n=z) (w:EQ) (r0:Rd w O (aC t.o)) (r1:Rd w N (aC t.n)) (r2:Rd w M (aJ t.m)) (hb:Rd w Ab (aH b)):
 Calls Tryz.prog 39 #[.agg #[.slice O no co,.slice N nn cn,.slice M nm cm],.slice Ab nb cb] w fun e w'=>∃B c',e=.returned (.tuple #[.slice B z c',.int .i64 0])/\z<=c'/\Rd w' B (aH (gE t vs nn))/\Below w.heap.size w w':=by
 have hr1:=(ae.1 ht).1
 obtain⟨s0,s1,s2⟩:=bN ht
 rw[hno] at s0;rw[hnn] at s1;rw[hnm] at s2
 have hmn:nm=nn:=by rw[<-hnm,<-hnn];exact(ae.1 ht).2.2.1
 have T:=aD.new w [.slice O no co,.slice N nn cn,.slice M nm cm] 96
 have HB:=aA (w:=w) (.cells #[.slice O no co,.slice N nn cn,.slice M nm cm] 96)
 obtain⟨T0,T1,T2,_,_,_⟩:=T.f3
 have HNO:=J0 hno;have HNN:=J0 hnn;have HNM:=J0 hnm;have HT:=J0 ht;have HW:=J0 hw;have HV:=J0 hv;have HB0:=J0 hb0;have HZ0:=J0 hz0;have HG:=J0 hg;have HZ:=J0 hz;have HR1:=J0 hr1;have HMN:=J0 hmn;have HLEN:=J0 hlen
 clear hno hnn hnm ht hw hv hb0 hz0 hg hz hr1 hmn hlen
 go_enter Tryz.func39,Tryz.ntmps39
 go_upto_region 4 with (first
  |(go_at_call 72;refine(dB t O N M co cn cm no nn nm HNO.out HNN.out HNM.out (by omega) (by omega) (by omega) HW.out _ (r0.below HB) (r1.below HB) (r2.below HB)).mono ?_;rintro e W1 ⟨rfl,hb1⟩;rw[HT.out];replace HB:=HB.trans (hb1.mono HB.size);replace T:=T.below hb1;clear T0 T1 T2 hb1;obtain⟨T0,T1,T2,_,_,_⟩:=T.f3)
  |(go_at_call 37;refine(xF t.o no HNO.out (by omega) HR1.out O co b nb HB0.out HZ0.out Ab cb hcb (fun k f hf=>(HG.out k f hf).1) _ (r0.below HB) (hb.below HB)).mono ?_;rintro e W2 ⟨rfl,hb1⟩;replace HB:=HB.trans (hb1.mono HB.size);replace T:=T.below hb1;clear T0 T1 T2 hb1;obtain⟨T0,T1,T2,_,_,_⟩:=T.f3)
  |(go_at_call 73;refine(DL N cn nn t.n HNN.out z HZ.out _ (r1.below HB) (by omega)).mono ?_;rintro e W3 ⟨B,c',rfl,hc',RB,hb1⟩;replace HB:=HB.trans (hb1.mono HB.size);replace T:=T.below hb1;clear T0 T1 T2 hb1;obtain⟨T0,T1,T2,_,_,_⟩:=T.f3))
 go_wp2
 clear T0 T1 T2
 have TS:=T
 have HBS:=HB
 have RBS:=RB
 clear T HB RB
 go_loopw [6,7,8,9,10,11,12,29] (fun o _ _ _ _ _ _ i wr=>∃(k:Nat) (B:EL) (c':Nat),k<=nm/\i=.int .i64 k/\o=.slice B z c'/\z<=c'/\Rd wr B (aH (gE t vs k))/\aD wr w.heap.size [.slice O no co,.slice N nn cn,.slice M nm cm] 96/\Below w.heap.size w wr) (fun _ _ _ _ _ _ _ i _=>nm - (intOf i).toNat)
 case atStart=>exact⟨0,B,c',by omega,rfl,rfl,hc',by rw[gE,HZ.out];exact RBS,TS,HBS⟩
 case round=>
  clear TS HBS RBS hc'
  obtain⟨k,D,dc,hk1,rfl,rfl,hc',RB,T,HB⟩:=hrel
  by_cases hlt:k<nm
  ·obtain⟨x,hx⟩:∃x,t.m[k]?=some x:=⟨_,J4 (by rw[HNM.out];exact hlt)⟩
   obtain⟨g,hg⟩:∃y,t.n[k]?=some y:=⟨_,J4 (by rw[HNN.out,<-HMN.out];exact hlt)⟩
   obtain⟨y,hy⟩:∃y,tU t vs k=y:=⟨_,rfl⟩
   obtain⟨hyr,y0,y1⟩:=zu HT.out HW.out (by rw[HNO.out];exact HLEN.out) HV.out hg
   rw[hy] at hyr y0 y1
   have hl1:(gE t vs k).length=z:=by rw[<-HZ.out];exact kj HT.out HW.out (by rw[HNO.out];exact HLEN.out) HV.out (by rw[HNN.out,<-HMN.out];exact hk1)
   have hl2:(gE t vs (k+1)).length=z:=by rw[<-HZ.out];exact kj HT.out HW.out (by rw[HNO.out];exact HLEN.out) HV.out (by rw[HNN.out,<-HMN.out];exact hlt)
   have hse:kn (gE t vs k) t.n g.s y=0:=oT (ae.1 HT.out).2.1 (by rw[hl1,HZ.out]) hg hyr
   have hst:fq (gE t vs k) t.n g.s y=gE t vs (k+1):=by rw[gE,hg,hy]
   have hj0:(0:Int)<=(k:Int):=by omega
   have hj1:(k:Int)<(nm:Int):=by omega
   have hj2:(k:Int)<(nn:Int):=by have:=HMN.out;omega
   obtain⟨md,em,_,_,_,_⟩:=r2.mv hx
   obtain⟨gd,eg,_,_,_⟩:=r1.fld hg
   subst em eg
   have HX:=J0 hx;have HGK:=J0 hg;have HY:=J0 hy;have HL1:=J0 hl1;have HL2:=J0 hl2;have HSE:=J0 hse;have HST:=J0 hst
   have hall:∀W,Below wr.heap.size wr W->W.cell? ⟨w.heap.size,2,none⟩=some (.slice (some md) nm cm)/\W.cell? ⟨w.heap.size,1,none⟩=some (.slice (some gd) nn cn)/\W.cell? (md.add (k * 4))=some (.int .i64 x.f)/\W.cell? ⟨(md.add (k * 4)).block,(md.add (k * 4)).off+(0+1),none⟩=some (.int .i64 x.d.k)/\W.cell? ⟨(md.add (k * 4)).block,(md.add (k * 4)).off+(1+1),none⟩=some (.int .u64 x.d.b)/\W.cell? ⟨(md.add (k * 4)).block,(md.add (k * 4)).off+(2+1),none⟩=some (.string x.d.t)/\W.cell? (gd.add (k * 3))=some (.string g.s)/\W.cell? ⟨(gd.add (k * 3)).block,(gd.add (k * 3)).off+(0+1),none⟩=some (.int .i64 g.k)/\W.cell? ⟨(gd.add (k * 3)).block,(gd.add (k * 3)).off+(1+1),none⟩=some (.int .i64 g.l)/\Below wr.heap.size wr W:=fun W hbW=>by
    obtain⟨_,ea,c0,c1,c2,c3⟩:=((r2.below HB).below hbW).mv hx
    cases ea
    obtain⟨_,eb,g0,g1,g2⟩:=((r1.below HB).below hbW).fld hg
    cases eb
    exact⟨(T.below hbW).f3.2.2.1,(T.below hbW).f3.2.1,c0,c1,c2,c3,g0,g1,g2,hbW⟩
   clear hx hg hy hyr hl1 hl2 hse hst
   go_upto_region 7 with fail
   go_cut [8,9] (fun s8 s9 wx=>∃p q,s8=.pointer (some ⟨p,0,none⟩)/\s9=.pointer (some ⟨q,0,none⟩)/\aD wx p [.int .i64 x.f,.int .i64 x.d.k,.int .u64 x.d.b,.string x.d.t] 137/\aD wx q [.string g.s,.int .i64 g.k,.int .i64 g.l] 68/\Below wr.heap.size wr wx)
   case first=>
    go_region_held3 (fun W=>W.cell? ⟨w.heap.size,2,none⟩=some (.slice (some md) nm cm)/\W.cell? ⟨w.heap.size,1,none⟩=some (.slice (some gd) nn cn)/\W.cell? (md.add (k * 4))=some (.int .i64 x.f)/\W.cell? ⟨(md.add (k * 4)).block,(md.add (k * 4)).off+(0+1),none⟩=some (.int .i64 x.d.k)/\W.cell? ⟨(md.add (k * 4)).block,(md.add (k * 4)).off+(1+1),none⟩=some (.int .u64 x.d.b)/\W.cell? ⟨(md.add (k * 4)).block,(md.add (k * 4)).off+(2+1),none⟩=some (.string x.d.t)/\W.cell? (gd.add (k * 3))=some (.string g.s)/\W.cell? ⟨(gd.add (k * 3)).block,(gd.add (k * 3)).off+(0+1),none⟩=some (.int .i64 g.k)/\W.cell? ⟨(gd.add (k * 3)).block,(gd.add (k * 3)).off+(1+1),none⟩=some (.int .i64 g.l)/\Below wr.heap.size wr W) ((refine hall _ ?_;(repeat (first|assumption|exact Jy _ _|refine J8 ?_ (by dsimp only;first|exact J9 _|omega|(simp;done)) _|refine Jk ?_ (by first|exact J9 _|omega|(simp;done)) _|apply Jv)))) (fail)
    all_goals (go_wp2_with fail;go_meet;refine⟨_,_,rfl,rfl,?_,?_,?_⟩)
    all_goals first
     |exact(mi wr [.int .i64 x.f,.int .i64 x.d.k,.int .u64 x.d.b,.string x.d.t] [.string g.s,.int .i64 g.k,.int .i64 g.l] 137 68).1
     |exact(mi wr [.int .i64 x.f,.int .i64 x.d.k,.int .u64 x.d.b,.string x.d.t] [.string g.s,.int .i64 g.k,.int .i64 g.l] 137 68).2
     |exact(mi wr [.string g.s,.int .i64 g.k,.int .i64 g.l] [.int .i64 x.f,.int .i64 x.d.k,.int .u64 x.d.b,.string x.d.t] 68 137).1
     |exact(mi wr [.string g.s,.int .i64 g.k,.int .i64 g.l] [.int .i64 x.f,.int .i64 x.d.k,.int .u64 x.d.b,.string x.d.t] 68 137).2
     |exact(aB (aA _) (aA _)).drew
   case rest=>
    obtain⟨p,q,rfl,rfl,PB,QB,hb4⟩:=hcut
    clear hall
    rename EQ=>W4
    obtain⟨m0,m1,m2,m3,_,_,_,_⟩:=cV PB
    have nb5:=aA (w:=W4) (.cells #[.int .i64 x.d.k,.int .u64 x.d.b,.string x.d.t] 71)
    have UB:aD (W4.alloc (.cells #[.int .i64 x.d.k,.int .u64 x.d.b,.string x.d.t] 71)) W4.heap.size [.int .i64 x.d.k,.int .u64 x.d.b,.string x.d.t] 71:=aD.new W4 _ _
    have hpu:=PB.lt
    have hqu:=QB.lt
    go_upto_region 9 with fail
    generalize W4.alloc (.cells #[.int .i64 x.d.k,.int .u64 x.d.b,.string x.d.t] 71)=W5 at *
    clear m0 m1 m2 m3
    replace PB:=PB.below nb5
    replace QB:=QB.below nb5
    have hb5:=aB hb4 nb5
    obtain⟨u,hu⟩:∃u,W4.heap.size=u:=⟨_,rfl⟩
    rw[hu] at UB hpu hqu |-
    have hu4:wr.heap.size<=u:=by rw[<-hu];exact hb4.size
    have hu5:u<W5.heap.size:=UB.lt
    clear hu hb4 nb5
    obtain⟨m0,m1,m2,m3,_,_,_,_⟩:=cV PB
    go_upto_if 46 with fail
    go_cut [11,12] (fun _ _ wx=>aD wx u [.int .i64 y.k,.int .u64 y.b,.string y.t] 71/\aD wx q [.string g.s,.int .i64 g.k,.int .i64 g.l] 68/\Below wr.heap.size wr wx)
    case first=>
     by_cases hxf:0<=x.f
     ·have e1:decide ((0:Int)<=x.f)=true:=by simpa using hxf
      have hkk:eu t k=true:=(ae.1 HT.out).2.2.2 k (J6.1 HX.out).1
      rw[dN HX.out HGK.out] at hkk
      obtain⟨_,_,f,hof,_⟩:=gD (by omega) hkk
      have hlo:x.f.toNat<no:=by rw[<-HNO.out];exact(J6.1 hof).1
      have hxl:x.f<(no:Int):=by omega
      obtain⟨v,hvx⟩:∃v,vs[x.f.toNat]?=some v:=⟨_,J4 (by have:=HLEN.out;omega)⟩
      obtain⟨_,vb0,vb1⟩:=HV.out _ f v hof hvx
      have hyc:dH v f g=y:=by rw[<-HY.out];unfold tU;rw[HX.out,HGK.out];simp only;rw[Xz hxf,hvx,hof]
      have hcv:=nE v f g
      rw[hyc] at hcv
      obtain⟨hge,hgv0⟩:=HG.out _ f hof
      have hgv:=hgv0 v hvx
      obtain⟨od,eo,_,_,_⟩:=r0.fld hof
      subst eo
      have HGE:=J0 hge;have HGV:=J0 hgv;have HCV:=J0 hcv;have HOF:=J0 hof
      clear hkk hvx hyc hcv hge hgv0 hgv hof
      go_upto_region 10 with fail
      have hall10:∀W,Below W5.heap.size W5 W->W.cell? ⟨w.heap.size,0,none⟩=some (.slice (some od) no co)/\W.cell? ⟨p,0,none⟩=some (.int .i64 x.f)/\W.cell? (od.add (x.f.toNat * 3))=some (.string f.s)/\Below W5.heap.size W5 W:=fun W hbW=>by
       have hbw:=HB.trans ((aB hb5 hbW).mono HB.size)
       obtain⟨_,ea,c0,_,_⟩:=(r0.below hbw).fld HOF.out
       cases ea
       exact⟨(T.below (aB hb5 hbW)).f3.1,(PB.below hbW).cell rfl,c0,hbW⟩
      go_cut [11,12] (fun s11 s12 wx=>∃r e,s11=.pointer (some ⟨r,0,none⟩)/\s12=.int .i64 e/\aD wx r [.int .i64 v.k,.int .u64 v.b,.string v.t] 71/\Below W5.heap.size W5 wx/\W5.heap.size<=r)
      case first=>
       go_region_held3 (fun W=>W.cell? ⟨w.heap.size,0,none⟩=some (.slice (some od) no co)/\W.cell? ⟨p,0,none⟩=some (.int .i64 x.f)/\W.cell? (od.add (x.f.toNat * 3))=some (.string f.s)/\Below W5.heap.size W5 W) ((refine hall10 _ ?_;(repeat (first|assumption|exact Jy _ _|refine J8 ?_ (by dsimp only;first|exact J9 _|omega|(simp;done)) _|refine Jk ?_ (by first|exact J9 _|omega|(simp;done)) _|apply Jv))))
        (first
          |(go_at_call 71;obtain⟨_,_,_,HBx⟩:=‹_/\_/\_/\Below W5.heap.size W5 _›;have HBW:=HB.trans ((aB hb5 HBx).mono HB.size);refine(wC Ab nb cb b HB0.out (some od) co no t.o HNO.out f.s v HGV.out 0 HGE.out _ (r0.below HBW) (by omega) (hb.below HBW) hcb).mono ?_;rintro e' W8 ⟨rfl,hb8⟩;have HB8:Below W5.heap.size W5 W8:=aB HBx hb8;have hz8:=HB8.size;(first|(have RV:=aD.below (aD.new _ [.int .i64 0,.int .u64 0,.string ⟨#[]⟩] 71) hb8)|(have RV:=aD.newB (cs:=[.int .i64 0,.int .u64 0,.string ⟨#[]⟩]) hb8)|skip);(first|(obtain⟨v0,v1,v2,v3,v4,v5⟩:=RV.f3)|skip)))
       all_goals (go_wp2_with fail;go_meet;refine⟨_,_,rfl,rfl,?_,?_,?_⟩)
       all_goals first
        |exact aD.new _ _ _
        |(exact aI (aI (aI RV 0 _) 1 _) 2 _)
        |exact J9 _
        |exact hz8
        |(repeat (first|assumption|exact Jy _ _|refine J8 ?_ (by dsimp only;first|exact J9 _|omega|(simp;done)) _|refine Jk ?_ (by first|exact J9 _|omega|(simp;done)) _|apply Jv))
      case rest=>
       obtain⟨r,e9,rfl,rfl,RV,hb6,hr⟩:=hcut
       clear hall10 m0 m1 m2 m3
       rename EQ=>W6
       have P6:=PB.below hb6
       have Q6:=QB.below hb6
       have U6:=UB.below hb6
       have hb56:=aB hb5 hb6
       have T6:=T.below hb56
       have hz6:=hb56.size
       have hwz:=T.lt
       have hall11:∀W,aO (some u) none W6 W->W.cell? ⟨r,0,none⟩=some (.int .i64 v.k)/\W.cell? ⟨r,1,none⟩=some (.int .u64 v.b)/\W.cell? ⟨r,2,none⟩=some (.string v.t)/\W.cell? ⟨w.heap.size,0,none⟩=some (.slice (some od) no co)/\W.cell? ⟨p,0,none⟩=some (.int .i64 x.f)/\W.cell? (od.add (x.f.toNat * 3))=some (.string f.s)/\W.cell? ⟨(od.add (x.f.toNat * 3)).block,(od.add (x.f.toNat * 3)).off+(0+1),none⟩=some (.int .i64 f.k)/\W.cell? ⟨(od.add (x.f.toNat * 3)).block,(od.add (x.f.toNat * 3)).off+(1+1),none⟩=some (.int .i64 f.l)/\W.cell? ⟨q,0,none⟩=some (.string g.s)/\W.cell? ⟨q,1,none⟩=some (.int .i64 g.k)/\W.cell? ⟨q,2,none⟩=some (.int .i64 g.l)/\aO (some u) none W6 W:=fun W hO=>by
        have hbW:Below wr.heap.size W6 W:=hO.low hz6 (fun g hg=>by cases hg;exact hu4) (fun g hg=>by cases hg)
        have hbw:=HB.trans ((hb56.trans hbW).mono HB.size)
        obtain⟨_,ea,c0,c1,c2⟩:=(r0.below hbw).fld HOF.out
        cases ea
        obtain⟨a0,a1,a2,_,_,_⟩:=yt (RV.only hO (by simp;omega) (by simp))
        obtain⟨b0,b1,b2⟩:=pU (Q6.only hO (by simp;omega) (by simp))
        exact⟨a0,a1,a2,(T6.only hO (by simp;omega) (by simp)).f3.1,(P6.only hO (by simp;omega) (by simp)).cell rfl,c0,c1,c2,b0,b1,b2,hO⟩
       go_upto_region 11 with fail
       go_region_held3 (fun W=>W.cell? ⟨r,0,none⟩=some (.int .i64 v.k)/\W.cell? ⟨r,1,none⟩=some (.int .u64 v.b)/\W.cell? ⟨r,2,none⟩=some (.string v.t)/\W.cell? ⟨w.heap.size,0,none⟩=some (.slice (some od) no co)/\W.cell? ⟨p,0,none⟩=some (.int .i64 x.f)/\W.cell? (od.add (x.f.toNat * 3))=some (.string f.s)/\W.cell? ⟨(od.add (x.f.toNat * 3)).block,(od.add (x.f.toNat * 3)).off+(0+1),none⟩=some (.int .i64 f.k)/\W.cell? ⟨(od.add (x.f.toNat * 3)).block,(od.add (x.f.toNat * 3)).off+(1+1),none⟩=some (.int .i64 f.l)/\W.cell? ⟨q,0,none⟩=some (.string g.s)/\W.cell? ⟨q,1,none⟩=some (.int .i64 g.k)/\W.cell? ⟨q,2,none⟩=some (.int .i64 g.l)/\aO (some u) none W6 W) ((refine hall11 _ ?_;repeat (first|assumption|exact aO.of (Jy _ _).drew|refine aO.setU ?_ _ _)))
        (first
          |(go_at_call 74;obtain⟨_,_,_,_,_,_,_,_,_,_,_,HOx⟩:=‹_/\_/\_/\_/\_/\_/\_/\_/\_/\_/\_/\aO (some u) none W6 _›;refine(vz v.k v.b v.t f.s g.s f.k f.l g.k g.l vb0 vb1 _ _ HCV.out rfl _).mono ?_;rintro e' W8 ⟨rfl,hb8⟩;have HO8:aO (some u) none W6 W8:=aO.seq HOx hb8;have U8:=aD.below U6 (Below.undrewS hb8);obtain⟨u0,u1,u2,u3,u4,u5⟩:=yt U8))
       all_goals
        have U9:aD _ u [.int .i64 y.k,.int .u64 y.b,.string y.t] 71:=aI (aI (aI U8 0 (.int .i64 y.k)) 1 (.int .u64 y.b)) 2 (.string y.t)
        have HO9:=((HO8.setU 0 (.int .i64 y.k)).setU 1 (.int .u64 y.b)).setU 2 (.string y.t)
        have Q9:=Q6.only HO9 (by simp;omega) (by simp)
        have hb9:=hb56.trans (HO9.low hz6 (fun g hg=>by cases hg;exact hu4) (fun g hg=>by cases hg))
        go_wp2_with fail
        go_meet
        exact⟨U9,Q9,hb9⟩
     ·have e1:decide ((0:Int)<=x.f)=false:=by simpa using hxf
      obtain rfl:x.d=y:=by rw[<-HY.out];unfold tU;rw[HX.out,HGK.out];simp only;rw[Xy hxf]
      go_wp2_with fail
      go_meet
      exact⟨UB,QB,hb5⟩
    case rest=>
     obtain⟨YB,QB9,hb9⟩:=hcut
     clear m0 m1 m2 m3 UB PB QB hb5
     rename EQ=>W9
     obtain⟨v0,v1,v2,_,_,_⟩:=yt YB
     obtain⟨g0,g1,g2⟩:=pU QB9
     have T9:=T.below hb9
     have HB9:=HB.trans (hb9.mono HB.size)
     have RB9:=RB.below hb9
     obtain⟨T0,T1,T2,_,_,_⟩:=T9.f3
     go_wp2_with (go_at_call 75;refine(DO D z dc (gE t vs k) HL1.out (some gd) cn nn t.n HNN.out g.s y.k y.b y.t y0 y1 (gE t vs (k+1)) HST.out z HL2.out 0 HSE.out _ (r1.below HB9) (by omega) RB9).mono ?_)
     rintro e W10 ⟨B2,c2,rfl,hc2,R2,hbS⟩
     have HB10:=HB9.trans (hbS.mono HB9.size)
     have T10:=T9.below hbS
     go_wp2
     go_roundw
     case rel=>exact⟨k+1,B2,c2,by omega,by go_num,rfl,hc2,R2,T10,HB10⟩
     case measure=>simp[intOf];omega
  ·obtain rfl:k=nm:=by omega
   have hkn:=HMN.out
   subst hkn
   go_wp2
   refine Xx (v:=.tuple #[.slice D z dc,.int .i64 0]) (by simp[results,Tryz.results39,go_sem, *];done) rfl ⟨D,dc,rfl,hc',RB,HB⟩
def dL (l:List Fd) (b:EN):Bool:=aK l && decide (b.length=bP l) && l.all fun f=>decide (fc b l f.s=0)
theorem eN {l:List Fd} {b:EN}:dL l b=true↔aK l=true/\b.length=bP l/\∀f∈l,fc b l f.s=0:=by
 simp[dL,List.all_eq_true,and_assoc]
def iE (l:List Fd) (b:EN):List Vl:=l.map fun f=>fR b l f.s
theorem wB (l:List Fd) (m:Nat) (hm:l.length=m) (hl:m<=9223372036854775807) (A:EL) (cA:Nat) (b:EN) (nb:Nat) (hb0:b.length=nb) (hnb:nb<=9223372036854775807) (Ab:EL) (cb:Nat) (hcb:nb<=cb) (w:EQ) (hA:Rd w A (aC l)) (hb:Rd w Ab (aH b)) (r:Bool) (hr:dL l b=r):
 Calls Tryz.prog 37 #[.slice Ab nb cb,.slice A m cA] w fun e w'=>e=.returned (.bool r)/\Below w.heap.size w w':=by
 obtain⟨ls,hls⟩:∃ls,fT l=ls:=⟨_,rfl⟩
 obtain⟨z,hz⟩:∃z,bP l=z:=⟨_,rfl⟩
 obtain⟨rr,hrr⟩:∃x,aK l=x:=⟨_,rfl⟩
 have h1:rr=false->r=false:=fun h=>by rw[<-hr,dL,hrr,h];rfl
 have h2:nb≠z->r=false:=fun h=>by rw[<-hr,dL,hb0,hz,Y9 h,Bool.and_false];rfl
 have h3:∀(k:Nat) (f:Fd),l[k]?=some f->fc b l f.s≠0->r=false:=fun k f hf h=>by
  rw[<-hr]
  cases hx:dL l b with
  |false=>rfl
  |true=>exact absurd ((eN.1 hx).2.2 f (J7 hf)) h
 have h4:rr=true->nb=z->(∀(k:Nat) (f:Fd),k<m->l[k]?=some f->fc b l f.s=0)->r=true:=fun h5 h6 h7=>by
  rw[<-hr,eN]
  refine⟨hrr.trans h5,by rw[hb0,hz,h6],fun f hf=>?_⟩
  obtain⟨k,hk⟩:=Qv.1 hf
  exact h7 k f (by rw[<-hm];exact(J6.1 hk).1) hk
 have HM:=J0 hm;have HZ:=J0 hz;have HLS:=J0 hls;have HR:=J0 hrr;have HB0:=J0 hb0;have H1:=J0 h1;have H2:=J0 h2;have H3:=J0 h3;have H4:=J0 h4
 have HB:=Jy w.heap.size w
 clear hm hz hls hr hb0 hrr h1 h2 h3 h4
 cases rr
 ·obtain rfl:=H1.out rfl
  go_enter Tryz.func37,Tryz.ntmps37
  go_wp2_with (first|(go_at_call 70;refine(kR A cA m l HM.out z HZ.out ls HLS.out ls.length rfl _ hA hl).mono ?_;rintro e W1 ⟨B,c',rfl,_,hb1⟩;replace HB:=HB.trans (hb1.mono HB.size);clear hb1)|(go_at_call 62;refine(bY A cA m l HM.out _ HR.out _ (hA.below HB) hl).mono ?_;rintro e W2 ⟨rfl,hb1⟩;replace HB:=HB.trans (hb1.mono HB.size);clear hb1))
  go_ret
  exact⟨rfl,HB⟩
 by_cases hlen:nb=z
 ·go_enter Tryz.func37,Tryz.ntmps37
  have hq:((nb:Int) != (z:Int))=false:=by simp[hlen]
  have hq2:(!((nb:Int) == (z:Int)))=false:=by simp[hlen]
  have hq3:((nb:Int) == (z:Int))=true:=by simp[hlen]
  have hq4:(nb != z)=false:=by simp[hlen]
  have HL:=J0 hlen
  clear hlen
  go_wp2_with (first|(go_at_call 70;refine(kR A cA m l HM.out z HZ.out ls HLS.out ls.length rfl _ hA hl).mono ?_;rintro e W1 ⟨B,c',rfl,_,hb1⟩;replace HB:=HB.trans (hb1.mono HB.size);clear hb1)|(go_at_call 62;refine(bY A cA m l HM.out _ HR.out _ (hA.below HB) hl).mono ?_;rintro e W2 ⟨rfl,hb1⟩;replace HB:=HB.trans (hb1.mono HB.size);clear hb1))
  clear hq hq2 hq3 hq4
  have HBs:=HB
  clear HB
  go_loopw [8,9,10,27] (fun _ _ _ i wr=>∃(k:Nat),k<=m/\i=.int .i64 k/\Below w.heap.size w wr/\Hid (∀(j:Nat) (f:Fd),j<k->l[j]?=some f->fc b l f.s=0)) (fun _ _ _ i _=>m - (intOf i).toNat)
  case atStart=>exact⟨0,by omega,rfl,HBs,J0 (fun j f h=>by omega)⟩
  case round=>
   obtain⟨k,hk1,rfl,HB,hall⟩:=hrel
   clear HBs
   by_cases hlt:k<m
   ·obtain⟨f,hf⟩:∃f,l[k]?=some f:=⟨_,J4 (by rw[HM.out];exact hlt)⟩
    obtain⟨v,hv⟩:∃v,fR b l f.s=v:=⟨_,rfl⟩
    obtain⟨en,he⟩:∃v,fc b l f.s=v:=⟨_,rfl⟩
    have HE:=J0 he;have HV:=J0 hv;have HF:=J0 hf
    have hj0:(0:Int)<=(k:Int):=by omega
    have hj1:(k:Int)<(m:Int):=by omega
    obtain⟨fd,ef,f0,f1,f2⟩:=(hA.below HB).fld hf
    subst ef
    have nb1:=aA (w:=wr) (.cells #[.string f.s,.int .i64 f.k,.int .i64 f.l] 68)
    have FB:=aD.new wr [.string f.s,.int .i64 f.k,.int .i64 f.l] 68
    clear he hv hf
    go_upto_region 7 with fail
    generalize wr.alloc (.cells #[.string f.s,.int .i64 f.k,.int .i64 f.l] 68)=W3 at *
    obtain⟨g0,g1,g2⟩:=pU FB
    replace HB:=HB.trans (nb1.mono HB.size)
    clear f0 f1 f2
    by_cases hen:en=0
    ·subst hen
     go_wp2_with (go_at_call 71;refine(wC Ab nb cb b HB0.out _ cA m l HM.out f.s v HV.out 0 HE.out _ (hA.below HB) hl (hb.below HB) hcb).mono ?_;rintro e W4 ⟨rfl,hb1⟩;replace HB:=HB.trans (hb1.mono HB.size);clear hb1)
     go_roundw
     case rel=>
      refine⟨k+1,by omega,by go_num,HB.alloc HB.size _,J0 (fun j g hj hg=>?_)⟩
      rcases(by omega:j<k\/j=k) with h|rfl
      ·exact hall.out j g h hg
      ·rw[HF.out] at hg;cases hg;exact HE.out
     case measure=>simp[intOf];omega
    ·have e1:(en == 0)=false:=by simpa using hen
     have e2:(en != 0)=true:=by simpa using hen
     obtain rfl:=H3.out k f HF.out (by rw[HE.out];exact hen)
     go_wp2_with (go_at_call 71;refine(wC Ab nb cb b HB0.out _ cA m l HM.out f.s v HV.out en HE.out _ (hA.below HB) hl (hb.below HB) hcb).mono ?_;rintro e W4 ⟨rfl,hb1⟩;replace HB:=HB.trans (hb1.mono HB.size);clear hb1)
     go_ret
     exact⟨rfl,HB.alloc HB.size _⟩
   ·obtain rfl:k=m:=by omega
    obtain rfl:=H4.out (by trivial) HL.out hall.out
    clear hall
    go_wp2
    go_ret
    exact⟨rfl,HB⟩
 ·obtain rfl:=H2.out hlen
  have e1:((nb:Int) == (z:Int))=false:=by simp;omega
  have e2:(nb != z)=true:=by simpa using hlen
  have e3:((nb:Int) != (z:Int))=true:=by simp[bne,e1]
  go_enter Tryz.func37,Tryz.ntmps37
  go_wp2_with (first|(go_at_call 70;refine(kR A cA m l HM.out z HZ.out ls HLS.out ls.length rfl _ hA hl).mono ?_;rintro e W1 ⟨B,c',rfl,_,hb1⟩;replace HB:=HB.trans (hb1.mono HB.size);clear hb1)|(go_at_call 62;refine(bY A cA m l HM.out _ HR.out _ (hA.below HB) hl).mono ?_;rintro e W2 ⟨rfl,hb1⟩;replace HB:=HB.trans (hb1.mono HB.size);clear hb1))
  go_ret
  exact⟨rfl,HB⟩
def uP (ts:List Tb) (b:EN):EN:=ts.foldl (fun b t=>gE t (iE t.o b) t.n.length) b
end
end Go.Proofs.YteembinfgbapgaaGreat
