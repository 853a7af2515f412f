/- Merged out of: Yl. -/
import Derived.Test.YteembinfgbapgaaGreatE00
import Derived.Test.YteembinfgbapgaaGreatE15
import Derived.Test.YteembinfgbapgaaGreatE02
import Derived.Test.YteembinfgbapgaaGreatE05
set_option linter.unusedSimpArgs false
set_option linter.unusedVariables false
set_option maxRecDepth 100000
set_option maxHeartbeats 8000000
namespace Go.Proofs.YteembinfgbapgaaGreat
section
open Go.RowKit Go.Lib Go.Maps
theorem BC:(Tryz.prog.info? 157).map (fun i=>(i.zero,i.size,i.bytes))=some (some (.agg #[.int .i64 0,.int .i64 0,.int .u64 0,.string ⟨#[]⟩]),4,40):=by kernel_rfl
structure Ef (w Wc:EQ) (b q z tb:Nat):Prop where
 bw:w.heap.size<=b
 qw:w.heap.size<=q
 zw:w.heap.size<=z
 tw:w.heap.size<=tb
 bq:b≠q
 bz:b≠z
 bt:b≠tb
 qz:q≠z
 qt:q≠tb
 zt:z≠tb
 bc:b<Wc.heap.size
 qc:q<Wc.heap.size
 zc:z<Wc.heap.size
 tc:tb<Wc.heap.size
structure ri (w Wc W:EQ) (b q z tb:Nat) (x y X Y v:ER) (j:Nat) (ms:List Mv):Prop where
 B:Below w.heap.size w W
 cz:Wc.heap.size<=W.heap.size
 P:aD W b [x,y] 124
 Q:aD W q [.string ⟨#[]⟩,.bool false] 124
 Z:aD W z [.slice none 0 0,.slice none 0 0,.slice none 0 0] 110
 T:aD W tb [X,Y,v] 110
 own:W.ownsRow Wc.heap.size 157 4 v j (aJ ms)
theorem ri.below {w Wc W:EQ} {b q z tb:Nat} {x y X Y v:ER} {j:Nat} {ms:List Mv} (h:ri w Wc W b q z tb x y X Y v j ms) {W':EQ} (hb:Below W.heap.size W W'):ri w Wc W' b q z tb x y X Y v j ms:=⟨h.B.trans (hb.mono h.B.size),Q7 h.cz hb.size,h.P.below hb,h.Q.below hb,h.Z.below hb,h.T.below hb,aG h.own hb⟩
theorem ri.put1 {w Wc W:EQ} {b q z tb:Nat} {x y X Y v:ER} {j:Nat} {ms:List Mv} (h:ri w Wc W b q z tb x y X Y v j ms) (m:Ef w Wc b q z tb) (u:ER):ri w Wc (W.setCell ⟨b,1,none⟩ u) b q z tb x u X Y v j ms:=
 ⟨h.B.setCell (p:=⟨b,1,none⟩) m.bw u,by simpa using h.cz,aI h.P 1 u,h.Q.far (p:=⟨b,1,none⟩) m.bq u,h.Z.far (p:=⟨b,1,none⟩) m.bz u,h.T.far (p:=⟨b,1,none⟩) m.bt u,Y3 h.own m.bc _⟩
theorem ri.put {w Wc W:EQ} {b q z tb:Nat} {x y X Y v:ER} {j:Nat} {ms:List Mv} (h:ri w Wc W b q z tb x y X Y v j ms) (m:Ef w Wc b q z tb) (u u':ER):ri w Wc ((W.setCell ⟨b,0,none⟩ u).setCell ⟨b,1,none⟩ u') b q z tb u u' X Y v j ms:=by
 have h0:ri w Wc (W.setCell ⟨b,0,none⟩ u) b q z tb u y X Y v j ms:=⟨h.B.setCell (p:=⟨b,0,none⟩) m.bw u,by simpa using h.cz,aI h.P 0 u,h.Q.far (p:=⟨b,0,none⟩) m.bq u,h.Z.far (p:=⟨b,0,none⟩) m.bz u,h.T.far (p:=⟨b,0,none⟩) m.bt u,Y3 h.own m.bc _⟩
 exact h0.put1 m u'
theorem ri.far {w Wc W:EQ} {b q z tb:Nat} {x y X Y v:ER} {j:Nat} {ms:List Mv} (h:ri w Wc W b q z tb x y X Y v j ms) (m:Ef w Wc b q z tb) {r:Nat} (hr:Wc.heap.size<=r) (hv:∀g,v.ownBlock=some g->g≠r) (i:Nat) (u:ER):ri w Wc (W.setCell ⟨r,i,none⟩ u) b q z tb x y X Y v j ms:=by
 have hwr:w.heap.size<=r:=Q7 (Q7 m.bw (Nat.le_of_lt m.bc)) hr
 have a:=m.bc;have b':=m.qc;have c:=m.zc;have d:=m.tc
 exact⟨h.B.setCell (p:=⟨r,i,none⟩) hwr u,by simpa using h.cz,h.P.far (p:=⟨r,i,none⟩) (by show r≠_;omega) u,h.Q.far (p:=⟨r,i,none⟩) (by show r≠_;omega) u,h.Z.far (p:=⟨r,i,none⟩) (by show r≠_;omega) u,h.T.far (p:=⟨r,i,none⟩) (by show r≠_;omega) u,aN h.own fun g hg=>J5 _ _ _ _ (hv g hg)⟩
def Eu (am:Bool) (O:EL) (no co:Nat) (F:EL) (nf cF:Nat) (old fs:List Fd) (l:EN) (w:EQ) (e:Ending) (w':EQ):Prop:=∃(s':EP) (ms:List Mv) (C:EL) (nm cm:Nat) (am':Bool),e=.returned (.tuple #[.agg #[.string s',.bool am'],.agg #[.slice O no co,.slice F nf cF,.slice C nm cm]])/\ms.length=nm/\iG ms/\au (fun g=>w.heap.size<=g) w' C (aJ ms)/\(bl s').length<=l.length/\dU am (jG old fs l) ⟨old,fs,ms⟩ (bl s') am'/\Below w.heap.size w w'
theorem zV (w:EQ) (c1 c2 c3 c4:EO) (T1 T2 T3 T4:ES):aD ((((w.alloc (.cells c1.toArray T1)).alloc (.cells c2.toArray T2)).alloc (.cells c3.toArray T3)).alloc (.cells c4.toArray T4)) w.heap.size c1 T1/\aD ((((w.alloc (.cells c1.toArray T1)).alloc (.cells c2.toArray T2)).alloc (.cells c3.toArray T3)).alloc (.cells c4.toArray T4)) (w.heap.size+1) c2 T2/\
 aD ((((w.alloc (.cells c1.toArray T1)).alloc (.cells c2.toArray T2)).alloc (.cells c3.toArray T3)).alloc (.cells c4.toArray T4)) (w.heap.size+1+1) c3 T3/\aD ((((w.alloc (.cells c1.toArray T1)).alloc (.cells c2.toArray T2)).alloc (.cells c3.toArray T3)).alloc (.cells c4.toArray T4)) (w.heap.size+1+1+1) c4 T4/\
 Below w.heap.size w ((((w.alloc (.cells c1.toArray T1)).alloc (.cells c2.toArray T2)).alloc (.cells c3.toArray T3)).alloc (.cells c4.toArray T4))/\((((w.alloc (.cells c1.toArray T1)).alloc (.cells c2.toArray T2)).alloc (.cells c3.toArray T3)).alloc (.cells c4.toArray T4)).heap.size=w.heap.size+1+1+1+1:=by
 have a:=aD.new w c1 T1
 have b:=aD.new (w.alloc (.cells c1.toArray T1)) c2 T2
 have c:=aD.new ((w.alloc (.cells c1.toArray T1)).alloc (.cells c2.toArray T2)) c3 T3
 have d:=aD.new (((w.alloc (.cells c1.toArray T1)).alloc (.cells c2.toArray T2)).alloc (.cells c3.toArray T3)) c4 T4
 simp only[Jq] at b c d
 exact⟨((a.below (aA _)).below (aA _)).below (aA _),(b.below (aA _)).below (aA _),c.below (aA _),d,aB (aB (aB (aA _) (aA _)) (aA _)) (aA _),by simp⟩
theorem AD (s:EP) (l:EN) (hs:bl s=l) (hl:l.length<=100000000) (am:Bool) (O:EL) (no co:Nat) (F:EL) (nf cF:Nat) (old fs:List Fd) (hno:old.length=no) (hnf:fs.length=nf) (hfo:aK old=true) (hfr:aK fs=true) (w:EQ) (hO:Rd w O (aC old)) (hF:Rd w F (aC fs)):
 Calls Tryz.prog 56 #[.agg #[.string s,.bool am],.slice O no co,.slice F nf cF] w fun e w'=>Eu am O no co F nf cF old fs l w e w':=by
 have n16:nf<=16:=by have:=(aQ hfr).2;omega
 have HS:=J0 hs;have HNO:=J0 hno;have HNF:=J0 hnf;have HFO:=J0 hfo;have HFR:=J0 hfr;have HO:=J0 hO;have HF:=J0 hF
 clear hs hno hnf hfo hfr hO hF
 go_enter Tryz.func56,Tryz.ntmps56
 go_upto_region 2 with fail
 obtain⟨P,Q,Z,T,B,hz⟩:=zV w [.string s,.bool am] [.string ⟨#[]⟩,.bool false] [.slice none 0 0,.slice none 0 0,.slice none 0 0] [.slice O no co,.slice F nf cF,.slice none 0 0] 124 124 110 110
 obtain⟨b,hb⟩:∃b,w.heap.size=b:=⟨_,rfl⟩
 obtain⟨q,hq⟩:∃b,w.heap.size+1=b:=⟨_,rfl⟩
 obtain⟨z,hzz⟩:∃b,w.heap.size+1+1=b:=⟨_,rfl⟩
 obtain⟨tb,ht⟩:∃b,w.heap.size+1+1+1=b:=⟨_,rfl⟩
 rw[ht,hzz,hq,hb]
 rw[ht] at T;rw[hzz] at Z;rw[hq] at Q;rw[hb] at P
 have hbw:w.heap.size<=b:=by omega
 have hqw:w.heap.size<=q:=by omega
 have hzw:w.heap.size<=z:=by omega
 have htw:w.heap.size<=tb:=by omega
 have hbq:b≠q:=by omega
 have hbz:b≠z:=by omega
 have hbt:b≠tb:=by omega
 have hqz:q≠z:=by omega
 have hqt:q≠tb:=by omega
 have hzt:z≠tb:=by omega
 go_upto_region 3 with fail
 generalize (((w.alloc (.cells #[.string s,.bool am] 124)).alloc (.cells #[.string ⟨#[]⟩,.bool false] 124)).alloc (.cells #[.slice none 0 0,.slice none 0 0,.slice none 0 0] 110)).alloc (.cells #[.slice O no co,.slice F nf cF,.slice none 0 0] 110)=Wc at *
 have hbc:b<Wc.heap.size:=P.lt
 have hqc:q<Wc.heap.size:=Q.lt
 have hzc:z<Wc.heap.size:=Z.lt
 have htc:tb<Wc.heap.size:=T.lt
 clear hb hq hzz ht hz
 obtain⟨i0,hi,hz0,hz1,hz2⟩:=info_parts BC
 have MB:Ef w Wc b q z tb:=⟨hbw,hqw,hzw,htw,hbq,hbz,hbt,hqz,hqt,hzt,hbc,hqc,hzc,htc⟩
 have M0:ri w Wc Wc b q z tb (.string s) (.bool am) (.slice O no co) (.slice F nf cF) (.slice none 0 0) 0 []:=⟨B,J9 _,P,Q,Z,T,ai _ _ _ _⟩
 clear P Q Z T B
 go_loopw [9,10,11,12,13,14,15,16] (fun i _ _ _ _ _ _ _ wr=>∃(j:Nat) (ms:List Mv) (v:ER) (s':EP) (am':Bool),j<=nf/\i=.int .i64 j/\ri w Wc wr b q z tb (.string s') (.bool am') (.slice O no co) (.slice F nf cF) v j ms/\(bl s').length<=l.length/\Hid (ms.length=j/\iG ms/\dU am (rC fs j l) ms (bl s') am')) (fun i _ _ _ _ _ _ _ _=>nf - (intOf i).toNat)
 case atStart=>exact⟨0,[],_,s,am,by omega,rfl,M0,by rw[HS.out];exact J9 _,J0 ⟨rfl,(fun m hm=>by cases hm),by rw[HS.out];exact⟨rfl,rfl,rfl⟩⟩⟩
 case round=>
  obtain⟨j,ms,v,s',am',hj,rfl,M,hl',HI⟩:=hrel
  clear M0
  by_cases hlt:j<nf
  ·obtain⟨f,hf⟩:∃f,fs[j]?=some f:=⟨_,J4 (by rw[HNF.out];exact hlt)⟩
   have hfm:=(aQ HFR.out).1 f (J7 hf)
   obtain⟨hlz,h64⟩:=we hfm
   have i0':(0:Int)<=(j:Int):=by omega
   have i1':(j:Int)<(nf:Int):=by omega
   have hwj:IntKind.i64.wrap ((j:Int)+1)=((j+1:Nat):Int):=(Xj _ (by omega)).trans (by omega)
   obtain⟨fd,eF,_⟩:=HF.out.fld hf
   subst eF
   have hfc:∀W,Below w.heap.size w W->W.cell? (fd.add (j * 3))=some (.string f.s)/\W.cell? ⟨(fd.add (j * 3)).block,(fd.add (j * 3)).off+(0+1),none⟩=some (.int .i64 f.k)/\W.cell? ⟨(fd.add (j * 3)).block,(fd.add (j * 3)).off+(1+1),none⟩=some (.int .i64 f.l):=fun W hb=>by
    obtain⟨fd',e,g⟩:=(HF.out.below hb).fld hf
    cases e
    exact g
   have HFF:=J0 hf;have HLZ:=J0 hlz
   clear hf hfm hlz
   obtain⟨p0,p1,p2,p3⟩:=M.P.f2
   go_upto_region 6 with (go_at_call 53;refine(lR s' _ rfl (by omega) am' 1 (.inl rfl) _).mono ?_;rintro e W1 ⟨s1,x,am1,rfl,hx,hl1,st1,hb2⟩)
   have hx256:x<256:=by simpa using hx
   have RB:=aD.new W1 [.string s1,.bool am1] 124
   have M2:=(M.below hb2).below (aA (w:=W1) (.cells #[.string s1,.bool am1] 124))
   have HST:=J0 st1
   clear p0 p1 p2 p3 M hb2 st1 hx
   generalize W1.alloc (.cells #[.string s1,.bool am1] 124)=W2 at *
   obtain⟨rb,hrb⟩:∃r,W1.heap.size=r:=⟨_,rfl⟩
   rw[hrb] at RB |-
   clear hrb
   obtain⟨p0,p1,p2,p3⟩:=M2.P.f2
   obtain⟨r0,r1,_,_⟩:=RB.f2
   go_upto_region 7 with fail
   have M3:=M2.put MB (.string s1) (.bool am1)
   clear p0 p1 p2 p3 r0 r1 RB M2
   generalize (W2.setCell ⟨b,0,none⟩ (.string s1)).setCell ⟨b,1,none⟩ (.bool am1)=W3 at *
   go_upto_region 8 with fail
   have VB:=aD.new W3 [.int .i64 (x:Nat),.int .i64 0,.int .u64 0,.string ⟨#[]⟩] 157
   have M4:=M3.below (aA (w:=W3) (.cells #[.int .i64 (x:Nat),.int .i64 0,.int .u64 0,.string ⟨#[]⟩] 157))
   have hmz:Wc.heap.size<=W3.heap.size:=M3.cz
   have hvm:∀g,v.ownBlock=some g->g≠W3.heap.size:=fun g hg=>by have:=aY M3.own g hg;omega
   clear M3
   generalize W3.alloc (.cells #[.int .i64 (x:Nat),.int .i64 0,.int .u64 0,.string ⟨#[]⟩] 157)=W4 at *
   obtain⟨mb,hmb⟩:∃r,W3.heap.size=r:=⟨_,rfl⟩
   rw[hmb] at VB hvm hmz |-
   clear hmb
   go_upto_if 35 with fail
   go_cut [13,14,15,16] (fun _ _ _ _ wx=>∃(m:Mv) (s7:EP) (am7:Bool),aD wx mb [.int .i64 m.f,.int .i64 m.d.k,.int .u64 m.d.b,.string m.d.t] 157/\ri w Wc wx b q z tb (.string s7) (.bool am7) (.slice O no co) (.slice (some fd) nf cF) v j ms/\Hid (dU am' (jf f (bl s')) m (bl s7) am7/\(bl s7).length<=(bl s').length/\0<=m.d.b/\m.d.b<18446744073709551616))
   case first=>
    by_cases h255:x=255
    ·have e1:((x:Int) == 255)=true:=by simp[h255]
     have HX:=J0 h255
     clear h255
     obtain⟨p0,p1,p2,p3⟩:=M4.P.f2
     obtain⟨f0,f1,f2⟩:=hfc W4 M4.B
     go_upto_region 9 with fail
     have hall:∀W,Below W4.heap.size W4 W->W.cell? ⟨b,0,none⟩=some (.string s1)/\W.cell? ⟨b,1,none⟩=some (.bool am1)/\W.cell? (fd.add (j * 3))=some (.string f.s)/\W.cell? ⟨(fd.add (j * 3)).block,(fd.add (j * 3)).off+(0+1),none⟩=some (.int .i64 f.k)/\W.cell? ⟨(fd.add (j * 3)).block,(fd.add (j * 3)).off+(1+1),none⟩=some (.int .i64 f.l)/\Below W4.heap.size W4 W:=fun W hb=>by
      obtain⟨a0,a1,_,_⟩:=(M4.below hb).P.f2
      obtain⟨b0,b1,b2⟩:=hfc W (M4.below hb).B
      exact⟨a0,a1,b0,b1,b2,hb⟩
     clear p0 p1 p2 p3 f0 f1 f2
     go_cut [13,14] (fun s13 s14 wx=>∃(rb:Nat) (s5 t:EP) (am5:Bool),s13=.pointer (some ⟨rb,0,none⟩)/\s14=.string t/\aD wx rb [.string s5,.bool am5] 124/\Below W4.heap.size W4 wx/\Hid (dU am1 (dI f.n (bl s1)) (bl t) (bl s5) am5/\(bl s5).length<=(bl s1).length/\(bl t).length<=f.n))
     case first=>
      go_region_held3 (fun W=>W.cell? ⟨b,0,none⟩=some (.string s1)/\W.cell? ⟨b,1,none⟩=some (.bool am1)/\W.cell? (fd.add (j * 3))=some (.string f.s)/\W.cell? ⟨(fd.add (j * 3)).block,(fd.add (j * 3)).off+(0+1),none⟩=some (.int .i64 f.k)/\W.cell? ⟨(fd.add (j * 3)).block,(fd.add (j * 3)).off+(1+1),none⟩=some (.int .i64 f.l)/\Below W4.heap.size W4 W) ((refine hall _ ?_;repeat (first|assumption|exact Jy _ _|refine J8 ?_ (by dsimp only;first|exact J9 _|omega) _|refine Jk ?_ (by first|exact J9 _|omega) _|apply Jv)))
       (first
         |(go_at_call 92;obtain⟨_,_,_,_,_,HBx⟩:=‹_/\_/\_/\_/\_/\Below W4.heap.size W4 _›;refine(uB f.s f.k f.l _ HLZ.out _).mono ?_;rintro e W8 ⟨rfl,hb8⟩;have HB8:=aB HBx hb8;have hz7:=HBx.size;have hz8:=HB8.size)
         |(go_at_call 54;obtain⟨_,_,_,_,_,HBx⟩:=‹_/\_/\_/\_/\_/\Below W4.heap.size W4 _›;refine(mh s1 _ rfl (by omega) am1 f.n (by omega) _).mono ?_;rintro e W9 ⟨s5,t,am5,rfl,hl5,ht1,ht2,st5,_,hb9⟩;have HB9:=aB HBx hb9;have hz9:=HB9.size;have hzx:=HBx.size;(first|(have RB:=(aD.newB (cs:=[.string ⟨#[]⟩,.bool false]) hb8).below hb9;obtain⟨r0,r1,r2,r3⟩:=RB.f2)|(have RB:=(aD.below (aD.new _ [.string ⟨#[]⟩,.bool false] 124) hb8).below hb9;obtain⟨r0,r1,r2,r3⟩:=RB.f2)|(have RB:=aD.newB (cs:=[.string ⟨#[]⟩,.bool false]) hb9;obtain⟨r0,r1,r2,r3⟩:=RB.f2)|(have RB:=aD.below (aD.new _ [.string ⟨#[]⟩,.bool false] 124) hb9;obtain⟨r0,r1,r2,r3⟩:=RB.f2)|skip)))
      all_goals
       go_wp2_with fail
       go_meet
       refine⟨_,s5,t,am5,rfl,rfl,?_,?_,J0 ⟨st5,hl5,ht1⟩⟩
       ·first
         |exact aD.new _ _ _
         |exact aI (aI RB 0 _) 1 _
       ·(repeat (first|assumption|exact Jy _ _|refine J8 ?_ (by dsimp only;first|exact J9 _|omega) _|refine Jk ?_ (by first|exact J9 _|omega) _|apply Jv))
     case rest=>
      obtain⟨rb2,s5,t,am5,rfl,rfl,RB,hb5,HT⟩:=hcut
      rename EQ=>W5
      have M5:=M4.below hb5
      have VB5:=VB.below hb5
      have hbm:b≠mb:=by omega
      clear hall M4 VB hb5
      obtain⟨r0,r1,_,_⟩:=RB.f2
      obtain⟨p0,p1,p2,p3⟩:=M5.P.f2
      go_upto_region 11 with fail
      have M6:=M5.put MB (.string s5) (.bool am5)
      have VB6:=VB5.far2 hbm (.string s5) (.bool am5)
      clear p0 p1 p2 p3 r0 r1 RB M5 VB5
      generalize (W5.setCell ⟨b,0,none⟩ (.string s5)).setCell ⟨b,1,none⟩ (.bool am5)=W6 at *
      obtain⟨f0,f1,f2⟩:=hfc W6 M6.B
      obtain⟨d,hd⟩:∃d,gu (bl t) f=d:=⟨_,rfl⟩
      have hdv:=vA (bl t) f
      rw[hd] at hdv
      go_upto_region 12 with (go_at_call 93;refine(vX t f.s f.k f.l (by rw[<-aZ];have:=HT.out.2.2;omega) d _ hdv rfl _).mono ?_;rintro e W7 ⟨rfl,hb7⟩)
      have KB:=aD.new W7 [.int .i64 d.k,.int .u64 d.b,.string d.t] 71
      have nbk:=aA (w:=W7) (.cells #[.int .i64 d.k,.int .u64 d.b,.string d.t] 71)
      have M8:=(M6.below hb7).below nbk
      have VB8:=(VB6.below hb7).below nbk
      have hbv:b≠W7.heap.size:=by have:=(M6.below hb7).cz;omega
      clear M6 VB6 f0 f1 f2 hb7 nbk
      generalize W7.alloc (.cells #[.int .i64 d.k,.int .u64 d.b,.string d.t] 71)=W8 at *
      obtain⟨vb,hvb⟩:∃r,W7.heap.size=r:=⟨_,rfl⟩
      rw[hvb] at KB hbv |-
      clear hvb
      obtain⟨db,hdb⟩:∃x,fZ (bl t) f.k f.l=x:=⟨_,rfl⟩
      have hbd:0<=d.b/\d.b<18446744073709551616:=by
       rw[<-hd,gu]
       split
       ·exact kU _ _ _
       ·exact⟨by show(0:Int)<=0;omega,by show(0:Int)<_;omega⟩
      have hmv:∀r,r=(am5 || !db)->Hid (dU am' (jf f (bl s')) ⟨-1,d⟩ (bl s5) r/\(bl s5).length<=(bl s').length/\0<=d.b/\d.b<18446744073709551616):=fun r hr=>by
       have h1:=HST.out
       rw[HX.out] at h1
       refine J0 ⟨?_,by have:=HT.out.2.1;omega,hbd⟩
       rw[<-hd]
       exact wl h1 HT.out.1 (by rw[hdb];exact hr)
      clear hbd hdv hd
      obtain⟨p0,p1,p2,p3⟩:=M8.P.f2
      cases db <;> cases am5
      ·rw[show dq (bl t) f.k f.l=50 by simp[dq,hdb]]
       clear hdb
       go_upto_region 13 with fail
       have M9:=M8.put1 MB (.bool true)
       have VB9:=VB8.far (p:=⟨b,1,none⟩) hbm (.bool true)
       have KB9:=KB.far (p:=⟨b,1,none⟩) hbv (.bool true)
       have hmv:=hmv true rfl
       clear p0 p1 p2 p3 M8 VB8 KB
       generalize W8.setCell ⟨b,1,none⟩ (.bool true)=W9 at *
       obtain⟨v0,v1,v2,v3,w0,w1,w2,w3⟩:=cV (m:=⟨(x:Int),Vl.z⟩) VB9
       obtain⟨k0,k1,k2,_,_,_⟩:=KB9.f3
       go_wp2_with fail
       go_meet
       exact⟨⟨-1,d⟩,s5,true,aI (aI (aI (aI VB9 0 (.int .i64 (-1))) 1 (.int .i64 d.k)) 2 (.int .u64 d.b)) 3 (.string d.t),(((M9.far MB hmz hvm 0 (.int .i64 (-1))).far MB hmz hvm 1 (.int .i64 d.k)).far MB hmz hvm 2 (.int .u64 d.b)).far MB hmz hvm 3 (.string d.t),hmv⟩
      ·rw[show dq (bl t) f.k f.l=50 by simp[dq,hdb]]
       clear hdb
       go_upto_region 13 with fail
       have M9:=M8.put1 MB (.bool true)
       have VB9:=VB8.far (p:=⟨b,1,none⟩) hbm (.bool true)
       have KB9:=KB.far (p:=⟨b,1,none⟩) hbv (.bool true)
       have hmv:=hmv true rfl
       clear p0 p1 p2 p3 M8 VB8 KB
       generalize W8.setCell ⟨b,1,none⟩ (.bool true)=W9 at *
       obtain⟨v0,v1,v2,v3,w0,w1,w2,w3⟩:=cV (m:=⟨(x:Int),Vl.z⟩) VB9
       obtain⟨k0,k1,k2,_,_,_⟩:=KB9.f3
       go_wp2_with fail
       go_meet
       exact⟨⟨-1,d⟩,s5,true,aI (aI (aI (aI VB9 0 (.int .i64 (-1))) 1 (.int .i64 d.k)) 2 (.int .u64 d.b)) 3 (.string d.t),(((M9.far MB hmz hvm 0 (.int .i64 (-1))).far MB hmz hvm 1 (.int .i64 d.k)).far MB hmz hvm 2 (.int .u64 d.b)).far MB hmz hvm 3 (.string d.t),hmv⟩
      ·rw[show dq (bl t) f.k f.l=0 by simp[dq,hdb]]
       clear hdb
       go_upto_region 13 with fail
       have M9:=M8.put1 MB (.bool false)
       have VB9:=VB8.far (p:=⟨b,1,none⟩) hbm (.bool false)
       have KB9:=KB.far (p:=⟨b,1,none⟩) hbv (.bool false)
       have hmv:=hmv false rfl
       clear p0 p1 p2 p3 M8 VB8 KB
       generalize W8.setCell ⟨b,1,none⟩ (.bool false)=W9 at *
       obtain⟨v0,v1,v2,v3,w0,w1,w2,w3⟩:=cV (m:=⟨(x:Int),Vl.z⟩) VB9
       obtain⟨k0,k1,k2,_,_,_⟩:=KB9.f3
       go_wp2_with fail
       go_meet
       exact⟨⟨-1,d⟩,s5,false,aI (aI (aI (aI VB9 0 (.int .i64 (-1))) 1 (.int .i64 d.k)) 2 (.int .u64 d.b)) 3 (.string d.t),(((M9.far MB hmz hvm 0 (.int .i64 (-1))).far MB hmz hvm 1 (.int .i64 d.k)).far MB hmz hvm 2 (.int .u64 d.b)).far MB hmz hvm 3 (.string d.t),hmv⟩
      ·rw[show dq (bl t) f.k f.l=0 by simp[dq,hdb]]
       clear hdb
       go_upto_region 13 with fail
       have M9:=M8.put1 MB (.bool true)
       have VB9:=VB8.far (p:=⟨b,1,none⟩) hbm (.bool true)
       have KB9:=KB.far (p:=⟨b,1,none⟩) hbv (.bool true)
       have hmv:=hmv true rfl
       clear p0 p1 p2 p3 M8 VB8 KB
       generalize W8.setCell ⟨b,1,none⟩ (.bool true)=W9 at *
       obtain⟨v0,v1,v2,v3,w0,w1,w2,w3⟩:=cV (m:=⟨(x:Int),Vl.z⟩) VB9
       obtain⟨k0,k1,k2,_,_,_⟩:=KB9.f3
       go_wp2_with fail
       go_meet
       exact⟨⟨-1,d⟩,s5,true,aI (aI (aI (aI VB9 0 (.int .i64 (-1))) 1 (.int .i64 d.k)) 2 (.int .u64 d.b)) 3 (.string d.t),(((M9.far MB hmz hvm 0 (.int .i64 (-1))).far MB hmz hvm 1 (.int .i64 d.k)).far MB hmz hvm 2 (.int .u64 d.b)).far MB hmz hvm 3 (.string d.t),hmv⟩
    ·have e1:((x:Int) == 255)=false:=by simp;omega
     go_wp2_with fail
     go_meet
     refine⟨⟨(x:Int),Vl.z⟩,s1,am1,VB,M4,J0 ⟨?_,hl1,by show(0:Int)<=0;omega,by show(0:Int)<18446744073709551616;omega⟩⟩
     have h1:=HST.out
     unfold jf
     cases e2:cJ 1 (bl s') with
     |none=>rw[e2] at h1;exact h1
     |some y=>
      rw[e2] at h1
      obtain⟨rfl,h2,h3⟩:=h1
      simp only
      rw[Xy h255]
      exact⟨rfl,h2,h3⟩
   case rest=>
    obtain⟨m,s7,am7,VB7,M7,HI7⟩:=hcut
    rename EQ=>W7
    clear M4 VB HST
    have hown7:=M7.own
    obtain⟨m0,m1,m2,m3,n0,n1,n2,n3⟩:=cV VB7
    obtain⟨k0,k1,k2,g0,g1,g2⟩:=M7.T.f3
    have hcw:=M7.cz
    go_wp2_with (at_builtin;refine Y5 _ rfl _ _ 108 rfl Wc.heap.size 157 i0 (.agg #[.int .i64 0,.int .i64 0,.int .u64 0,.string ⟨#[]⟩]) 4 40 Tryz.underlying108 hi hz0 hz1 hz2 rfl (by decide) _ _ _ rfl (hown7.alloc _) ⟨W7.heap.size,0,none⟩ 1 1 [.int .i64 m.f,.int .i64 m.d.k,.int .u64 m.d.b,.string m.d.t] rfl rfl ?c1 ?c2 ?c3 ?c4 ?c5 ?_)
    case c1=>exact eR _ _ _ _ _ _
    case c2=>intro u hu;simp at hu;rcases hu with rfl|rfl|rfl|rfl <;> rfl
    case c3=>simp only[maxLen];omega
    case c4=>omega
    case c5=>simp;omega
    intro v' w8 hown8 hgrow _
    have BG:Below Wc.heap.size W7 w8:=((Jy _ _).alloc hcw (.cells #[.int .i64 m.f,.int .i64 m.d.k,.int .u64 m.d.b,.string m.d.t] 157)).grown hgrow (by simp;omega) (fun q hq=>aF hown7 q hq)
    have hown9:w8.ownsRow Wc.heap.size 157 4 v' (j+1) (aJ (ms++[m])):=ag hown8 (by simp) (by rw[bu];rfl)
    have P8:=(BG.block _ hbc).trans M7.P
    have Q8:=(BG.block _ hqc).trans M7.Q
    have Z8:=(BG.block _ hzc).trans M7.Z
    have T8:aD w8 tb [.slice O no co,.slice (some fd) nf cF,v] 110:=(BG.block _ htc).trans M7.T
    have B8:Below w.heap.size w w8:=M7.B.trans (BG.mono (by omega))
    have hz78:=BG.size
    obtain⟨Am,cm,rfl,_,_,_⟩:=aL hown9
    clear hown8 hgrow hown7 k0 k1 k2 g0 g1 g2 m0 m1 m2 m3 n0 n1 n2 n3
    obtain⟨k0,k1,k2,g0,g1,g2⟩:=T8.f3
    have hnew:Hid ((ms++[m]).length=j+1/\iG (ms++[m])/\dU am (rC fs (j+1) l) (ms++[m]) (bl s7) am7):=by
     obtain⟨h1,h2,h4⟩:=HI.out
     obtain⟨g1,g2,g3,g4⟩:=HI7.out
     refine J0 ⟨by simp[h1],fun y hy=>?_,te h4 HFF.out g1⟩
     rcases X5.1 hy with h|h
     ·exact h2 y h
     ·simp at h;subst h;exact⟨g3,g4⟩
    have hl7:(bl s7).length<=l.length:=by have:=HI7.out.2.1;omega
    have M9:ri w Wc (w8.setCell ⟨tb,2,none⟩ (.slice Am (j+1) cm)) b q z tb (.string s7) (.bool am7) (.slice O no co) (.slice (some fd) nf cF) (.slice Am (j+1) cm) (j+1) (ms++[m]):=
     ⟨B8.setCell (p:=⟨tb,2,none⟩) htw _,by simp;omega,aD.far P8 (p:=⟨tb,2,none⟩) (by show tb≠b;omega) _,aD.far Q8 (p:=⟨tb,2,none⟩) (by show tb≠q;omega) _,aD.far Z8 (p:=⟨tb,2,none⟩) (by show tb≠z;omega) _,aI T8 2 _,Y3 hown9 (by show tb<_;omega) _⟩
    go_wp2
    go_roundw
    case rel=>exact⟨j+1,ms++[m],_,s7,am7,by omega,by go_num,M9,hl7,hnew⟩
    case measure=>simp[intOf];omega
  ·obtain rfl:j=nf:=by omega
   obtain⟨h1,h2,h3⟩:=HI.out
   obtain⟨Am,cm,rfl,_,_,rM⟩:=aL M.own
   obtain⟨r,hr⟩:∃r,ar ⟨old,fs,ms⟩=r:=⟨_,rfl⟩
   have n16o:no<=16:=by have:=(aQ HFO.out).2;have:=HNO.out;omega
   have fin:∀a3,a3=(am' || !r)->∀W',W'.ownsRow Wc.heap.size 157 4 (.slice Am j cm) j (aJ ms)->Below w.heap.size w W'->Eu am O no co F j cF old fs l w (.returned (.tuple #[.agg #[.string s',.bool a3],.agg #[.slice O no co,.slice F j cF,.slice Am j cm]])) W':=fun a3 h4 W' h5 h6=>⟨s',ms,Am,j,cm,a3,rfl,h1,h2,dj h5 (fun g hg=>by have:=aF h5 g hg;omega),hl',qB (by rw[HNF.out];exact h3) (by rw[hr];exact h4),h6⟩
   have hOr:=HO.out.below M.B
   have hFr:=HF.out.below M.B
   obtain⟨p0,p1,p2,p3⟩:=M.P.f2
   obtain⟨k0,k1,k2,g0,g1,g2⟩:=M.T.f3
   have hzq:z≠q:=hqz.symm
   go_upto_region 15 with fail
   go_cut [77] (fun _ wx=>∃a3,a3=(am' || !r)/\ri w Wc wx b q z tb (.string s') (.bool a3) (.slice O no co) (.slice F j cF) (.slice Am j cm) j ms)
   case first=>
    cases am' with
    |true=>
     go_wp2_with fail
     go_meet
     exact⟨true,rfl,M.put1 MB _⟩
    |false=>
     go_wp2_with (go_at_call 79;refine(eU ⟨old,fs,ms⟩ O F Am co cF cm no j j HNO.out HNF.out h1 (by omega) (by omega) (by omega) h2 (fw HFO.out).fds (fw HFR.out).fds _ hOr hFr rM).mono ?_;rw[hr];rintro e W7 ⟨rfl,hb7⟩;have M7:=M.below hb7;clear p0 p1 p2 p3 k0 k1 k2 g0 g1 g2;obtain⟨p0,p1,p2,p3⟩:=M7.P.f2;obtain⟨k0,k1,k2,g0,g1,g2⟩:=M7.T.f3)
     go_meet
     exact⟨!r,rfl,M7.put1 MB _⟩
   case rest=>
    obtain⟨a3,h4,M9⟩:=hcut
    rename EQ=>W9
    have f:=fin a3 h4
    clear fin p0 p1 p2 p3 k0 k1 k2 g0 g1 g2 h4 h1 h2 h3 hr M
    have own9:=M9.own
    have B9:=M9.B
    obtain⟨p0,p1,p2,p3⟩:=M9.P.f2
    obtain⟨q0,q1,q2,q3⟩:=M9.Q.f2
    obtain⟨z0,z1,z2,z3,z4,z5⟩:=M9.Z.f3
    obtain⟨k0,k1,k2,g0,g1,g2⟩:=M9.T.f3
    go_upto_region 16 with fail
    go_region
    all_goals
     go_wp2
     refine Xx (v:=.tuple #[.agg #[.string s',.bool a3],.agg #[.slice O no co,.slice F j cF,.slice Am j cm]]) (by simp[results,Tryz.results56,go_sem, *];done) rfl (f _ ?_ ?_)
     ·(repeat (first|exact own9|refine Y3 ?_ hqc _|refine Y3 ?_ hzc _))
     ·(repeat (first|exact B9|exact B9.drew|refine J8 ?_ (by first|exact hqw|exact hzw) _|apply Jv))
end
end Go.Proofs.YteembinfgbapgaaGreat
