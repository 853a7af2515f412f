/- Merged out of: Of Og Oh Oi Oj Ok Sa Qf Qg. -/
import Derived.Test.YteembinfgbapgaaGreatE00
import Derived.Test.YteembinfgbapgaaGreatE07
import Derived.Test.YteembinfgbapgaaGreatE01
import Derived.Test.YteembinfgbapgaaGreatE04
import Derived.Deep.Slices
import Derived.ChangeSame
import Derived.Test.YteembinfgbapgaaGreatE06
import Derived.Deep.RegionHeld3
set_option linter.unusedSimpArgs false
set_option linter.unusedVariables false
set_option maxRecDepth 100000
set_option maxHeartbeats 8000000
namespace Go.Proofs.YteembinfgbapgaaGreat
section
open Go.RowKit Go.Lib
theorem pP (l:List Fd) (c:Ch) (m:Nat) (hm:l.length=m) (hl:m<=9223372036854775807) (A:EL) (cA:Nat) (Q:EL) (n qc:Nat) (hn:c.q.length=n) (hn1:n<=17592186044415) (x0:0<=c.d.b) (x1:c.d.b<18446744073709551616) (sl:gL l) (sg:c.g.s.size<=9223372036854775807) (w:EQ) (hA:Rd w A (aC l)) (RQ:Rd w Q (aV c.q)) (hop:c.op=3) (hr:aK l=true) (k:Nat) (hk:aW l c.s=k) (r:Bool) (hrt:aK (l.modify k (fun x:Fd=>(⟨c.g.s,x.k,x.l⟩:Fd)))=r):
 Calls Tryz.prog 154 #[.slice A m cA,.agg #[.int .i64 c.op,.string c.s,.string c.g.s,.int .i64 c.g.k,.int .i64 c.g.l,.int .i64 c.d.k,.int .u64 c.d.b,.string c.d.t,.slice Q n qc]] w fun e w'=>yi (bif r then⟨l,(l.modify k (fun x:Fd=>(⟨c.g.s,x.k,x.l⟩:Fd))),(kM m)⟩ else Tb.z) (bif r then 0 else 80) w e w':=by
 have h16:m<=16:=by rw[<-hm];exact(aQ hr).2
 obtain⟨iF,hiF,hzF0,hzF1,hzF2⟩:=info_parts fI
 obtain⟨iM,hiM,hzM0,hzM1,hzM2⟩:=info_parts iO
 obtain⟨C,N,Z,HB⟩:=dE c Q n qc w
 have hA1:=hA.below HB
 obtain⟨a0,a1,a2,a3,a4,a5,a6,a7,a8⟩:=C.c9
 obtain⟨n1,n2,n3,o1,o2,o3⟩:=N.f3
 obtain⟨i1,i2,i3,j1,j2,j3⟩:=Z.f3
 obtain⟨z,hz⟩:∃z,aW l c.s=z:=⟨_,rfl⟩
 have HZ:=J0 hz
 have HM:=J0 hm
 have HN:=J0 hn
 have y1:decide (c.op<1)=false:=by rw[hop];decide
 have y2:decide (5<c.op)=false:=by rw[hop];decide
 have y3:decide (2<=c.op)=true:=by rw[hop];decide
 have y4:decide (c.op<=4)=true:=by rw[hop];decide
 have y6:(c.op == 3)=true:=by rw[hop];decide
 have y7:(c.op == 4)=false:=by rw[hop];decide
 have y8:(c.op != 2)=true:=by rw[hop];decide
 have y9:(c.op == 1)=false:=by rw[hop];decide
 have ya:(c.op == 5)=false:=by rw[hop];decide
 obtain rfl:z=(k:Int):=by rw[<-hz,hk]
 have y5:decide ((k:Int)<0)=false:=by simp
 have hkm:k<m:=by have:=eE l c.s;omega
 have HR:=J0 hr
 have HRT:=J0 hrt
 clear hr hz hm hn hop hrt hk
 go_enter Tryz.func154,Tryz.ntmps154
 go_wp2_with (first
  |(go_at_call 114;refine(ey A cA m l HM.out c.s k HZ.out _ hA1 hl).mono ?_;rintro e w' ⟨rfl,rfl⟩)
  |(go_at_call 77;refine(ab A cA m l HM.out true HR.out _ hA1 hl sl).mono ?_;rintro e W0 ⟨rfl,hb⟩;replace HB:=HB.trans (hb.mono HB.size);replace hA1:=hA1.below hb;replace C:=C.below hb;replace N:=N.below hb;replace Z:=Z.below hb;clear hb a0 a1 a2 a3 a4 a5 a6 a7 a8 n1 n2 n3 o1 o2 o3 i1 i2 i3 j1 j2 j3;obtain⟨a0,a1,a2,a3,a4,a5,a6,a7,a8⟩:=C.c9;obtain⟨n1,n2,n3,o1,o2,o3⟩:=N.f3;obtain⟨i1,i2,i3,j1,j2,j3⟩:=Z.f3))
 have szW:w.heap.size+2<W0.heap.size:=Z.lt
 have nb:=aA (w:=W0) (.cells #[.slice A m cA,.slice none 0 0,.slice none 0 0] 110)
 have H0:TO w (W0.alloc (.cells #[.slice A m cA,.slice none 0 0,.slice none 0 0] 110)) (W0.heap.size+1) W0.heap.size (.slice A m cA) (.slice none 0 0) (.slice none 0 0) [] [] 110 157:=
  ⟨aD.new W0 _ _,ai _ _ _ _,ai _ _ _ _,fun g hg=>by simp[Value.ownBlock] at hg,Nat.lt_succ_self _,HB.trans (nb.mono HB.size),HB.size⟩
 have C0:=C.below nb
 have N0:=N.below nb
 have Z0:=Z.below nb
 clear nb C N Z HB hA1 a0 a1 a2 a3 a4 a5 a6 a7 a8 n1 n2 n3 o1 o2 o3 i1 i2 i3 j1 j2 j3
 go_loopw [9,10] (fun i _ wr=>∃(j:Nat) (vF vM:ER),j<=m/\i=.int .i64 j/\TO w wr (W0.heap.size+1) W0.heap.size (.slice A m cA) vF vM ((l.take j).modify k (fun x:Fd=>(⟨c.g.s,x.k,x.l⟩:Fd))) (kM j) 110 157/\aD wr (w.heap.size+1) [.slice none 0 0,.slice none 0 0,.slice none 0 0] 110/\aD wr (w.heap.size+2) [.slice none 0 0,.slice none 0 0,.slice none 0 0] 110/\cx wr w.heap.size c (.slice Q n qc) 73) (fun i _ _=>m - (intOf i).toNat)
 case atStart=>exact⟨0,_,_,by omega,rfl,(by simpa[kM] using H0),N0,Z0,C0⟩
 case round=>
  obtain⟨j,vF,vM,hj,rfl,H,N,Z,C⟩:=hrel
  clear H0 N0 Z0 C0
  obtain⟨fs,hfs⟩:∃fs,((l.take j).modify k (fun x:Fd=>(⟨c.g.s,x.k,x.l⟩:Fd)))=fs:=⟨_,rfl⟩
  obtain⟨ms,hms⟩:∃ms,(kM j)=ms:=⟨_,rfl⟩
  rw[hfs,hms] at H
  have HFS:=J0 hfs
  have HMS:=J0 hms
  clear hfs hms
  have hAr:=hA.below H.B
  have RQr:=RQ.below H.B
  by_cases hlt:j<m
  ·obtain⟨f,hf⟩:∃f,l[j]?=some f:=⟨_,J4 (by rw[HM.out];exact hlt)⟩
   obtain⟨ad,rfl,g0,g1,g2⟩:=hAr.fld hf
   have hi0:(0:Int)<=(j:Int):=by omega
   have hi1:(j:Int)<(m:Int):=by omega
   have HF:=J0 hf
   have nu:=aA (w:=wr) (.cells #[.string f.s,.int .i64 f.k,.int .i64 f.l] 68)
   have GB:=aD.new wr [.string f.s,.int .i64 f.k,.int .i64 f.l] 68
   have HU:=H.below nu
   have NU:=N.below nu
   have ZU:=Z.below nu
   have CU:=C.below nu
   have hsz:W0.heap.size<wr.heap.size:=H.lt
   clear hf
   have szF:Hid (fs.length+1<=maxLen/\(fs.length+1) * 32<=140737488355328):=J0 (by have h5:fs.length<=j:=(by rw[<-HFS.out];rw[List.length_modify,Qx];omega);simp only[maxLen];omega)
   have szM:Hid (ms.length+1<=maxLen/\(ms.length+1) * 40<=140737488355328):=J0 (by have h5:ms.length<=j:=(by rw[<-HMS.out,aP];exact J9 _);simp only[maxLen];omega)
   obtain⟨a0,a1,a2,a3,a4,a5,a6,a7,a8⟩:=CU.c9
   have htl:(l.take j).length=j:=(by rw[Qx,HM.out];omega)
   by_cases hjk:j=k
   ·have yk:((j:Int) == (k:Int))=true:=by simp[hjk]
    have yn:((j:Int) != (k:Int))=false:=by simp[hjk]
    have hst:Hid ((l.take (j+1)).modify k (fun x:Fd=>(⟨c.g.s,x.k,x.l⟩:Fd))=(l.take j).modify k (fun x:Fd=>(⟨c.g.s,x.k,x.l⟩:Fd))++[⟨c.g.s,f.k,f.l⟩]):=J0 (by rw[Vv,HF.out];show(l.take j++[f]).modify k _=_;rw[gW,Xz (by omega)])
    have nu2:=aA (w:=wr) (.cells #[.string c.g.s,.int .i64 f.k,.int .i64 f.l] 68)
    have HU2:=H.below nu2
    have NU2:=N.below nu2
    have ZU2:=Z.below nu2
    have CU2:=C.below nu2
    obtain⟨f0,f1,f2,f3,f4,f5,f6,f7,f8⟩:=CU2.c9
    clear hjk
    have nf:=aA (w:=(wr.alloc (.cells #[.string c.g.s,.int .i64 f.k,.int .i64 f.l] 68))) (.cells #[.string c.g.s,.int .i64 f.k,.int .i64 f.l] 68)
    have hbU:W0.heap.size+1<=((wr.alloc (.cells #[.string c.g.s,.int .i64 f.k,.int .i64 f.l] 68))).heap.size:=HU2.lt
    obtain⟨p1,p2,p3,q1,q2,q3⟩:=(HU2.O.below nf).f3
    obtain⟨s1,s2,s3,u1,u2,u3⟩:=HU2.O.f3
    go_wp2_with (first
     |(at_builtin;refine Y4 _ rfl _ _ 27 rfl (W0.heap.size+1) 68 iF (.agg #[.string ⟨#[]⟩,.int .i64 0,.int .i64 0]) 3 32 Tryz.underlying27 hiF hzF0 hzF1 hzF2 rfl (by decide) _ _ _ rfl (aG HU2.F nf) ⟨wr.heap.size+1,0,none⟩ 1 1 [.string c.g.s,.int .i64 f.k,.int .i64 f.l] (by first|rfl|simp) rfl ?c1 ?c2 ?c3 ?c4 ?c5 ?_))
    case c1=>rw[show wr.heap.size+1=((wr.alloc (.cells #[.string c.g.s,.int .i64 f.k,.int .i64 f.l] 68))).heap.size by simp];exact fV _ _ _ _ _
    case c2=>intro u hu;simp at hu;rcases hu with rfl|rfl|rfl <;> rfl
    case c3=>exact(szF.out).1
    case c4=>have:=szF.out.2;omega
    case c5=>have:=nf.size;omega
    intro vF' W5 ownF5 gr5 _ hat5
    obtain⟨O5,H6,fr6⟩:=HU2.addF nf ⟨c.g.s,f.k,f.l⟩ gr5 hbU ownF5 (by first|exact hat5|simpa using hat5)
    obtain⟨F5,c5,rfl,_,_,_⟩:=aL ownF5
    clear p1 p2 p3 q1 q2 q3 s1 s2 s3 u1 u2 u3 ownF5 gr5 hat5
    obtain⟨s1,s2,s3,u1,u2,u3⟩:=O5.f3
    have nm:=aA (w:=W5.setCell ⟨W0.heap.size,1,none⟩ (.slice F5 (fs.length+1) c5)) (.cells #[.int .i64 j,.int .i64 0,.int .u64 0,.string ⟨#[]⟩] 157)
    have hb6:Hid (W0.heap.size+1<=(W5.setCell ⟨W0.heap.size,1,none⟩ (.slice F5 (fs.length+1) c5)).heap.size):=J0 H6.lt
    have z6:Hid (W5.heap.size=(W5.setCell ⟨W0.heap.size,1,none⟩ (.slice F5 (fs.length+1) c5)).heap.size):=J0 (by simp)
    obtain⟨p1,p2,p3,q1,q2,q3⟩:=H6.O.f3
    obtain⟨t1,t2,t3,v1,v2,v3⟩:=(H6.O.below nm).f3
    go_wp2_with (at_builtin;refine Y4 _ rfl _ _ 108 rfl (W0.heap.size+1) 157 iM (.agg #[.int .i64 0,.int .i64 0,.int .u64 0,.string ⟨#[]⟩]) 4 40 Tryz.underlying108 hiM hzM0 hzM1 hzM2 rfl (by decide) _ _ _ rfl (aG H6.M nm) ⟨W5.heap.size,0,none⟩ 1 1 [.int .i64 j,.int .i64 0,.int .u64 0,.string ⟨#[]⟩] rfl rfl ?c1 ?c2 ?c3 ?c4 ?c5 ?_)
    case c1=>rw[z6.out];exact eR _ _ _ _ _ _
    case c2=>intro u hu;simp at hu;rcases hu with rfl|rfl|rfl|rfl <;> rfl
    case c3=>exact(szM.out).1
    case c4=>have:=szM.out.2;omega
    case c5=>have:=nm.size;have:=hb6.out;omega
    intro vM' W7 ownM7 gr7 _ hat7
    obtain⟨O7,H8,fr8⟩:=H6.addM nm ⟨j,Vl.z⟩ gr7 hb6.out ownM7 (by first|exact hat7|simpa using hat7)
    obtain⟨M7,c7,rfl,_,_,_⟩:=aL ownM7
    clear p1 p2 p3 q1 q2 q3 s1 s2 s3 u1 u2 u3 t1 t2 t3 v1 v2 v3 ownM7 gr7 hat7
    obtain⟨s1,s2,s3,u1,u2,u3⟩:=O7.f3
    go_wp2
    go_roundw
    case rel=>
     refine⟨j+1,_,_,by omega,by go_num,(by rw[hst.out,du,HFS.out,HMS.out];exact H8),?_,?_,?_⟩
     ·exact(fr8 _ (by omega) (by omega)).trans ((fr6 _ (by omega) (by omega)).trans NU2)
     ·exact(fr8 _ (by omega) (by omega)).trans ((fr6 _ (by omega) (by omega)).trans ZU2)
     ·exact(fr8 _ (by omega) (by omega)).trans ((fr6 _ (by omega) (by omega)).trans CU2)
    case measure=>simp[intOf];omega
   ·have yk:((j:Int) == (k:Int))=false:=by simp;omega
    have yn:((j:Int) != (k:Int))=true:=by simp;omega
    have hst:Hid ((l.take (j+1)).modify k (fun x:Fd=>(⟨c.g.s,x.k,x.l⟩:Fd))=(l.take j).modify k (fun x:Fd=>(⟨c.g.s,x.k,x.l⟩:Fd))++[f]):=J0 (by rw[Vv,HF.out];show(l.take j++[f]).modify k _=_;rw[gW,Xy (by omega)])
    clear hjk
    have nf:=aA (w:=(wr.alloc (.cells #[.string f.s,.int .i64 f.k,.int .i64 f.l] 68))) (.cells #[.string f.s,.int .i64 f.k,.int .i64 f.l] 68)
    have hbU:W0.heap.size+1<=((wr.alloc (.cells #[.string f.s,.int .i64 f.k,.int .i64 f.l] 68))).heap.size:=HU.lt
    obtain⟨p1,p2,p3,q1,q2,q3⟩:=(HU.O.below nf).f3
    obtain⟨s1,s2,s3,u1,u2,u3⟩:=HU.O.f3
    go_wp2_with (first
     |(at_builtin;refine Y4 _ rfl _ _ 27 rfl (W0.heap.size+1) 68 iF (.agg #[.string ⟨#[]⟩,.int .i64 0,.int .i64 0]) 3 32 Tryz.underlying27 hiF hzF0 hzF1 hzF2 rfl (by decide) _ _ _ rfl (aG HU.F nf) ⟨wr.heap.size+1,0,none⟩ 1 1 [.string f.s,.int .i64 f.k,.int .i64 f.l] (by first|rfl|simp) rfl ?c1 ?c2 ?c3 ?c4 ?c5 ?_))
    case c1=>rw[show wr.heap.size+1=((wr.alloc (.cells #[.string f.s,.int .i64 f.k,.int .i64 f.l] 68))).heap.size by simp];exact fV _ _ _ _ _
    case c2=>intro u hu;simp at hu;rcases hu with rfl|rfl|rfl <;> rfl
    case c3=>exact(szF.out).1
    case c4=>have:=szF.out.2;omega
    case c5=>have:=nf.size;omega
    intro vF' W5 ownF5 gr5 _ hat5
    obtain⟨O5,H6,fr6⟩:=HU.addF nf ⟨f.s,f.k,f.l⟩ gr5 hbU ownF5 (by first|exact hat5|simpa using hat5)
    obtain⟨F5,c5,rfl,_,_,_⟩:=aL ownF5
    clear p1 p2 p3 q1 q2 q3 s1 s2 s3 u1 u2 u3 ownF5 gr5 hat5
    obtain⟨s1,s2,s3,u1,u2,u3⟩:=O5.f3
    have nm:=aA (w:=W5.setCell ⟨W0.heap.size,1,none⟩ (.slice F5 (fs.length+1) c5)) (.cells #[.int .i64 j,.int .i64 0,.int .u64 0,.string ⟨#[]⟩] 157)
    have hb6:Hid (W0.heap.size+1<=(W5.setCell ⟨W0.heap.size,1,none⟩ (.slice F5 (fs.length+1) c5)).heap.size):=J0 H6.lt
    have z6:Hid (W5.heap.size=(W5.setCell ⟨W0.heap.size,1,none⟩ (.slice F5 (fs.length+1) c5)).heap.size):=J0 (by simp)
    obtain⟨p1,p2,p3,q1,q2,q3⟩:=H6.O.f3
    obtain⟨t1,t2,t3,v1,v2,v3⟩:=(H6.O.below nm).f3
    go_wp2_with (at_builtin;refine Y4 _ rfl _ _ 108 rfl (W0.heap.size+1) 157 iM (.agg #[.int .i64 0,.int .i64 0,.int .u64 0,.string ⟨#[]⟩]) 4 40 Tryz.underlying108 hiM hzM0 hzM1 hzM2 rfl (by decide) _ _ _ rfl (aG H6.M nm) ⟨W5.heap.size,0,none⟩ 1 1 [.int .i64 j,.int .i64 0,.int .u64 0,.string ⟨#[]⟩] rfl rfl ?c1 ?c2 ?c3 ?c4 ?c5 ?_)
    case c1=>rw[z6.out];exact eR _ _ _ _ _ _
    case c2=>intro u hu;simp at hu;rcases hu with rfl|rfl|rfl|rfl <;> rfl
    case c3=>exact(szM.out).1
    case c4=>have:=szM.out.2;omega
    case c5=>have:=nm.size;have:=hb6.out;omega
    intro vM' W7 ownM7 gr7 _ hat7
    obtain⟨O7,H8,fr8⟩:=H6.addM nm ⟨j,Vl.z⟩ gr7 hb6.out ownM7 (by first|exact hat7|simpa using hat7)
    obtain⟨M7,c7,rfl,_,_,_⟩:=aL ownM7
    clear p1 p2 p3 q1 q2 q3 s1 s2 s3 u1 u2 u3 t1 t2 t3 v1 v2 v3 ownM7 gr7 hat7
    obtain⟨s1,s2,s3,u1,u2,u3⟩:=O7.f3
    go_wp2
    go_roundw
    case rel=>
     refine⟨j+1,_,_,by omega,by go_num,(by rw[hst.out,du,HFS.out,HMS.out];exact H8),?_,?_,?_⟩
     ·exact(fr8 _ (by omega) (by omega)).trans ((fr6 _ (by omega) (by omega)).trans NU)
     ·exact(fr8 _ (by omega) (by omega)).trans ((fr6 _ (by omega) (by omega)).trans ZU)
     ·exact(fr8 _ (by omega) (by omega)).trans ((fr6 _ (by omega) (by omega)).trans CU)
    case measure=>simp[intOf];omega
  ·obtain rfl:j=m:=by omega
   obtain⟨F5,c5,rfl,_,_,_⟩:=aL H.F
   obtain⟨M7,c7,rfl,_,_,_⟩:=aL H.M
   have HFL:Hid (fs=l.modify k (fun x:Fd=>(⟨c.g.s,x.k,x.l⟩:Fd))):=J0 (by rw[<-HFS.out,Vx (by rw[HM.out];exact J9 _)])
   have HML:Hid (ms=kM j):=J0 (by rw[<-HMS.out])
   have H9:=H
   have N9:=N
   have Z9:=Z
   have C9:=C
   have HFX:Hid (fs=l.modify k (fun x:Fd=>(⟨c.g.s,x.k,x.l⟩:Fd))):=J0 (by rw[HFL.out])
   have HMX:Hid (ms=kM j):=J0 (by rw[HML.out])
   have szX:Hid ((fs).length<=281474976710656):=J0 ((by rw[HFL.out,List.length_modify,HM.out];omega))
   have SFX:Hid (gL (fs)):=J0 ((by rw[HFL.out];exact mq sl fun _ _=>sg))
   generalize hFX:fs=FX at *
   generalize hMX:ms=MX at *
   clear H N Z C
   obtain⟨eF,RF⟩:=be H9.F
   obtain⟨eM,RM⟩:=be H9.M
   have EF:=J0 eF
   have EM:=J0 eM
   clear eF eM RM
   have sz9:W0.heap.size<_:=H9.lt
   have SF:gL FX:=SFX.out
   have hFl:FX.length<=9223372036854775807:=(by have:=szX.out;omega)
   obtain⟨s1,s2,s3,u1,u2,u3⟩:=H9.O.f3
   obtain⟨n1,n2,n3,o1,o2,o3⟩:=N9.f3
   obtain⟨i1,i2,i3,j1,j2,j3⟩:=Z9.f3
   obtain⟨a0,a1,a2,a3,a4,a5,a6,a7,a8⟩:=C9.c9
   cases r
   ·go_wp2_with (go_at_call 77;refine(ab _ _ _ FX (by first|exact EF.out.symm|rfl) false (by rw[HFX.out];exact HRT.out) _ RF (by first|exact hFl|(rw[EF.out];exact hFl)) SF).mono ?_;rintro e wM ⟨rfl,hb⟩;replace H9:=H9.below hb;replace N9:=N9.below hb;replace Z9:=Z9.below hb;clear hb s1 s2 s3 u1 u2 u3 n1 n2 n3 o1 o2 o3 i1 i2 i3 j1 j2 j3 a0 a1 a2 a3 a4 a5 a6 a7 a8;obtain⟨n1,n2,n3,o1,o2,o3⟩:=N9.f3;obtain⟨i1,i2,i3,j1,j2,j3⟩:=Z9.f3)
    refine Xx (v:=.tuple #[.agg #[.slice none 0 0,.slice none 0 0,.slice none 0 0],.int .i64 80]) (by simp[results,Tryz.results154,go_sem, *];done) rfl ⟨_,_,_,_,_,_,_,_,_,rfl,gP.z _ _,?_⟩
    exact((H9.B.setCell (by show w.heap.size<=w.heap.size+1;omega) _).setCell (by show w.heap.size<=w.heap.size+1;omega) _).setCell (by show w.heap.size<=w.heap.size+1;omega) _
   ·go_wp2_with (go_at_call 77;refine(ab _ _ _ FX (by first|exact EF.out.symm|rfl) true (by rw[HFX.out];exact HRT.out) _ RF (by first|exact hFl|(rw[EF.out];exact hFl)) SF).mono ?_;rintro e wM ⟨rfl,hb⟩;replace H9:=H9.below hb;replace N9:=N9.below hb;clear hb s1 s2 s3 u1 u2 u3 n1 n2 n3 o1 o2 o3 i1 i2 i3 j1 j2 j3 a0 a1 a2 a3 a4 a5 a6 a7 a8;obtain⟨n1,n2,n3,o1,o2,o3⟩:=N9.f3;obtain⟨s1,s2,s3,u1,u2,u3⟩:=H9.O.f3)
    have BF:=aF H9.F
    have BM:=aF H9.M
    refine Xx (v:=.tuple #[.agg #[.slice A j cA,.slice F5 FX.length c5,.slice M7 MX.length c7],.int .i64 0]) (by simp[results,Tryz.results154,go_sem, *];done) rfl ⟨_,_,_,_,_,_,_,_,_,rfl,?_,?_⟩
    ·refine jW (t:=⟨l,_,_⟩) HM.out ?_ (fun _ _=>trivial) (ag (aN H9.F fun g hg=>?_) (by first|exact EF.out.symm|rfl) (by rw[HFX.out])) (by first|rw[EF.out,<-HFX.out]|rw[<-HFX.out]) (fun _ _=>trivial) (ag (aN H9.M fun g hg=>?_) (by first|exact EM.out.symm|rfl) (by rw[HMX.out])) (by first|rw[EM.out,<-HMX.out]|rw[<-HMX.out]) (fun _ _=>trivial)
     ·exact hA.below (((H9.B.setCell (by show w.heap.size<=w.heap.size+1;omega) _).setCell (by show w.heap.size<=w.heap.size+1;omega) _).setCell (by show w.heap.size<=w.heap.size+1;omega) _)
     ·have h:=BF g hg
      exact(J5 _ _ _ _ (by show g≠w.heap.size+1;omega)).trans ((J5 _ _ _ _ (by show g≠w.heap.size+1;omega)).trans (J5 _ _ _ _ (by show g≠w.heap.size+1;omega)))
     ·have h:=BM g hg
      exact(J5 _ _ _ _ (by show g≠w.heap.size+1;omega)).trans ((J5 _ _ _ _ (by show g≠w.heap.size+1;omega)).trans (J5 _ _ _ _ (by show g≠w.heap.size+1;omega)))
    ·exact((H9.B.setCell (by show w.heap.size<=w.heap.size+1;omega) _).setCell (by show w.heap.size<=w.heap.size+1;omega) _).setCell (by show w.heap.size<=w.heap.size+1;omega) _
theorem km (l:List Fd) (c:Ch) (m:Nat) (hm:l.length=m) (hl:m<=9223372036854775807) (A:EL) (cA:Nat) (Q:EL) (n qc:Nat) (hn:c.q.length=n) (hn1:n<=17592186044415) (x0:0<=c.d.b) (x1:c.d.b<18446744073709551616) (sl:gL l) (sg:c.g.s.size<=9223372036854775807) (w:EQ) (hA:Rd w A (aC l)) (RQ:Rd w Q (aV c.q)) (hop:c.op=4) (hr:aK l=true) (k:Nat) (hk:aW l c.s=k) (fk:Fd) (hfk:l[k]?=some fk) (hv:aU fk.k fk.l c.g.k c.g.l=true) (r:Bool) (hrt:aK (l.modify k (fun x:Fd=>(⟨x.s,c.g.k,c.g.l⟩:Fd)))=r):
 Calls Tryz.prog 154 #[.slice A m cA,.agg #[.int .i64 c.op,.string c.s,.string c.g.s,.int .i64 c.g.k,.int .i64 c.g.l,.int .i64 c.d.k,.int .u64 c.d.b,.string c.d.t,.slice Q n qc]] w fun e w'=>yi (bif r then⟨l,(l.modify k (fun x:Fd=>(⟨x.s,c.g.k,c.g.l⟩:Fd))),(kM m)⟩ else Tb.z) (bif r then 0 else 80) w e w':=by
 have h16:m<=16:=by rw[<-hm];exact(aQ hr).2
 obtain⟨iF,hiF,hzF0,hzF1,hzF2⟩:=info_parts fI
 obtain⟨iM,hiM,hzM0,hzM1,hzM2⟩:=info_parts iO
 obtain⟨C,N,Z,HB⟩:=dE c Q n qc w
 have hA1:=hA.below HB
 obtain⟨a0,a1,a2,a3,a4,a5,a6,a7,a8⟩:=C.c9
 obtain⟨n1,n2,n3,o1,o2,o3⟩:=N.f3
 obtain⟨i1,i2,i3,j1,j2,j3⟩:=Z.f3
 obtain⟨z,hz⟩:∃z,aW l c.s=z:=⟨_,rfl⟩
 have HZ:=J0 hz
 have HM:=J0 hm
 have HN:=J0 hn
 have y1:decide (c.op<1)=false:=by rw[hop];decide
 have y2:decide (5<c.op)=false:=by rw[hop];decide
 have y3:decide (2<=c.op)=true:=by rw[hop];decide
 have y4:decide (c.op<=4)=true:=by rw[hop];decide
 have y6:(c.op == 3)=false:=by rw[hop];decide
 have y7:(c.op == 4)=true:=by rw[hop];decide
 have y8:(c.op != 2)=true:=by rw[hop];decide
 have y9:(c.op == 1)=false:=by rw[hop];decide
 have ya:(c.op == 5)=false:=by rw[hop];decide
 obtain rfl:z=(k:Int):=by rw[<-hz,hk]
 have y5:decide ((k:Int)<0)=false:=by simp
 have hkm:k<m:=by have:=eE l c.s;omega
 have HFK:=J0 hfk
 have HVK:=J0 hv
 clear hfk hv
 have HR:=J0 hr
 have HRT:=J0 hrt
 clear hr hz hm hn hop hrt hk
 go_enter Tryz.func154,Tryz.ntmps154
 go_wp2_with (first
  |(go_at_call 114;refine(ey A cA m l HM.out c.s k HZ.out _ hA1 hl).mono ?_;rintro e w' ⟨rfl,rfl⟩)
  |(go_at_call 77;refine(ab A cA m l HM.out true HR.out _ hA1 hl sl).mono ?_;rintro e W0 ⟨rfl,hb⟩;replace HB:=HB.trans (hb.mono HB.size);replace hA1:=hA1.below hb;replace C:=C.below hb;replace N:=N.below hb;replace Z:=Z.below hb;clear hb a0 a1 a2 a3 a4 a5 a6 a7 a8 n1 n2 n3 o1 o2 o3 i1 i2 i3 j1 j2 j3;obtain⟨a0,a1,a2,a3,a4,a5,a6,a7,a8⟩:=C.c9;obtain⟨n1,n2,n3,o1,o2,o3⟩:=N.f3;obtain⟨i1,i2,i3,j1,j2,j3⟩:=Z.f3))
 have szW:w.heap.size+2<W0.heap.size:=Z.lt
 have nb:=aA (w:=W0) (.cells #[.slice A m cA,.slice none 0 0,.slice none 0 0] 110)
 have H0:TO w (W0.alloc (.cells #[.slice A m cA,.slice none 0 0,.slice none 0 0] 110)) (W0.heap.size+1) W0.heap.size (.slice A m cA) (.slice none 0 0) (.slice none 0 0) [] [] 110 157:=
  ⟨aD.new W0 _ _,ai _ _ _ _,ai _ _ _ _,fun g hg=>by simp[Value.ownBlock] at hg,Nat.lt_succ_self _,HB.trans (nb.mono HB.size),HB.size⟩
 have C0:=C.below nb
 have N0:=N.below nb
 have Z0:=Z.below nb
 clear nb C N Z HB hA1 a0 a1 a2 a3 a4 a5 a6 a7 a8 n1 n2 n3 o1 o2 o3 i1 i2 i3 j1 j2 j3
 go_loopw [9,10] (fun i _ wr=>∃(j:Nat) (vF vM:ER),j<=m/\i=.int .i64 j/\TO w wr (W0.heap.size+1) W0.heap.size (.slice A m cA) vF vM ((l.take j).modify k (fun x:Fd=>(⟨x.s,c.g.k,c.g.l⟩:Fd))) (kM j) 110 157/\aD wr (w.heap.size+1) [.slice none 0 0,.slice none 0 0,.slice none 0 0] 110/\aD wr (w.heap.size+2) [.slice none 0 0,.slice none 0 0,.slice none 0 0] 110/\cx wr w.heap.size c (.slice Q n qc) 73) (fun i _ _=>m - (intOf i).toNat)
 case atStart=>exact⟨0,_,_,by omega,rfl,(by simpa[kM] using H0),N0,Z0,C0⟩
 case round=>
  obtain⟨j,vF,vM,hj,rfl,H,N,Z,C⟩:=hrel
  clear H0 N0 Z0 C0
  obtain⟨fs,hfs⟩:∃fs,((l.take j).modify k (fun x:Fd=>(⟨x.s,c.g.k,c.g.l⟩:Fd)))=fs:=⟨_,rfl⟩
  obtain⟨ms,hms⟩:∃ms,(kM j)=ms:=⟨_,rfl⟩
  rw[hfs,hms] at H
  have HFS:=J0 hfs
  have HMS:=J0 hms
  clear hfs hms
  have hAr:=hA.below H.B
  have RQr:=RQ.below H.B
  by_cases hlt:j<m
  ·obtain⟨f,hf⟩:∃f,l[j]?=some f:=⟨_,J4 (by rw[HM.out];exact hlt)⟩
   obtain⟨ad,rfl,g0,g1,g2⟩:=hAr.fld hf
   have hi0:(0:Int)<=(j:Int):=by omega
   have hi1:(j:Int)<(m:Int):=by omega
   have HF:=J0 hf
   have nu:=aA (w:=wr) (.cells #[.string f.s,.int .i64 f.k,.int .i64 f.l] 68)
   have GB:=aD.new wr [.string f.s,.int .i64 f.k,.int .i64 f.l] 68
   have HU:=H.below nu
   have NU:=N.below nu
   have ZU:=Z.below nu
   have CU:=C.below nu
   have hsz:W0.heap.size<wr.heap.size:=H.lt
   clear hf
   have szF:Hid (fs.length+1<=maxLen/\(fs.length+1) * 32<=140737488355328):=J0 (by have h5:fs.length<=j:=(by rw[<-HFS.out];rw[List.length_modify,Qx];omega);simp only[maxLen];omega)
   have szM:Hid (ms.length+1<=maxLen/\(ms.length+1) * 40<=140737488355328):=J0 (by have h5:ms.length<=j:=(by rw[<-HMS.out,aP];exact J9 _);simp only[maxLen];omega)
   obtain⟨a0,a1,a2,a3,a4,a5,a6,a7,a8⟩:=CU.c9
   have htl:(l.take j).length=j:=(by rw[Qx,HM.out];omega)
   by_cases hjk:j=k
   ·have yk:((j:Int) == (k:Int))=true:=by simp[hjk]
    have yn:((j:Int) != (k:Int))=false:=by simp[hjk]
    have hst:Hid ((l.take (j+1)).modify k (fun x:Fd=>(⟨x.s,c.g.k,c.g.l⟩:Fd))=(l.take j).modify k (fun x:Fd=>(⟨x.s,c.g.k,c.g.l⟩:Fd))++[⟨f.s,c.g.k,c.g.l⟩]):=J0 (by rw[Vv,HF.out];show(l.take j++[f]).modify k _=_;rw[gW,Xz (by omega)])
    have HV:Hid (aU f.k f.l c.g.k c.g.l=true):=J0 (by have h5:=HF.out;rw[hjk,HFK.out] at h5;have h6:=Jj h5;rw[<-h6];exact HVK.out)
    clear hjk
    have hwr:w.heap.size<wr.heap.size:=(by have:=H.hob;omega)
    go_upto_region 22 with (go_at_call 116;refine(bf f.s c.g.s f.k f.l c.g.k c.g.l true HV.out _).mono ?_;rintro e wM ⟨rfl,hb⟩;have HU1:=HU.below hb;have NU1:=NU.below hb;have ZU1:=ZU.below hb;have CU1:=CU.below hb;have GB1:=GB.below hb;obtain⟨i1,i2,i3,j1,j2,j3⟩:=ZU1.f3;obtain⟨n1,n2,n3,o1,o2,o3⟩:=NU1.f3;obtain⟨f0,f1,f2,f3,f4,f5,f6,f7,f8⟩:=CU1.c9;obtain⟨k1,k2,k3,l1,l2,l3⟩:=GB1.f3;have CU2:cx (wM.setCell ⟨wr.heap.size,1,none⟩ (.int .i64 c.g.k)) w.heap.size c (.slice Q n qc) 73:=(J5 _ _ _ _ (by show w.heap.size≠wr.heap.size;omega)).trans CU1;obtain⟨h0,h1,h2,h3,h4,h5,h6,h7,h8⟩:=CU2.c9;have GB2:=aI GB1 1 (.int .i64 c.g.k);obtain⟨m1,m2,m3,r1,r2,r3⟩:=GB2.f3)
    have nF:vF.ownBlock≠some wr.heap.size:=fun e=>(by have:=(H.ltF _ e).2;omega)
    have nM:vM.ownBlock≠some wr.heap.size:=fun e=>(by have:=(H.ltM _ e).2;omega)
    have HU3:=(HU1.store 1 (.int .i64 c.g.k) (b:=wr.heap.size) (Nat.le_of_lt hwr) (by omega) nF nM).store 2 (.int .i64 c.g.l) (b:=wr.heap.size) (Nat.le_of_lt hwr) (by omega) nF nM
    have GB3:=aI GB2 2 (.int .i64 c.g.l)
    have CU3:cx ((wM.setCell ⟨wr.heap.size,1,none⟩ (.int .i64 c.g.k)).setCell ⟨wr.heap.size,2,none⟩ (.int .i64 c.g.l)) w.heap.size c (.slice Q n qc) 73:=(J5 _ _ _ _ (by show w.heap.size≠wr.heap.size;omega)).trans CU2
    have NU3:aD ((wM.setCell ⟨wr.heap.size,1,none⟩ (.int .i64 c.g.k)).setCell ⟨wr.heap.size,2,none⟩ (.int .i64 c.g.l)) (w.heap.size+1) [.slice none 0 0,.slice none 0 0,.slice none 0 0] 110:=(J5 _ _ _ _ (by show w.heap.size+1≠wr.heap.size;omega)).trans ((J5 _ _ _ _ (by show w.heap.size+1≠wr.heap.size;omega)).trans NU1)
    have ZU3:aD ((wM.setCell ⟨wr.heap.size,1,none⟩ (.int .i64 c.g.k)).setCell ⟨wr.heap.size,2,none⟩ (.int .i64 c.g.l)) (w.heap.size+2) [.slice none 0 0,.slice none 0 0,.slice none 0 0] 110:=(J5 _ _ _ _ (by show w.heap.size+2≠wr.heap.size;omega)).trans ((J5 _ _ _ _ (by show w.heap.size+2≠wr.heap.size;omega)).trans ZU1)
    clear i1 i2 i3 j1 j2 j3 n1 n2 n3 o1 o2 o3 f0 f1 f2 f3 f4 f5 f6 f7 f8 k1 k2 k3 l1 l2 l3 h0 h1 h2 h3 h4 h5 h6 h7 h8 m1 m2 m3 r1 r2 r3 a0 a1 a2 a3 a4 a5 a6 a7 a8 GB GB1 GB2 CU1 CU2 NU1 ZU1 HU1
    generalize ((wM.setCell ⟨wr.heap.size,1,none⟩ (.int .i64 c.g.k)).setCell ⟨wr.heap.size,2,none⟩ (.int .i64 c.g.l))=U at *
    obtain⟨k1,k2,k3,l1,l2,l3⟩:=GB3.f3
    have nf:=aA (w:=U) (.cells #[.string f.s,.int .i64 c.g.k,.int .i64 c.g.l] 68)
    have hbU:W0.heap.size+1<=(U).heap.size:=HU3.lt
    obtain⟨p1,p2,p3,q1,q2,q3⟩:=(HU3.O.below nf).f3
    obtain⟨s1,s2,s3,u1,u2,u3⟩:=HU3.O.f3
    go_wp2_with (first
     |(at_builtin;refine Y4 _ rfl _ _ 27 rfl (W0.heap.size+1) 68 iF (.agg #[.string ⟨#[]⟩,.int .i64 0,.int .i64 0]) 3 32 Tryz.underlying27 hiF hzF0 hzF1 hzF2 rfl (by decide) _ _ _ rfl (aG HU3.F nf) ⟨U.heap.size,0,none⟩ 1 1 [.string f.s,.int .i64 c.g.k,.int .i64 c.g.l] (by first|rfl|simp) rfl ?c1 ?c2 ?c3 ?c4 ?c5 ?_))
    case c1=>exact fV _ _ _ _ _
    case c2=>intro u hu;simp at hu;rcases hu with rfl|rfl|rfl <;> rfl
    case c3=>exact(szF.out).1
    case c4=>have:=szF.out.2;omega
    case c5=>have:=nf.size;omega
    intro vF' W5 ownF5 gr5 _ hat5
    obtain⟨O5,H6,fr6⟩:=HU3.addF nf ⟨f.s,c.g.k,c.g.l⟩ gr5 hbU ownF5 (by first|exact hat5|simpa using hat5)
    obtain⟨F5,c5,rfl,_,_,_⟩:=aL ownF5
    clear p1 p2 p3 q1 q2 q3 s1 s2 s3 u1 u2 u3 ownF5 gr5 hat5
    obtain⟨s1,s2,s3,u1,u2,u3⟩:=O5.f3
    have nm:=aA (w:=W5.setCell ⟨W0.heap.size,1,none⟩ (.slice F5 (fs.length+1) c5)) (.cells #[.int .i64 j,.int .i64 0,.int .u64 0,.string ⟨#[]⟩] 157)
    have hb6:Hid (W0.heap.size+1<=(W5.setCell ⟨W0.heap.size,1,none⟩ (.slice F5 (fs.length+1) c5)).heap.size):=J0 H6.lt
    have z6:Hid (W5.heap.size=(W5.setCell ⟨W0.heap.size,1,none⟩ (.slice F5 (fs.length+1) c5)).heap.size):=J0 (by simp)
    obtain⟨p1,p2,p3,q1,q2,q3⟩:=H6.O.f3
    obtain⟨t1,t2,t3,v1,v2,v3⟩:=(H6.O.below nm).f3
    go_wp2_with (at_builtin;refine Y4 _ rfl _ _ 108 rfl (W0.heap.size+1) 157 iM (.agg #[.int .i64 0,.int .i64 0,.int .u64 0,.string ⟨#[]⟩]) 4 40 Tryz.underlying108 hiM hzM0 hzM1 hzM2 rfl (by decide) _ _ _ rfl (aG H6.M nm) ⟨W5.heap.size,0,none⟩ 1 1 [.int .i64 j,.int .i64 0,.int .u64 0,.string ⟨#[]⟩] rfl rfl ?c1 ?c2 ?c3 ?c4 ?c5 ?_)
    case c1=>rw[z6.out];exact eR _ _ _ _ _ _
    case c2=>intro u hu;simp at hu;rcases hu with rfl|rfl|rfl|rfl <;> rfl
    case c3=>exact(szM.out).1
    case c4=>have:=szM.out.2;omega
    case c5=>have:=nm.size;have:=hb6.out;omega
    intro vM' W7 ownM7 gr7 _ hat7
    obtain⟨O7,H8,fr8⟩:=H6.addM nm ⟨j,Vl.z⟩ gr7 hb6.out ownM7 (by first|exact hat7|simpa using hat7)
    obtain⟨M7,c7,rfl,_,_,_⟩:=aL ownM7
    clear p1 p2 p3 q1 q2 q3 s1 s2 s3 u1 u2 u3 t1 t2 t3 v1 v2 v3 ownM7 gr7 hat7
    obtain⟨s1,s2,s3,u1,u2,u3⟩:=O7.f3
    go_wp2
    go_roundw
    case rel=>
     refine⟨j+1,_,_,by omega,by go_num,(by rw[hst.out,du,HFS.out,HMS.out];exact H8),?_,?_,?_⟩
     ·exact(fr8 _ (by omega) (by omega)).trans ((fr6 _ (by omega) (by omega)).trans NU3)
     ·exact(fr8 _ (by omega) (by omega)).trans ((fr6 _ (by omega) (by omega)).trans ZU3)
     ·exact(fr8 _ (by omega) (by omega)).trans ((fr6 _ (by omega) (by omega)).trans CU3)
    case measure=>simp[intOf];omega
   ·have yk:((j:Int) == (k:Int))=false:=by simp;omega
    have yn:((j:Int) != (k:Int))=true:=by simp;omega
    have hst:Hid ((l.take (j+1)).modify k (fun x:Fd=>(⟨x.s,c.g.k,c.g.l⟩:Fd))=(l.take j).modify k (fun x:Fd=>(⟨x.s,c.g.k,c.g.l⟩:Fd))++[f]):=J0 (by rw[Vv,HF.out];show(l.take j++[f]).modify k _=_;rw[gW,Xy (by omega)])
    clear hjk
    have nf:=aA (w:=(wr.alloc (.cells #[.string f.s,.int .i64 f.k,.int .i64 f.l] 68))) (.cells #[.string f.s,.int .i64 f.k,.int .i64 f.l] 68)
    have hbU:W0.heap.size+1<=((wr.alloc (.cells #[.string f.s,.int .i64 f.k,.int .i64 f.l] 68))).heap.size:=HU.lt
    obtain⟨p1,p2,p3,q1,q2,q3⟩:=(HU.O.below nf).f3
    obtain⟨s1,s2,s3,u1,u2,u3⟩:=HU.O.f3
    go_wp2_with (first
     |(at_builtin;refine Y4 _ rfl _ _ 27 rfl (W0.heap.size+1) 68 iF (.agg #[.string ⟨#[]⟩,.int .i64 0,.int .i64 0]) 3 32 Tryz.underlying27 hiF hzF0 hzF1 hzF2 rfl (by decide) _ _ _ rfl (aG HU.F nf) ⟨wr.heap.size+1,0,none⟩ 1 1 [.string f.s,.int .i64 f.k,.int .i64 f.l] (by first|rfl|simp) rfl ?c1 ?c2 ?c3 ?c4 ?c5 ?_))
    case c1=>rw[show wr.heap.size+1=((wr.alloc (.cells #[.string f.s,.int .i64 f.k,.int .i64 f.l] 68))).heap.size by simp];exact fV _ _ _ _ _
    case c2=>intro u hu;simp at hu;rcases hu with rfl|rfl|rfl <;> rfl
    case c3=>exact(szF.out).1
    case c4=>have:=szF.out.2;omega
    case c5=>have:=nf.size;omega
    intro vF' W5 ownF5 gr5 _ hat5
    obtain⟨O5,H6,fr6⟩:=HU.addF nf ⟨f.s,f.k,f.l⟩ gr5 hbU ownF5 (by first|exact hat5|simpa using hat5)
    obtain⟨F5,c5,rfl,_,_,_⟩:=aL ownF5
    clear p1 p2 p3 q1 q2 q3 s1 s2 s3 u1 u2 u3 ownF5 gr5 hat5
    obtain⟨s1,s2,s3,u1,u2,u3⟩:=O5.f3
    have nm:=aA (w:=W5.setCell ⟨W0.heap.size,1,none⟩ (.slice F5 (fs.length+1) c5)) (.cells #[.int .i64 j,.int .i64 0,.int .u64 0,.string ⟨#[]⟩] 157)
    have hb6:Hid (W0.heap.size+1<=(W5.setCell ⟨W0.heap.size,1,none⟩ (.slice F5 (fs.length+1) c5)).heap.size):=J0 H6.lt
    have z6:Hid (W5.heap.size=(W5.setCell ⟨W0.heap.size,1,none⟩ (.slice F5 (fs.length+1) c5)).heap.size):=J0 (by simp)
    obtain⟨p1,p2,p3,q1,q2,q3⟩:=H6.O.f3
    obtain⟨t1,t2,t3,v1,v2,v3⟩:=(H6.O.below nm).f3
    go_wp2_with (at_builtin;refine Y4 _ rfl _ _ 108 rfl (W0.heap.size+1) 157 iM (.agg #[.int .i64 0,.int .i64 0,.int .u64 0,.string ⟨#[]⟩]) 4 40 Tryz.underlying108 hiM hzM0 hzM1 hzM2 rfl (by decide) _ _ _ rfl (aG H6.M nm) ⟨W5.heap.size,0,none⟩ 1 1 [.int .i64 j,.int .i64 0,.int .u64 0,.string ⟨#[]⟩] rfl rfl ?c1 ?c2 ?c3 ?c4 ?c5 ?_)
    case c1=>rw[z6.out];exact eR _ _ _ _ _ _
    case c2=>intro u hu;simp at hu;rcases hu with rfl|rfl|rfl|rfl <;> rfl
    case c3=>exact(szM.out).1
    case c4=>have:=szM.out.2;omega
    case c5=>have:=nm.size;have:=hb6.out;omega
    intro vM' W7 ownM7 gr7 _ hat7
    obtain⟨O7,H8,fr8⟩:=H6.addM nm ⟨j,Vl.z⟩ gr7 hb6.out ownM7 (by first|exact hat7|simpa using hat7)
    obtain⟨M7,c7,rfl,_,_,_⟩:=aL ownM7
    clear p1 p2 p3 q1 q2 q3 s1 s2 s3 u1 u2 u3 t1 t2 t3 v1 v2 v3 ownM7 gr7 hat7
    obtain⟨s1,s2,s3,u1,u2,u3⟩:=O7.f3
    go_wp2
    go_roundw
    case rel=>
     refine⟨j+1,_,_,by omega,by go_num,(by rw[hst.out,du,HFS.out,HMS.out];exact H8),?_,?_,?_⟩
     ·exact(fr8 _ (by omega) (by omega)).trans ((fr6 _ (by omega) (by omega)).trans NU)
     ·exact(fr8 _ (by omega) (by omega)).trans ((fr6 _ (by omega) (by omega)).trans ZU)
     ·exact(fr8 _ (by omega) (by omega)).trans ((fr6 _ (by omega) (by omega)).trans CU)
    case measure=>simp[intOf];omega
  ·obtain rfl:j=m:=by omega
   obtain⟨F5,c5,rfl,_,_,_⟩:=aL H.F
   obtain⟨M7,c7,rfl,_,_,_⟩:=aL H.M
   have HFL:Hid (fs=l.modify k (fun x:Fd=>(⟨x.s,c.g.k,c.g.l⟩:Fd))):=J0 (by rw[<-HFS.out,Vx (by rw[HM.out];exact J9 _)])
   have HML:Hid (ms=kM j):=J0 (by rw[<-HMS.out])
   have H9:=H
   have N9:=N
   have Z9:=Z
   have C9:=C
   have HFX:Hid (fs=l.modify k (fun x:Fd=>(⟨x.s,c.g.k,c.g.l⟩:Fd))):=J0 (by rw[HFL.out])
   have HMX:Hid (ms=kM j):=J0 (by rw[HML.out])
   have szX:Hid ((fs).length<=281474976710656):=J0 ((by rw[HFL.out,List.length_modify,HM.out];omega))
   have SFX:Hid (gL (fs)):=J0 ((by rw[HFL.out];exact mq sl fun f hf=>sl f hf))
   generalize hFX:fs=FX at *
   generalize hMX:ms=MX at *
   clear H N Z C
   obtain⟨eF,RF⟩:=be H9.F
   obtain⟨eM,RM⟩:=be H9.M
   have EF:=J0 eF
   have EM:=J0 eM
   clear eF eM RM
   have sz9:W0.heap.size<_:=H9.lt
   have SF:gL FX:=SFX.out
   have hFl:FX.length<=9223372036854775807:=(by have:=szX.out;omega)
   obtain⟨s1,s2,s3,u1,u2,u3⟩:=H9.O.f3
   obtain⟨n1,n2,n3,o1,o2,o3⟩:=N9.f3
   obtain⟨i1,i2,i3,j1,j2,j3⟩:=Z9.f3
   obtain⟨a0,a1,a2,a3,a4,a5,a6,a7,a8⟩:=C9.c9
   cases r
   ·go_wp2_with (go_at_call 77;refine(ab _ _ _ FX (by first|exact EF.out.symm|rfl) false (by rw[HFX.out];exact HRT.out) _ RF (by first|exact hFl|(rw[EF.out];exact hFl)) SF).mono ?_;rintro e wM ⟨rfl,hb⟩;replace H9:=H9.below hb;replace N9:=N9.below hb;replace Z9:=Z9.below hb;clear hb s1 s2 s3 u1 u2 u3 n1 n2 n3 o1 o2 o3 i1 i2 i3 j1 j2 j3 a0 a1 a2 a3 a4 a5 a6 a7 a8;obtain⟨n1,n2,n3,o1,o2,o3⟩:=N9.f3;obtain⟨i1,i2,i3,j1,j2,j3⟩:=Z9.f3)
    refine Xx (v:=.tuple #[.agg #[.slice none 0 0,.slice none 0 0,.slice none 0 0],.int .i64 80]) (by simp[results,Tryz.results154,go_sem, *];done) rfl ⟨_,_,_,_,_,_,_,_,_,rfl,gP.z _ _,?_⟩
    exact((H9.B.setCell (by show w.heap.size<=w.heap.size+1;omega) _).setCell (by show w.heap.size<=w.heap.size+1;omega) _).setCell (by show w.heap.size<=w.heap.size+1;omega) _
   ·go_wp2_with (go_at_call 77;refine(ab _ _ _ FX (by first|exact EF.out.symm|rfl) true (by rw[HFX.out];exact HRT.out) _ RF (by first|exact hFl|(rw[EF.out];exact hFl)) SF).mono ?_;rintro e wM ⟨rfl,hb⟩;replace H9:=H9.below hb;replace N9:=N9.below hb;clear hb s1 s2 s3 u1 u2 u3 n1 n2 n3 o1 o2 o3 i1 i2 i3 j1 j2 j3 a0 a1 a2 a3 a4 a5 a6 a7 a8;obtain⟨n1,n2,n3,o1,o2,o3⟩:=N9.f3;obtain⟨s1,s2,s3,u1,u2,u3⟩:=H9.O.f3)
    have BF:=aF H9.F
    have BM:=aF H9.M
    refine Xx (v:=.tuple #[.agg #[.slice A j cA,.slice F5 FX.length c5,.slice M7 MX.length c7],.int .i64 0]) (by simp[results,Tryz.results154,go_sem, *];done) rfl ⟨_,_,_,_,_,_,_,_,_,rfl,?_,?_⟩
    ·refine jW (t:=⟨l,_,_⟩) HM.out ?_ (fun _ _=>trivial) (ag (aN H9.F fun g hg=>?_) (by first|exact EF.out.symm|rfl) (by rw[HFX.out])) (by first|rw[EF.out,<-HFX.out]|rw[<-HFX.out]) (fun _ _=>trivial) (ag (aN H9.M fun g hg=>?_) (by first|exact EM.out.symm|rfl) (by rw[HMX.out])) (by first|rw[EM.out,<-HMX.out]|rw[<-HMX.out]) (fun _ _=>trivial)
     ·exact hA.below (((H9.B.setCell (by show w.heap.size<=w.heap.size+1;omega) _).setCell (by show w.heap.size<=w.heap.size+1;omega) _).setCell (by show w.heap.size<=w.heap.size+1;omega) _)
     ·have h:=BF g hg
      exact(J5 _ _ _ _ (by show g≠w.heap.size+1;omega)).trans ((J5 _ _ _ _ (by show g≠w.heap.size+1;omega)).trans (J5 _ _ _ _ (by show g≠w.heap.size+1;omega)))
     ·have h:=BM g hg
      exact(J5 _ _ _ _ (by show g≠w.heap.size+1;omega)).trans ((J5 _ _ _ _ (by show g≠w.heap.size+1;omega)).trans (J5 _ _ _ _ (by show g≠w.heap.size+1;omega)))
    ·exact((H9.B.setCell (by show w.heap.size<=w.heap.size+1;omega) _).setCell (by show w.heap.size<=w.heap.size+1;omega) _).setCell (by show w.heap.size<=w.heap.size+1;omega) _
theorem lP (l:List Fd) (c:Ch) (m:Nat) (hm:l.length=m) (hl:m<=9223372036854775807) (A:EL) (cA:Nat) (Q:EL) (n qc:Nat) (hn:c.q.length=n) (hn1:n<=17592186044415) (x0:0<=c.d.b) (x1:c.d.b<18446744073709551616) (sl:gL l) (sg:c.g.s.size<=9223372036854775807) (w:EQ) (hA:Rd w A (aC l)) (RQ:Rd w Q (aV c.q)) (hop:c.op=4) (hr:aK l=true) (k:Nat) (hk:aW l c.s=k) (fk:Fd) (hfk:l[k]?=some fk) (hv:aU fk.k fk.l c.g.k c.g.l=false):
 Calls Tryz.prog 154 #[.slice A m cA,.agg #[.int .i64 c.op,.string c.s,.string c.g.s,.int .i64 c.g.k,.int .i64 c.g.l,.int .i64 c.d.k,.int .u64 c.d.b,.string c.d.t,.slice Q n qc]] w fun e w'=>yi Tb.z 80 w e w':=by
 have h16:m<=16:=by rw[<-hm];exact(aQ hr).2
 obtain⟨iF,hiF,hzF0,hzF1,hzF2⟩:=info_parts fI
 obtain⟨iM,hiM,hzM0,hzM1,hzM2⟩:=info_parts iO
 obtain⟨C,N,Z,HB⟩:=dE c Q n qc w
 have hA1:=hA.below HB
 obtain⟨a0,a1,a2,a3,a4,a5,a6,a7,a8⟩:=C.c9
 obtain⟨n1,n2,n3,o1,o2,o3⟩:=N.f3
 obtain⟨i1,i2,i3,j1,j2,j3⟩:=Z.f3
 obtain⟨z,hz⟩:∃z,aW l c.s=z:=⟨_,rfl⟩
 have HZ:=J0 hz
 have HM:=J0 hm
 have HN:=J0 hn
 have y1:decide (c.op<1)=false:=by rw[hop];decide
 have y2:decide (5<c.op)=false:=by rw[hop];decide
 have y3:decide (2<=c.op)=true:=by rw[hop];decide
 have y4:decide (c.op<=4)=true:=by rw[hop];decide
 have y6:(c.op == 3)=false:=by rw[hop];decide
 have y7:(c.op == 4)=true:=by rw[hop];decide
 have y8:(c.op != 2)=true:=by rw[hop];decide
 have y9:(c.op == 1)=false:=by rw[hop];decide
 have ya:(c.op == 5)=false:=by rw[hop];decide
 obtain rfl:z=(k:Int):=by rw[<-hz,hk]
 have y5:decide ((k:Int)<0)=false:=by simp
 have hkm:k<m:=by have:=eE l c.s;omega
 have HFK:=J0 hfk
 have HVK:=J0 hv
 clear hfk hv
 have HR:=J0 hr
 clear hr hz hm hn hop hk
 go_enter Tryz.func154,Tryz.ntmps154
 go_wp2_with (first
  |(go_at_call 114;refine(ey A cA m l HM.out c.s k HZ.out _ hA1 hl).mono ?_;rintro e w' ⟨rfl,rfl⟩)
  |(go_at_call 77;refine(ab A cA m l HM.out true HR.out _ hA1 hl sl).mono ?_;rintro e W0 ⟨rfl,hb⟩;replace HB:=HB.trans (hb.mono HB.size);replace hA1:=hA1.below hb;replace C:=C.below hb;replace N:=N.below hb;replace Z:=Z.below hb;clear hb a0 a1 a2 a3 a4 a5 a6 a7 a8 n1 n2 n3 o1 o2 o3 i1 i2 i3 j1 j2 j3;obtain⟨a0,a1,a2,a3,a4,a5,a6,a7,a8⟩:=C.c9;obtain⟨n1,n2,n3,o1,o2,o3⟩:=N.f3;obtain⟨i1,i2,i3,j1,j2,j3⟩:=Z.f3))
 have szW:w.heap.size+2<W0.heap.size:=Z.lt
 have nb:=aA (w:=W0) (.cells #[.slice A m cA,.slice none 0 0,.slice none 0 0] 110)
 have H0:TO w (W0.alloc (.cells #[.slice A m cA,.slice none 0 0,.slice none 0 0] 110)) (W0.heap.size+1) W0.heap.size (.slice A m cA) (.slice none 0 0) (.slice none 0 0) [] [] 110 157:=
  ⟨aD.new W0 _ _,ai _ _ _ _,ai _ _ _ _,fun g hg=>by simp[Value.ownBlock] at hg,Nat.lt_succ_self _,HB.trans (nb.mono HB.size),HB.size⟩
 have C0:=C.below nb
 have N0:=N.below nb
 have Z0:=Z.below nb
 clear nb C N Z HB hA1 a0 a1 a2 a3 a4 a5 a6 a7 a8 n1 n2 n3 o1 o2 o3 i1 i2 i3 j1 j2 j3
 go_loopw [9,10] (fun i _ wr=>∃(j:Nat) (vF vM:ER),j<=k/\i=.int .i64 j/\TO w wr (W0.heap.size+1) W0.heap.size (.slice A m cA) vF vM (l.take j) (kM j) 110 157/\aD wr (w.heap.size+1) [.slice none 0 0,.slice none 0 0,.slice none 0 0] 110/\aD wr (w.heap.size+2) [.slice none 0 0,.slice none 0 0,.slice none 0 0] 110/\cx wr w.heap.size c (.slice Q n qc) 73) (fun i _ _=>m - (intOf i).toNat)
 case atStart=>exact⟨0,_,_,by omega,rfl,H0,N0,Z0,C0⟩
 case round=>
  obtain⟨j,vF,vM,hj,rfl,H,N,Z,C⟩:=hrel
  clear H0 N0 Z0 C0
  obtain⟨fs,hfs⟩:∃fs,(l.take j)=fs:=⟨_,rfl⟩
  obtain⟨ms,hms⟩:∃ms,(kM j)=ms:=⟨_,rfl⟩
  rw[hfs,hms] at H
  have HFS:=J0 hfs
  have HMS:=J0 hms
  clear hfs hms
  have hAr:=hA.below H.B
  have RQr:=RQ.below H.B
  by_cases hlt:j<m
  ·obtain⟨f,hf⟩:∃f,l[j]?=some f:=⟨_,J4 (by rw[HM.out];exact hlt)⟩
   obtain⟨ad,rfl,g0,g1,g2⟩:=hAr.fld hf
   have hi0:(0:Int)<=(j:Int):=by omega
   have hi1:(j:Int)<(m:Int):=by omega
   have HF:=J0 hf
   have nu:=aA (w:=wr) (.cells #[.string f.s,.int .i64 f.k,.int .i64 f.l] 68)
   have GB:=aD.new wr [.string f.s,.int .i64 f.k,.int .i64 f.l] 68
   have HU:=H.below nu
   have NU:=N.below nu
   have ZU:=Z.below nu
   have CU:=C.below nu
   have hsz:W0.heap.size<wr.heap.size:=H.lt
   clear hf
   have szF:Hid (fs.length+1<=maxLen/\(fs.length+1) * 32<=140737488355328):=J0 (by have h5:fs.length<=j:=(by rw[<-HFS.out];rw[Qx];omega);simp only[maxLen];omega)
   have szM:Hid (ms.length+1<=maxLen/\(ms.length+1) * 40<=140737488355328):=J0 (by have h5:ms.length<=j:=(by rw[<-HMS.out,aP];exact J9 _);simp only[maxLen];omega)
   obtain⟨a0,a1,a2,a3,a4,a5,a6,a7,a8⟩:=CU.c9
   have htl:(l.take j).length=j:=(by rw[Qx,HM.out];omega)
   by_cases hjk:j=k
   ·have yk:((j:Int) == (k:Int))=true:=by simp[hjk]
    have yn:((j:Int) != (k:Int))=false:=by simp[hjk]
    have HV:Hid (aU f.k f.l c.g.k c.g.l=false):=J0 (by have h5:=HF.out;rw[hjk,HFK.out] at h5;have h6:=Jj h5;rw[<-h6];exact HVK.out)
    clear hjk
    go_wp2_with (go_at_call 116;refine(bf f.s c.g.s f.k f.l c.g.k c.g.l false HV.out _).mono ?_;rintro e wM ⟨rfl,hb⟩;have HU1:=HU.below hb;have NU1:=NU.below hb;have ZU1:=ZU.below hb;have CU1:=CU.below hb;have GB1:=GB.below hb;obtain⟨i1,i2,i3,j1,j2,j3⟩:=ZU1.f3;obtain⟨n1,n2,n3,o1,o2,o3⟩:=NU1.f3;obtain⟨f0,f1,f2,f3,f4,f5,f6,f7,f8⟩:=CU1.c9;obtain⟨k1,k2,k3,l1,l2,l3⟩:=GB1.f3)
    refine Xx (v:=.tuple #[.agg #[.slice none 0 0,.slice none 0 0,.slice none 0 0],.int .i64 80]) (by simp[results,Tryz.results154,go_sem, *];done) rfl ⟨_,_,_,_,_,_,_,_,_,rfl,gP.z _ _,?_⟩
    exact((HU1.B.setCell (by show w.heap.size<=w.heap.size+1;omega) _).setCell (by show w.heap.size<=w.heap.size+1;omega) _).setCell (by show w.heap.size<=w.heap.size+1;omega) _
   ·have yk:((j:Int) == (k:Int))=false:=by simp;omega
    have yn:((j:Int) != (k:Int))=true:=by simp;omega
    have hst:Hid (l.take (j+1)=l.take j++[f]):=J0 (by rw[Vv,HF.out];rfl)
    have nf:=aA (w:=(wr.alloc (.cells #[.string f.s,.int .i64 f.k,.int .i64 f.l] 68))) (.cells #[.string f.s,.int .i64 f.k,.int .i64 f.l] 68)
    have hbU:W0.heap.size+1<=((wr.alloc (.cells #[.string f.s,.int .i64 f.k,.int .i64 f.l] 68))).heap.size:=HU.lt
    obtain⟨p1,p2,p3,q1,q2,q3⟩:=(HU.O.below nf).f3
    obtain⟨s1,s2,s3,u1,u2,u3⟩:=HU.O.f3
    go_wp2_with (first
     |(at_builtin;refine Y4 _ rfl _ _ 27 rfl (W0.heap.size+1) 68 iF (.agg #[.string ⟨#[]⟩,.int .i64 0,.int .i64 0]) 3 32 Tryz.underlying27 hiF hzF0 hzF1 hzF2 rfl (by decide) _ _ _ rfl (aG HU.F nf) ⟨wr.heap.size+1,0,none⟩ 1 1 [.string f.s,.int .i64 f.k,.int .i64 f.l] (by first|rfl|simp) rfl ?c1 ?c2 ?c3 ?c4 ?c5 ?_))
    case c1=>rw[show wr.heap.size+1=((wr.alloc (.cells #[.string f.s,.int .i64 f.k,.int .i64 f.l] 68))).heap.size by simp];exact fV _ _ _ _ _
    case c2=>intro u hu;simp at hu;rcases hu with rfl|rfl|rfl <;> rfl
    case c3=>exact(szF.out).1
    case c4=>have:=szF.out.2;omega
    case c5=>have:=nf.size;omega
    intro vF' W5 ownF5 gr5 _ hat5
    obtain⟨O5,H6,fr6⟩:=HU.addF nf ⟨f.s,f.k,f.l⟩ gr5 hbU ownF5 (by first|exact hat5|simpa using hat5)
    obtain⟨F5,c5,rfl,_,_,_⟩:=aL ownF5
    clear p1 p2 p3 q1 q2 q3 s1 s2 s3 u1 u2 u3 ownF5 gr5 hat5
    obtain⟨s1,s2,s3,u1,u2,u3⟩:=O5.f3
    have nm:=aA (w:=W5.setCell ⟨W0.heap.size,1,none⟩ (.slice F5 (fs.length+1) c5)) (.cells #[.int .i64 j,.int .i64 0,.int .u64 0,.string ⟨#[]⟩] 157)
    have hb6:Hid (W0.heap.size+1<=(W5.setCell ⟨W0.heap.size,1,none⟩ (.slice F5 (fs.length+1) c5)).heap.size):=J0 H6.lt
    have z6:Hid (W5.heap.size=(W5.setCell ⟨W0.heap.size,1,none⟩ (.slice F5 (fs.length+1) c5)).heap.size):=J0 (by simp)
    obtain⟨p1,p2,p3,q1,q2,q3⟩:=H6.O.f3
    obtain⟨t1,t2,t3,v1,v2,v3⟩:=(H6.O.below nm).f3
    go_wp2_with (at_builtin;refine Y4 _ rfl _ _ 108 rfl (W0.heap.size+1) 157 iM (.agg #[.int .i64 0,.int .i64 0,.int .u64 0,.string ⟨#[]⟩]) 4 40 Tryz.underlying108 hiM hzM0 hzM1 hzM2 rfl (by decide) _ _ _ rfl (aG H6.M nm) ⟨W5.heap.size,0,none⟩ 1 1 [.int .i64 j,.int .i64 0,.int .u64 0,.string ⟨#[]⟩] rfl rfl ?c1 ?c2 ?c3 ?c4 ?c5 ?_)
    case c1=>rw[z6.out];exact eR _ _ _ _ _ _
    case c2=>intro u hu;simp at hu;rcases hu with rfl|rfl|rfl|rfl <;> rfl
    case c3=>exact(szM.out).1
    case c4=>have:=szM.out.2;omega
    case c5=>have:=nm.size;have:=hb6.out;omega
    intro vM' W7 ownM7 gr7 _ hat7
    obtain⟨O7,H8,fr8⟩:=H6.addM nm ⟨j,Vl.z⟩ gr7 hb6.out ownM7 (by first|exact hat7|simpa using hat7)
    obtain⟨M7,c7,rfl,_,_,_⟩:=aL ownM7
    clear p1 p2 p3 q1 q2 q3 s1 s2 s3 u1 u2 u3 t1 t2 t3 v1 v2 v3 ownM7 gr7 hat7
    obtain⟨s1,s2,s3,u1,u2,u3⟩:=O7.f3
    go_wp2
    go_roundw
    case rel=>
     refine⟨j+1,_,_,by omega,by go_num,(by rw[hst.out,du,HFS.out,HMS.out];exact H8),?_,?_,?_⟩
     ·exact(fr8 _ (by omega) (by omega)).trans ((fr6 _ (by omega) (by omega)).trans NU)
     ·exact(fr8 _ (by omega) (by omega)).trans ((fr6 _ (by omega) (by omega)).trans ZU)
     ·exact(fr8 _ (by omega) (by omega)).trans ((fr6 _ (by omega) (by omega)).trans CU)
    case measure=>simp[intOf];omega
  ·obtain rfl:j=m:=by omega
   exact absurd hkm (by omega)
theorem sr {l:List Mv} {k:Nat} {m:Mv} (hm:l[k]?=some m) (x:Int):aJ (l.set k ⟨x,m.d⟩)=(aJ l).set (k * 4) (.int .i64 x):=by
 induction l generalizing k with
 |nil=>simp at hm
 |cons a r ih=>
  have e:∀(y:Mv) (r:List Mv),aJ (y :: r)=[.int .i64 y.f,.int .i64 y.d.k,.int .u64 y.d.b,.string y.d.t]++aJ r:=fun y r=>by simp[aJ]
  cases k with
  |zero=>simp at hm;subst hm;rw[J3,e,e];rfl
  |succ k=>rw[J2,e,e,ih (by simpa using hm),show(k+1) * 4=k * 4+1+1+1+1 by omega];rfl
theorem TO.setF {w W:EQ} {base ob gF n cF i:Nat} {xO vM:ER} {fs:List Fd} {ms:List Mv} {T TM:ES} (h:TO w W base ob xO (.slice (some ⟨gF,0,none⟩) n cF) vM fs ms T TM) {f:Fd} (hf:fs[i]?=some f) (g:Fd):
 TO w (((W.setCell ⟨gF,i * 3,none⟩ (.string g.s)).setCell ⟨gF,i * 3+1,none⟩ (.int .i64 g.k)).setCell ⟨gF,i * 3+2,none⟩ (.int .i64 g.l)) base ob xO (.slice (some ⟨gF,0,none⟩) n cF) vM (fs.set i g) ms T TM/\
 ∀b,b<base->(((W.setCell ⟨gF,i * 3,none⟩ (.string g.s)).setCell ⟨gF,i * 3+1,none⟩ (.int .i64 g.k)).setCell ⟨gF,i * 3+2,none⟩ (.int .i64 g.l)).heap[b]?=W.heap[b]?:=by
 obtain⟨hn,_⟩:=be h.F
 subst hn
 have hb:=aF h.F gF rfl
 have lo:=h.lo
 have hob:=h.hob
 have ks:∀b,b≠gF->(((W.setCell ⟨gF,i * 3,none⟩ (.string g.s)).setCell ⟨gF,i * 3+1,none⟩ (.int .i64 g.k)).setCell ⟨gF,i * 3+2,none⟩ (.int .i64 g.l)).heap[b]?=W.heap[b]?:=fun b hne=>(J5 _ _ _ _ hne).trans ((J5 _ _ _ _ hne).trans (J5 _ _ _ _ hne))
 refine⟨⟨(ks _ (by omega)).trans h.O,?_,aN h.M (fun k hk=>ks k (by rintro rfl;exact h.ap k rfl hk)),h.ap,h.lo,?_,h.hob⟩,fun b hlt=>ks b (by omega)⟩
 ·exact ag (ew (ew (ew h.F _ _) _ _) _ _) (by simp) (ju fs i f g hf).symm
 ·exact((h.B.setCell (by show w.heap.size<=gF;omega) _).setCell (by show w.heap.size<=gF;omega) _).setCell (by show w.heap.size<=gF;omega) _
theorem TO.setM {w W:EQ} {base ob gM n cM i:Nat} {xO vF:ER} {fs:List Fd} {ms:List Mv} {T TM:ES} (h:TO w W base ob xO vF (.slice (some ⟨gM,0,none⟩) n cM) fs ms T TM) {m:Mv} (hm:ms[i]?=some m) (x:Int):
 TO w (W.setCell ⟨gM,i * 4,none⟩ (.int .i64 x)) base ob xO vF (.slice (some ⟨gM,0,none⟩) n cM) fs (ms.set i ⟨x,m.d⟩) T TM/\∀b,b<base->(W.setCell ⟨gM,i * 4,none⟩ (.int .i64 x)).heap[b]?=W.heap[b]?:=by
 obtain⟨hn,_⟩:=be h.M
 subst hn
 have hb:=aF h.M gM rfl
 have lo:=h.lo
 have hob:=h.hob
 have ks:∀b,b≠gM->(W.setCell ⟨gM,i * 4,none⟩ (.int .i64 x)).heap[b]?=W.heap[b]?:=fun b hne=>J5 _ _ _ _ hne
 refine⟨⟨(ks _ (by omega)).trans h.O,aN h.F (fun k hk=>ks k (by rintro rfl;exact h.ap k hk rfl)),?_,h.ap,h.lo,h.B.setCell (by show w.heap.size<=gM;omega) _,h.hob⟩,fun b hlt=>ks b (by omega)⟩
 exact ag (ew h.M _ _) (by simp) (sr hm x).symm
theorem pz {w:EQ} {base n m K g c:Nat} {T:ES} {xs:EO} (h:w.ownsRow base T K (.slice (some ⟨g,0,none⟩) n c) m xs):∀j u,xs[j]?=some u->w.cell? ⟨g,j,none⟩=some u/\w.frozen? ⟨g,j,none⟩=false:=by
 intro j u hj
 rcases h.2 with ⟨e,_⟩|⟨g',c',cur,e,_,hg,_,_,_,ht⟩
 ·cases e
 ·obtain⟨hn,_⟩:=be h
  subst hn
  cases e
  refine⟨?_,by simp[World.frozen?,hg]⟩
  rw[<-ht,X7] at hj
  split at hj
  ·simp only[World.cell?,hg];simpa using hj
  ·cases hj
theorem jF {w:EQ} {base n K:Nat} {T:ES} {v:ER} {xs:EO} (h:w.ownsRow base T K v n xs) (hn:0<n):∃g c,v=.slice (some ⟨g,0,none⟩) n c:=by
 obtain⟨g,c,e,_⟩:=ce h hn
 exact⟨g,c,e⟩
theorem wv {α:Type} {a b:List α} {i:Nat} {y:α} (ha:a.length=i) (x:α) (hy:b[i]?=some y):(a++b.drop i).set i x=(a++[x])++b.drop (i+1):=by
 have hlt:=(J6.1 hy).1
 rw[List.set_append_right _ _ (by omega),ha,Nat.sub_self,List.drop_eq_getElem_cons hlt,J3]
 simp
theorem wW {α:Type} {a b:List α} {i:Nat} {y:α} (ha:a.length=i) (hy:b[i]?=some y):(a++b.drop i)[i]?=some y:=by
 rw[Qk (by omega),ha,Nat.sub_self,List.getElem?_drop];simpa using hy
theorem mW (l:List Fd) (c:Ch) (m:Nat) (hm:l.length=m) (hl:m<=9223372036854775807) (A:EL) (cA:Nat) (Q:EL) (n qc:Nat) (hn:c.q.length=n) (hn1:n<=17592186044415) (x0:0<=c.d.b) (x1:c.d.b<18446744073709551616) (sl:gL l) (sg:c.g.s.size<=9223372036854775807) (w:EQ) (hA:Rd w A (aC l)) (RQ:Rd w Q (aV c.q)) (hop:c.op=5) (hr:aK l=true) (hv:fD c.q m=false):
 Calls Tryz.prog 154 #[.slice A m cA,.agg #[.int .i64 c.op,.string c.s,.string c.g.s,.int .i64 c.g.k,.int .i64 c.g.l,.int .i64 c.d.k,.int .u64 c.d.b,.string c.d.t,.slice Q n qc]] w fun e w'=>yi Tb.z 80 w e w':=by
 have h16:m<=16:=by rw[<-hm];exact(aQ hr).2
 obtain⟨iF,hiF,hzF0,hzF1,hzF2⟩:=info_parts fI
 obtain⟨iM,hiM,hzM0,hzM1,hzM2⟩:=info_parts iO
 obtain⟨C,N,Z,HB⟩:=dE c Q n qc w
 have hA1:=hA.below HB
 obtain⟨a0,a1,a2,a3,a4,a5,a6,a7,a8⟩:=C.c9
 obtain⟨n1,n2,n3,o1,o2,o3⟩:=N.f3
 obtain⟨i1,i2,i3,j1,j2,j3⟩:=Z.f3
 obtain⟨z,hz⟩:∃z,aW l c.s=z:=⟨_,rfl⟩
 have HZ:=J0 hz
 have HM:=J0 hm
 have HN:=J0 hn
 have y1:decide (c.op<1)=false:=by rw[hop];decide
 have y2:decide (5<c.op)=false:=by rw[hop];decide
 have y3:decide (2<=c.op)=true:=by rw[hop];decide
 have y4:decide (c.op<=4)=false:=by rw[hop];decide
 have y6:(c.op == 3)=false:=by rw[hop];decide
 have y7:(c.op == 4)=false:=by rw[hop];decide
 have y8:(c.op != 2)=true:=by rw[hop];decide
 have y9:(c.op == 1)=false:=by rw[hop];decide
 have ya:(c.op == 5)=true:=by rw[hop];decide
 have HR:=J0 hr
 clear hr hz hm hn hop
 go_enter Tryz.func154,Tryz.ntmps154
 go_wp2_with (first
  |(go_at_call 114;refine(ey A cA m l HM.out c.s z HZ.out _ hA1 hl).mono ?_;rintro e w' ⟨rfl,rfl⟩)
  |(go_at_call 77;refine(ab A cA m l HM.out true HR.out _ hA1 hl sl).mono ?_;rintro e W0 ⟨rfl,hb⟩;replace HB:=HB.trans (hb.mono HB.size);replace hA1:=hA1.below hb;replace C:=C.below hb;replace N:=N.below hb;replace Z:=Z.below hb;clear hb a0 a1 a2 a3 a4 a5 a6 a7 a8 n1 n2 n3 o1 o2 o3 i1 i2 i3 j1 j2 j3;obtain⟨a0,a1,a2,a3,a4,a5,a6,a7,a8⟩:=C.c9;obtain⟨n1,n2,n3,o1,o2,o3⟩:=N.f3;obtain⟨i1,i2,i3,j1,j2,j3⟩:=Z.f3))
 have szW:w.heap.size+2<W0.heap.size:=Z.lt
 have nb:=aA (w:=W0) (.cells #[.slice A m cA,.slice none 0 0,.slice none 0 0] 110)
 have H0:TO w (W0.alloc (.cells #[.slice A m cA,.slice none 0 0,.slice none 0 0] 110)) (W0.heap.size+1) W0.heap.size (.slice A m cA) (.slice none 0 0) (.slice none 0 0) [] [] 110 157:=
  ⟨aD.new W0 _ _,ai _ _ _ _,ai _ _ _ _,fun g hg=>by simp[Value.ownBlock] at hg,Nat.lt_succ_self _,HB.trans (nb.mono HB.size),HB.size⟩
 have C0:=C.below nb
 have N0:=N.below nb
 have Z0:=Z.below nb
 clear nb C N Z HB hA1 a0 a1 a2 a3 a4 a5 a6 a7 a8 n1 n2 n3 o1 o2 o3 i1 i2 i3 j1 j2 j3
 go_loopw [9,10] (fun i _ wr=>∃(j:Nat) (vF vM:ER),j<=m/\i=.int .i64 j/\TO w wr (W0.heap.size+1) W0.heap.size (.slice A m cA) vF vM (l.take j) (kM j) 110 157/\aD wr (w.heap.size+1) [.slice none 0 0,.slice none 0 0,.slice none 0 0] 110/\aD wr (w.heap.size+2) [.slice none 0 0,.slice none 0 0,.slice none 0 0] 110/\cx wr w.heap.size c (.slice Q n qc) 73) (fun i _ _=>m - (intOf i).toNat)
 case atStart=>exact⟨0,_,_,by omega,rfl,H0,N0,Z0,C0⟩
 case round=>
  obtain⟨j,vF,vM,hj,rfl,H,N,Z,C⟩:=hrel
  clear H0 N0 Z0 C0
  obtain⟨fs,hfs⟩:∃fs,(l.take j)=fs:=⟨_,rfl⟩
  obtain⟨ms,hms⟩:∃ms,(kM j)=ms:=⟨_,rfl⟩
  rw[hfs,hms] at H
  have HFS:=J0 hfs
  have HMS:=J0 hms
  clear hfs hms
  have hAr:=hA.below H.B
  have RQr:=RQ.below H.B
  by_cases hlt:j<m
  ·obtain⟨f,hf⟩:∃f,l[j]?=some f:=⟨_,J4 (by rw[HM.out];exact hlt)⟩
   obtain⟨ad,rfl,g0,g1,g2⟩:=hAr.fld hf
   have hi0:(0:Int)<=(j:Int):=by omega
   have hi1:(j:Int)<(m:Int):=by omega
   have HF:=J0 hf
   have nu:=aA (w:=wr) (.cells #[.string f.s,.int .i64 f.k,.int .i64 f.l] 68)
   have GB:=aD.new wr [.string f.s,.int .i64 f.k,.int .i64 f.l] 68
   have HU:=H.below nu
   have NU:=N.below nu
   have ZU:=Z.below nu
   have CU:=C.below nu
   have hsz:W0.heap.size<wr.heap.size:=H.lt
   clear hf
   have hst:Hid (l.take (j+1)=l.take j++[f]):=J0 (by rw[Vv,HF.out];rfl)
   have szF:Hid (fs.length+1<=maxLen/\(fs.length+1) * 32<=140737488355328):=J0 (by have h5:fs.length<=j:=(by rw[<-HFS.out,Qx];omega);simp only[maxLen];omega)
   have szM:Hid (ms.length+1<=maxLen/\(ms.length+1) * 40<=140737488355328):=J0 (by rw[<-HMS.out,aP];simp only[maxLen];omega)
   obtain⟨a0,a1,a2,a3,a4,a5,a6,a7,a8⟩:=CU.c9
   have nf:=aA (w:=(wr.alloc (.cells #[.string f.s,.int .i64 f.k,.int .i64 f.l] 68))) (.cells #[.string f.s,.int .i64 f.k,.int .i64 f.l] 68)
   have hbU:W0.heap.size+1<=((wr.alloc (.cells #[.string f.s,.int .i64 f.k,.int .i64 f.l] 68))).heap.size:=HU.lt
   obtain⟨p1,p2,p3,q1,q2,q3⟩:=(HU.O.below nf).f3
   obtain⟨s1,s2,s3,u1,u2,u3⟩:=HU.O.f3
   go_wp2_with (first
    |(at_builtin;refine Y4 _ rfl _ _ 27 rfl (W0.heap.size+1) 68 iF (.agg #[.string ⟨#[]⟩,.int .i64 0,.int .i64 0]) 3 32 Tryz.underlying27 hiF hzF0 hzF1 hzF2 rfl (by decide) _ _ _ rfl (aG HU.F nf) ⟨wr.heap.size+1,0,none⟩ 1 1 [.string f.s,.int .i64 f.k,.int .i64 f.l] (by first|rfl|simp) rfl ?c1 ?c2 ?c3 ?c4 ?c5 ?_))
   case c1=>rw[show wr.heap.size+1=((wr.alloc (.cells #[.string f.s,.int .i64 f.k,.int .i64 f.l] 68))).heap.size by simp];exact fV _ _ _ _ _
   case c2=>intro u hu;simp at hu;rcases hu with rfl|rfl|rfl <;> rfl
   case c3=>exact(szF.out).1
   case c4=>have:=szF.out.2;omega
   case c5=>have:=nf.size;omega
   intro vF' W5 ownF5 gr5 _ hat5
   obtain⟨O5,H6,fr6⟩:=HU.addF nf ⟨f.s,f.k,f.l⟩ gr5 hbU ownF5 (by first|exact hat5|simpa using hat5)
   obtain⟨F5,c5,rfl,_,_,_⟩:=aL ownF5
   clear p1 p2 p3 q1 q2 q3 s1 s2 s3 u1 u2 u3 ownF5 gr5 hat5
   obtain⟨s1,s2,s3,u1,u2,u3⟩:=O5.f3
   have nm:=aA (w:=W5.setCell ⟨W0.heap.size,1,none⟩ (.slice F5 (fs.length+1) c5)) (.cells #[.int .i64 j,.int .i64 0,.int .u64 0,.string ⟨#[]⟩] 157)
   have hb6:Hid (W0.heap.size+1<=(W5.setCell ⟨W0.heap.size,1,none⟩ (.slice F5 (fs.length+1) c5)).heap.size):=J0 H6.lt
   have z6:Hid (W5.heap.size=(W5.setCell ⟨W0.heap.size,1,none⟩ (.slice F5 (fs.length+1) c5)).heap.size):=J0 (by simp)
   obtain⟨p1,p2,p3,q1,q2,q3⟩:=H6.O.f3
   obtain⟨t1,t2,t3,v1,v2,v3⟩:=(H6.O.below nm).f3
   go_wp2_with (at_builtin;refine Y4 _ rfl _ _ 108 rfl (W0.heap.size+1) 157 iM (.agg #[.int .i64 0,.int .i64 0,.int .u64 0,.string ⟨#[]⟩]) 4 40 Tryz.underlying108 hiM hzM0 hzM1 hzM2 rfl (by decide) _ _ _ rfl (aG H6.M nm) ⟨W5.heap.size,0,none⟩ 1 1 [.int .i64 j,.int .i64 0,.int .u64 0,.string ⟨#[]⟩] rfl rfl ?c1 ?c2 ?c3 ?c4 ?c5 ?_)
   case c1=>rw[z6.out];exact eR _ _ _ _ _ _
   case c2=>intro u hu;simp at hu;rcases hu with rfl|rfl|rfl|rfl <;> rfl
   case c3=>exact(szM.out).1
   case c4=>have:=szM.out.2;omega
   case c5=>have:=nm.size;have:=hb6.out;omega
   intro vM' W7 ownM7 gr7 _ hat7
   obtain⟨O7,H8,fr8⟩:=H6.addM nm ⟨j,Vl.z⟩ gr7 hb6.out ownM7 (by first|exact hat7|simpa using hat7)
   obtain⟨M7,c7,rfl,_,_,_⟩:=aL ownM7
   clear p1 p2 p3 q1 q2 q3 s1 s2 s3 u1 u2 u3 t1 t2 t3 v1 v2 v3 ownM7 gr7 hat7
   obtain⟨s1,s2,s3,u1,u2,u3⟩:=O7.f3
   go_wp2
   go_roundw
   case rel=>
    refine⟨j+1,_,_,by omega,by go_num,(by rw[hst.out,du,HFS.out,HMS.out];exact H8),?_,?_,?_⟩
    ·exact(fr8 _ (by omega) (by omega)).trans ((fr6 _ (by omega) (by omega)).trans NU)
    ·exact(fr8 _ (by omega) (by omega)).trans ((fr6 _ (by omega) (by omega)).trans ZU)
    ·exact(fr8 _ (by omega) (by omega)).trans ((fr6 _ (by omega) (by omega)).trans CU)
   case measure=>simp[intOf];omega
  ·obtain rfl:j=m:=by omega
   obtain⟨a0,a1,a2,a3,a4,a5,a6,a7,a8⟩:=C.c9
   have HFL:Hid (fs=l):=J0 (by rw[<-HFS.out];exact Vx (by rw[HM.out];exact J9 _))
   have HML:Hid (ms=kM j):=J0 (by rw[<-HMS.out])
   have HV:=J0 hv
   have RQ5:=RQ.below H.B
   obtain⟨i1,i2,i3,j1,j2,j3⟩:=Z.f3
   obtain⟨n1,n2,n3,o1,o2,o3⟩:=N.f3
   clear hv
   go_wp2_with (go_at_call 172;refine(Ax c.q n HN.out Q qc j hn1 (by omega) _ RQ5).mono ?_;rintro e w' ⟨rfl,rfl⟩;rw[HV.out])
   refine Xx (v:=.tuple #[.agg #[.slice none 0 0,.slice none 0 0,.slice none 0 0],.int .i64 80]) (by simp[results,Tryz.results154,go_sem, *];done) rfl ⟨_,_,_,_,_,_,_,_,_,rfl,gP.z _ _,?_⟩
   exact((H.B.setCell (by show w.heap.size<=w.heap.size+1;omega) _).setCell (by show w.heap.size<=w.heap.size+1;omega) _).setCell (by show w.heap.size<=w.heap.size+1;omega) _
theorem lO (l:List Fd) (c:Ch) (m:Nat) (hm:l.length=m) (hl:m<=9223372036854775807) (A:EL) (cA:Nat) (Q:EL) (n qc:Nat) (hn:c.q.length=n) (hn1:n<=17592186044415) (x0:0<=c.d.b) (x1:c.d.b<18446744073709551616) (sl:gL l) (sg:c.g.s.size<=9223372036854775807) (w:EQ) (hA:Rd w A (aC l)) (RQ:Rd w Q (aV c.q)) (hop:c.op=5) (hr:aK l=true) (hv:fD c.q m=true) (r:Bool) (hrt:aK (c.q.map (fun x:Int=>(l[x.toNat]?).getD Fd.z))=r):
 Calls Tryz.prog 154 #[.slice A m cA,.agg #[.int .i64 c.op,.string c.s,.string c.g.s,.int .i64 c.g.k,.int .i64 c.g.l,.int .i64 c.d.k,.int .u64 c.d.b,.string c.d.t,.slice Q n qc]] w fun e w'=>yi (bif r then⟨l,(c.q.map (fun x:Int=>(l[x.toNat]?).getD Fd.z)),(c.q.map (fun x:Int=>(⟨x,Vl.z⟩:Mv)))⟩ else Tb.z) (bif r then 0 else 80) w e w':=by
 have h16:m<=16:=by rw[<-hm];exact(aQ hr).2
 obtain⟨iF,hiF,hzF0,hzF1,hzF2⟩:=info_parts fI
 obtain⟨iM,hiM,hzM0,hzM1,hzM2⟩:=info_parts iO
 obtain⟨C,N,Z,HB⟩:=dE c Q n qc w
 have hA1:=hA.below HB
 obtain⟨a0,a1,a2,a3,a4,a5,a6,a7,a8⟩:=C.c9
 obtain⟨n1,n2,n3,o1,o2,o3⟩:=N.f3
 obtain⟨i1,i2,i3,j1,j2,j3⟩:=Z.f3
 obtain⟨z,hz⟩:∃z,aW l c.s=z:=⟨_,rfl⟩
 have HZ:=J0 hz
 have HM:=J0 hm
 have HN:=J0 hn
 have y1:decide (c.op<1)=false:=by rw[hop];decide
 have y2:decide (5<c.op)=false:=by rw[hop];decide
 have y3:decide (2<=c.op)=true:=by rw[hop];decide
 have y4:decide (c.op<=4)=false:=by rw[hop];decide
 have y6:(c.op == 3)=false:=by rw[hop];decide
 have y7:(c.op == 4)=false:=by rw[hop];decide
 have y8:(c.op != 2)=true:=by rw[hop];decide
 have y9:(c.op == 1)=false:=by rw[hop];decide
 have ya:(c.op == 5)=true:=by rw[hop];decide
 have HR:=J0 hr
 have HRT:=J0 hrt
 clear hr hz hm hn hop hrt
 go_enter Tryz.func154,Tryz.ntmps154
 go_wp2_with (first
  |(go_at_call 114;refine(ey A cA m l HM.out c.s z HZ.out _ hA1 hl).mono ?_;rintro e w' ⟨rfl,rfl⟩)
  |(go_at_call 77;refine(ab A cA m l HM.out true HR.out _ hA1 hl sl).mono ?_;rintro e W0 ⟨rfl,hb⟩;replace HB:=HB.trans (hb.mono HB.size);replace hA1:=hA1.below hb;replace C:=C.below hb;replace N:=N.below hb;replace Z:=Z.below hb;clear hb a0 a1 a2 a3 a4 a5 a6 a7 a8 n1 n2 n3 o1 o2 o3 i1 i2 i3 j1 j2 j3;obtain⟨a0,a1,a2,a3,a4,a5,a6,a7,a8⟩:=C.c9;obtain⟨n1,n2,n3,o1,o2,o3⟩:=N.f3;obtain⟨i1,i2,i3,j1,j2,j3⟩:=Z.f3))
 have szW:w.heap.size+2<W0.heap.size:=Z.lt
 have nb:=aA (w:=W0) (.cells #[.slice A m cA,.slice none 0 0,.slice none 0 0] 110)
 have H0:TO w (W0.alloc (.cells #[.slice A m cA,.slice none 0 0,.slice none 0 0] 110)) (W0.heap.size+1) W0.heap.size (.slice A m cA) (.slice none 0 0) (.slice none 0 0) [] [] 110 157:=
  ⟨aD.new W0 _ _,ai _ _ _ _,ai _ _ _ _,fun g hg=>by simp[Value.ownBlock] at hg,Nat.lt_succ_self _,HB.trans (nb.mono HB.size),HB.size⟩
 have C0:=C.below nb
 have N0:=N.below nb
 have Z0:=Z.below nb
 clear nb C N Z HB hA1 a0 a1 a2 a3 a4 a5 a6 a7 a8 n1 n2 n3 o1 o2 o3 i1 i2 i3 j1 j2 j3
 go_loopw [9,10] (fun i _ wr=>∃(j:Nat) (vF vM:ER),j<=m/\i=.int .i64 j/\TO w wr (W0.heap.size+1) W0.heap.size (.slice A m cA) vF vM (l.take j) (kM j) 110 157/\aD wr (w.heap.size+1) [.slice none 0 0,.slice none 0 0,.slice none 0 0] 110/\aD wr (w.heap.size+2) [.slice none 0 0,.slice none 0 0,.slice none 0 0] 110/\cx wr w.heap.size c (.slice Q n qc) 73) (fun i _ _=>m - (intOf i).toNat)
 case atStart=>exact⟨0,_,_,by omega,rfl,H0,N0,Z0,C0⟩
 case round=>
  obtain⟨j,vF,vM,hj,rfl,H,N,Z,C⟩:=hrel
  clear H0 N0 Z0 C0
  obtain⟨fs,hfs⟩:∃fs,(l.take j)=fs:=⟨_,rfl⟩
  obtain⟨ms,hms⟩:∃ms,(kM j)=ms:=⟨_,rfl⟩
  rw[hfs,hms] at H
  have HFS:=J0 hfs
  have HMS:=J0 hms
  clear hfs hms
  have hAr:=hA.below H.B
  have RQr:=RQ.below H.B
  by_cases hlt:j<m
  ·obtain⟨f,hf⟩:∃f,l[j]?=some f:=⟨_,J4 (by rw[HM.out];exact hlt)⟩
   obtain⟨ad,rfl,g0,g1,g2⟩:=hAr.fld hf
   have hi0:(0:Int)<=(j:Int):=by omega
   have hi1:(j:Int)<(m:Int):=by omega
   have HF:=J0 hf
   have nu:=aA (w:=wr) (.cells #[.string f.s,.int .i64 f.k,.int .i64 f.l] 68)
   have GB:=aD.new wr [.string f.s,.int .i64 f.k,.int .i64 f.l] 68
   have HU:=H.below nu
   have NU:=N.below nu
   have ZU:=Z.below nu
   have CU:=C.below nu
   have hsz:W0.heap.size<wr.heap.size:=H.lt
   clear hf
   have hst:Hid (l.take (j+1)=l.take j++[f]):=J0 (by rw[Vv,HF.out];rfl)
   have szF:Hid (fs.length+1<=maxLen/\(fs.length+1) * 32<=140737488355328):=J0 (by have h5:fs.length<=j:=(by rw[<-HFS.out,Qx];omega);simp only[maxLen];omega)
   have szM:Hid (ms.length+1<=maxLen/\(ms.length+1) * 40<=140737488355328):=J0 (by rw[<-HMS.out,aP];simp only[maxLen];omega)
   obtain⟨a0,a1,a2,a3,a4,a5,a6,a7,a8⟩:=CU.c9
   have nf:=aA (w:=(wr.alloc (.cells #[.string f.s,.int .i64 f.k,.int .i64 f.l] 68))) (.cells #[.string f.s,.int .i64 f.k,.int .i64 f.l] 68)
   have hbU:W0.heap.size+1<=((wr.alloc (.cells #[.string f.s,.int .i64 f.k,.int .i64 f.l] 68))).heap.size:=HU.lt
   obtain⟨p1,p2,p3,q1,q2,q3⟩:=(HU.O.below nf).f3
   obtain⟨s1,s2,s3,u1,u2,u3⟩:=HU.O.f3
   go_wp2_with (first
    |(at_builtin;refine Y4 _ rfl _ _ 27 rfl (W0.heap.size+1) 68 iF (.agg #[.string ⟨#[]⟩,.int .i64 0,.int .i64 0]) 3 32 Tryz.underlying27 hiF hzF0 hzF1 hzF2 rfl (by decide) _ _ _ rfl (aG HU.F nf) ⟨wr.heap.size+1,0,none⟩ 1 1 [.string f.s,.int .i64 f.k,.int .i64 f.l] (by first|rfl|simp) rfl ?c1 ?c2 ?c3 ?c4 ?c5 ?_))
   case c1=>rw[show wr.heap.size+1=((wr.alloc (.cells #[.string f.s,.int .i64 f.k,.int .i64 f.l] 68))).heap.size by simp];exact fV _ _ _ _ _
   case c2=>intro u hu;simp at hu;rcases hu with rfl|rfl|rfl <;> rfl
   case c3=>exact(szF.out).1
   case c4=>have:=szF.out.2;omega
   case c5=>have:=nf.size;omega
   intro vF' W5 ownF5 gr5 _ hat5
   obtain⟨O5,H6,fr6⟩:=HU.addF nf ⟨f.s,f.k,f.l⟩ gr5 hbU ownF5 (by first|exact hat5|simpa using hat5)
   obtain⟨F5,c5,rfl,_,_,_⟩:=aL ownF5
   clear p1 p2 p3 q1 q2 q3 s1 s2 s3 u1 u2 u3 ownF5 gr5 hat5
   obtain⟨s1,s2,s3,u1,u2,u3⟩:=O5.f3
   have nm:=aA (w:=W5.setCell ⟨W0.heap.size,1,none⟩ (.slice F5 (fs.length+1) c5)) (.cells #[.int .i64 j,.int .i64 0,.int .u64 0,.string ⟨#[]⟩] 157)
   have hb6:Hid (W0.heap.size+1<=(W5.setCell ⟨W0.heap.size,1,none⟩ (.slice F5 (fs.length+1) c5)).heap.size):=J0 H6.lt
   have z6:Hid (W5.heap.size=(W5.setCell ⟨W0.heap.size,1,none⟩ (.slice F5 (fs.length+1) c5)).heap.size):=J0 (by simp)
   obtain⟨p1,p2,p3,q1,q2,q3⟩:=H6.O.f3
   obtain⟨t1,t2,t3,v1,v2,v3⟩:=(H6.O.below nm).f3
   go_wp2_with (at_builtin;refine Y4 _ rfl _ _ 108 rfl (W0.heap.size+1) 157 iM (.agg #[.int .i64 0,.int .i64 0,.int .u64 0,.string ⟨#[]⟩]) 4 40 Tryz.underlying108 hiM hzM0 hzM1 hzM2 rfl (by decide) _ _ _ rfl (aG H6.M nm) ⟨W5.heap.size,0,none⟩ 1 1 [.int .i64 j,.int .i64 0,.int .u64 0,.string ⟨#[]⟩] rfl rfl ?c1 ?c2 ?c3 ?c4 ?c5 ?_)
   case c1=>rw[z6.out];exact eR _ _ _ _ _ _
   case c2=>intro u hu;simp at hu;rcases hu with rfl|rfl|rfl|rfl <;> rfl
   case c3=>exact(szM.out).1
   case c4=>have:=szM.out.2;omega
   case c5=>have:=nm.size;have:=hb6.out;omega
   intro vM' W7 ownM7 gr7 _ hat7
   obtain⟨O7,H8,fr8⟩:=H6.addM nm ⟨j,Vl.z⟩ gr7 hb6.out ownM7 (by first|exact hat7|simpa using hat7)
   obtain⟨M7,c7,rfl,_,_,_⟩:=aL ownM7
   clear p1 p2 p3 q1 q2 q3 s1 s2 s3 u1 u2 u3 t1 t2 t3 v1 v2 v3 ownM7 gr7 hat7
   obtain⟨s1,s2,s3,u1,u2,u3⟩:=O7.f3
   go_wp2
   go_roundw
   case rel=>
    refine⟨j+1,_,_,by omega,by go_num,(by rw[hst.out,du,HFS.out,HMS.out];exact H8),?_,?_,?_⟩
    ·exact(fr8 _ (by omega) (by omega)).trans ((fr6 _ (by omega) (by omega)).trans NU)
    ·exact(fr8 _ (by omega) (by omega)).trans ((fr6 _ (by omega) (by omega)).trans ZU)
    ·exact(fr8 _ (by omega) (by omega)).trans ((fr6 _ (by omega) (by omega)).trans CU)
   case measure=>simp[intOf];omega
  ·obtain rfl:j=m:=by omega
   obtain⟨a0,a1,a2,a3,a4,a5,a6,a7,a8⟩:=C.c9
   have HFL:Hid (fs=l):=J0 (by rw[<-HFS.out];exact Vx (by rw[HM.out];exact J9 _))
   have HML:Hid (ms=kM j):=J0 (by rw[<-HMS.out])
   have HV:=J0 hv
   have RQ5:=RQ.below H.B
   obtain⟨i1,i2,i3,j1,j2,j3⟩:=Z.f3
   obtain⟨n1,n2,n3,o1,o2,o3⟩:=N.f3
   clear hv
   have HX:Hid (∀x∈c.q,0<=x/\x<j):=J0 (fun x hx=>oC HV.out hx)
   have HNJ:Hid (c.q.length=j):=J0 (kl HV.out)
   go_wp2_with (go_at_call 172;refine(Ax c.q n HN.out Q qc j hn1 (by omega) _ RQ5).mono ?_;rintro e w' ⟨rfl,rfl⟩;rw[HV.out])
   have HA0:TO w wr (W0.heap.size+1) W0.heap.size (.slice A j cA) vF vM ((c.q.take 0).map (fun x:Int=>(l[x.toNat]?).getD Fd.z)++l.drop 0) ((c.q.take 0).map (fun x:Int=>(⟨x,Vl.z⟩:Mv))++(kM j).drop 0) 110 157:=(by rw[HFL.out,HML.out] at H;simpa using H)
   have N0:=N
   have Z0:=Z
   have C0:=C
   have VF:=jF H.F
   have VM:=jF H.M
   clear H N Z C RQ5 hAr RQr i1 i2 i3 j1 j2 j3 n1 n2 n3 o1 o2 o3 a0 a1 a2 a3 a4 a5 a6 a7 a8
   go_loopw [11] (fun s wx=>∃i:Nat,i<=j/\s=.int .i64 i/\TO w wx (W0.heap.size+1) W0.heap.size (.slice A j cA) vF vM ((c.q.take i).map (fun x:Int=>(l[x.toNat]?).getD Fd.z)++l.drop i) ((c.q.take i).map (fun x:Int=>(⟨x,Vl.z⟩:Mv))++(kM j).drop i) 110 157/\aD wx (w.heap.size+1) [.slice none 0 0,.slice none 0 0,.slice none 0 0] 110/\aD wx (w.heap.size+2) [.slice none 0 0,.slice none 0 0,.slice none 0 0] 110/\cx wx w.heap.size c (.slice Q n qc) 73) (fun s _=>j - (intOf s).toNat)
   case atStart=>exact⟨0,by omega,rfl,HA0,N0,Z0,C0⟩
   case round=>
    obtain⟨i,hi,rfl,H,N,Z,C⟩:=hrel
    clear HA0 N0 Z0 C0
    have hAr:=hA.below H.B
    have RQr:=RQ.below H.B
    by_cases hlt2:i<j
    ·obtain⟨x,hx⟩:∃x,c.q[i]?=some x:=⟨_,J4 (by rw[HNJ.out];exact hlt2)⟩
     obtain⟨x0',x1'⟩:=HX.out x (J7 hx)
     obtain⟨f,hf⟩:∃f,l[x.toNat]?=some f:=⟨_,J4 (by rw[HM.out];omega)⟩
     obtain⟨y,hy⟩:∃y,l[i]?=some y:=⟨_,J4 (by rw[HM.out];exact hlt2)⟩
     have hq0:(aV c.q)[i]?=some (.int .i64 x):=by simp[aV,hx]
     obtain⟨qd,rfl,hqc'⟩:=RQr.at hq0
     obtain⟨ad,rfl,g0,g1,g2⟩:=hAr.fld hf
     have hln:(i:Int)<(n:Int):=by have:=HNJ.out;rw[HN.out] at this;omega
     have hi0:(0:Int)<=(i:Int):=by omega
     have hi1:(i:Int)<(j:Int):=by omega
     have HQS:Hid ((c.q.take (i+1)).map (fun x:Int=>(l[x.toNat]?).getD Fd.z)=(c.q.take i).map (fun x:Int=>(l[x.toNat]?).getD Fd.z)++[f]):=J0 (by rw[Vv,hx];simp[hf])
     have HMS2:Hid ((c.q.take (i+1)).map (fun x:Int=>(⟨x,Vl.z⟩:Mv))=(c.q.take i).map (fun x:Int=>(⟨x,Vl.z⟩:Mv))++[⟨x,Vl.z⟩]):=J0 (by rw[Vv,hx];simp)
     have hfl:((c.q.take i).map (fun x:Int=>(l[x.toNat]?).getD Fd.z)).length=i:=by rw[Kz,Qx,HNJ.out];omega
     have hml:((c.q.take i).map (fun x:Int=>(⟨x,Vl.z⟩:Mv))).length=i:=by rw[Kz,Qx,HNJ.out];omega
     have hgF:=wW hfl hy
     have hgM:=wW hml (iw (n:=j) hlt2)
     have HSF:=J0 (wv hfl f hy)
     have HSM:=J0 (wv hml (⟨x,Vl.z⟩:Mv) (iw (n:=j) hlt2))
     clear hx hf hy hfl hml
     obtain⟨fs2,hfs2⟩:∃z,(c.q.take i).map (fun x:Int=>(l[x.toNat]?).getD Fd.z)++l.drop i=z:=⟨_,rfl⟩
     obtain⟨ms2,hms2⟩:∃z,(c.q.take i).map (fun x:Int=>(⟨x,Vl.z⟩:Mv))++(kM j).drop i=z:=⟨_,rfl⟩
     rw[hfs2] at H hgF HSF
     rw[hms2] at H hgM HSM
     clear hfs2 hms2
     obtain⟨gF,cF,rfl⟩:=VF (by rw[HFL.out,HM.out];omega)
     obtain⟨gM,cM,rfl⟩:=VM (by rw[HML.out,aP];omega)
     have hiF:(i:Int)<(fs.length:Int):=by rw[HFL.out,HM.out];omega
     have hiM:(i:Int)<(ms.length:Int):=by rw[HML.out,aP];omega
     obtain⟨H5,fr5⟩:=H.setF hgF f
     have wm:=pz H.F
     obtain⟨cf0,cf1,cf2⟩:=dK _ _ _ hgF
     obtain⟨k0,v0⟩:=wm _ _ cf0
     obtain⟨k1,v1⟩:=wm _ _ cf1
     obtain⟨k2,v2⟩:=wm _ _ cf2
     obtain⟨a0,a1,a2,a3,a4,a5,a6,a7,a8⟩:=C.c9
     obtain⟨s1,s2,s3,u1,u2,u3⟩:=H.O.f3
     clear wm cf0 cf1 cf2 hgF
     go_upto_region 35 with fail
     go_region
     have dr:=Jv (Jy (((wr.setCell ⟨gF,i * 3,none⟩ (.string f.s)).setCell ⟨gF,i * 3+1,none⟩ (.int .i64 f.k)).setCell ⟨gF,i * 3+2,none⟩ (.int .i64 f.l)).heap.size (((wr.setCell ⟨gF,i * 3,none⟩ (.string f.s)).setCell ⟨gF,i * 3+1,none⟩ (.int .i64 f.k)).setCell ⟨gF,i * 3+2,none⟩ (.int .i64 f.l)))
     have N5:=aD.below (show aD (((wr.setCell ⟨gF,i * 3,none⟩ (.string f.s)).setCell ⟨gF,i * 3+1,none⟩ (.int .i64 f.k)).setCell ⟨gF,i * 3+2,none⟩ (.int .i64 f.l)) (w.heap.size+1) [.slice none 0 0,.slice none 0 0,.slice none 0 0] 110 from(fr5 _ (by omega)).trans N) dr
     have Z5:=aD.below (show aD (((wr.setCell ⟨gF,i * 3,none⟩ (.string f.s)).setCell ⟨gF,i * 3+1,none⟩ (.int .i64 f.k)).setCell ⟨gF,i * 3+2,none⟩ (.int .i64 f.l)) (w.heap.size+2) [.slice none 0 0,.slice none 0 0,.slice none 0 0] 110 from(fr5 _ (by omega)).trans Z) dr
     have C5:=cx.below (show cx (((wr.setCell ⟨gF,i * 3,none⟩ (.string f.s)).setCell ⟨gF,i * 3+1,none⟩ (.int .i64 f.k)).setCell ⟨gF,i * 3+2,none⟩ (.int .i64 f.l)) w.heap.size c (.slice (some qd) n qc) 73 from(fr5 _ (by omega)).trans C) dr
     replace H5:=H5.below dr
     have RQ5:=RQ.below H5.B
     clear H N Z C fr5 dr a0 a1 a2 a3 a4 a5 a6 a7 a8 s1 s2 s3 u1 u2 u3 k0 k1 k2 v0 v1 v2 RQr hAr g0 g1 g2 hqc'
     generalize (((wr.setCell ⟨gF,i * 3,none⟩ (.string f.s)).setCell ⟨gF,i * 3+1,none⟩ (.int .i64 f.k)).setCell ⟨gF,i * 3+2,none⟩ (.int .i64 f.l)).drew=W5 at *
     obtain⟨qd',eq',hqc'⟩:=RQ5.at hq0
     cases eq'
     obtain⟨H6,fr6⟩:=H5.setM hgM x
     obtain⟨cm0,_,_,_⟩:=nH hgM
     obtain⟨k3,v3⟩:=pz H5.M _ _ cm0
     obtain⟨a0,a1,a2,a3,a4,a5,a6,a7,a8⟩:=C5.c9
     obtain⟨s1,s2,s3,u1,u2,u3⟩:=H5.O.f3
     clear hgM cm0 hq0
     go_upto_region 36 with fail
     go_region
     have dr:=Jv (Jy (W5.setCell ⟨gM,i * 4,none⟩ (.int .i64 x)).heap.size (W5.setCell ⟨gM,i * 4,none⟩ (.int .i64 x)))
     have N6:=aD.below (show aD (W5.setCell ⟨gM,i * 4,none⟩ (.int .i64 x)) (w.heap.size+1) [.slice none 0 0,.slice none 0 0,.slice none 0 0] 110 from(fr6 _ (by omega)).trans N5) dr
     have Z6:=aD.below (show aD (W5.setCell ⟨gM,i * 4,none⟩ (.int .i64 x)) (w.heap.size+2) [.slice none 0 0,.slice none 0 0,.slice none 0 0] 110 from(fr6 _ (by omega)).trans Z5) dr
     have C6:=cx.below (show cx (W5.setCell ⟨gM,i * 4,none⟩ (.int .i64 x)) w.heap.size c (.slice (some qd) n qc) 73 from(fr6 _ (by omega)).trans C5) dr
     replace H6:=H6.below dr
     go_wp2
     go_roundw
     case rel=>exact⟨i+1,by omega,by go_num,(by rw[HQS.out,HMS2.out,<-HSF.out,<-HSM.out];exact H6),N6,Z6,C6⟩
     case measure=>simp[intOf];omega
    ·obtain rfl:i=j:=by omega
     have hq1:c.q.take i=c.q:=Vx (by rw[HNJ.out];exact J9 _)
     have hd1:l.drop i=[]:=List.drop_of_length_le (by rw[HM.out];exact J9 _)
     have hd2:(kM i).drop i=[]:=List.drop_of_length_le (by rw[aP];exact J9 _)
     rw[hq1,hd1,hd2,List.append_nil,List.append_nil] at H
     have szX:Hid ((c.q.map (fun x:Int=>(l[x.toNat]?).getD Fd.z)).length<=281474976710656):=J0 (by rw[Kz,HNJ.out];omega)
     have SFX:Hid (gL (c.q.map (fun x:Int=>(l[x.toNat]?).getD Fd.z))):=J0 (by
      intro g hg
      obtain⟨x,hx,rfl⟩:=Vy.1 hg
      show((l[x.toNat]?).getD Fd.z).s.size<=_
      cases hlx:l[x.toNat]? with
      |none=>exact X6 _
      |some f=>exact sl f (J7 hlx))
     obtain⟨FX,hFX⟩:∃x,c.q.map (fun x:Int=>(l[x.toNat]?).getD Fd.z)=x:=⟨_,rfl⟩
     obtain⟨MX,hMX⟩:∃x,c.q.map (fun x:Int=>(⟨x,Vl.z⟩:Mv))=x:=⟨_,rfl⟩
     rw[hFX,hMX] at H
     rw[hFX] at szX SFX
     have HFX:=J0 hFX.symm
     have HMX:=J0 hMX.symm
     clear hq1 hd1 hd2 VF VM hFX hMX
     obtain⟨F5,c5,rfl,_,_,_⟩:=aL H.F
     obtain⟨M7,c7,rfl,_,_,_⟩:=aL H.M
     have H9:=H
     have N9:=N
     have Z9:=Z
     have C9:=C
     clear H N Z C
     obtain⟨eF,RF⟩:=be H9.F
     obtain⟨eM,RM⟩:=be H9.M
     have EF:=J0 eF
     have EM:=J0 eM
     clear eF eM RM
     have sz9:W0.heap.size<_:=H9.lt
     have SF:gL FX:=SFX.out
     have hFl:FX.length<=9223372036854775807:=(by have:=szX.out;omega)
     obtain⟨s1,s2,s3,u1,u2,u3⟩:=H9.O.f3
     obtain⟨n1,n2,n3,o1,o2,o3⟩:=N9.f3
     obtain⟨i1,i2,i3,j1,j2,j3⟩:=Z9.f3
     obtain⟨a0,a1,a2,a3,a4,a5,a6,a7,a8⟩:=C9.c9
     cases r
     ·go_wp2_with (go_at_call 77;refine(ab _ _ _ FX (by first|exact EF.out.symm|rfl) false (by rw[HFX.out];exact HRT.out) _ RF (by first|exact hFl|(rw[EF.out];exact hFl)) SF).mono ?_;rintro e wM ⟨rfl,hb⟩;replace H9:=H9.below hb;replace N9:=N9.below hb;replace Z9:=Z9.below hb;clear hb s1 s2 s3 u1 u2 u3 n1 n2 n3 o1 o2 o3 i1 i2 i3 j1 j2 j3 a0 a1 a2 a3 a4 a5 a6 a7 a8;obtain⟨n1,n2,n3,o1,o2,o3⟩:=N9.f3;obtain⟨i1,i2,i3,j1,j2,j3⟩:=Z9.f3)
      refine Xx (v:=.tuple #[.agg #[.slice none 0 0,.slice none 0 0,.slice none 0 0],.int .i64 80]) (by simp[results,Tryz.results154,go_sem, *];done) rfl ⟨_,_,_,_,_,_,_,_,_,rfl,gP.z _ _,?_⟩
      exact((H9.B.setCell (by show w.heap.size<=w.heap.size+1;omega) _).setCell (by show w.heap.size<=w.heap.size+1;omega) _).setCell (by show w.heap.size<=w.heap.size+1;omega) _
     ·go_wp2_with (go_at_call 77;refine(ab _ _ _ FX (by first|exact EF.out.symm|rfl) true (by rw[HFX.out];exact HRT.out) _ RF (by first|exact hFl|(rw[EF.out];exact hFl)) SF).mono ?_;rintro e wM ⟨rfl,hb⟩;replace H9:=H9.below hb;replace N9:=N9.below hb;clear hb s1 s2 s3 u1 u2 u3 n1 n2 n3 o1 o2 o3 i1 i2 i3 j1 j2 j3 a0 a1 a2 a3 a4 a5 a6 a7 a8;obtain⟨n1,n2,n3,o1,o2,o3⟩:=N9.f3;obtain⟨s1,s2,s3,u1,u2,u3⟩:=H9.O.f3)
      have BF:=aF H9.F
      have BM:=aF H9.M
      refine Xx (v:=.tuple #[.agg #[.slice A i cA,.slice F5 FX.length c5,.slice M7 MX.length c7],.int .i64 0]) (by simp[results,Tryz.results154,go_sem, *];done) rfl ⟨_,_,_,_,_,_,_,_,_,rfl,?_,?_⟩
      ·refine jW (t:=⟨l,_,_⟩) HM.out ?_ (fun _ _=>trivial) (ag (aN H9.F fun g hg=>?_) (by first|exact EF.out.symm|rfl) (by rw[HFX.out])) (by first|rw[EF.out,<-HFX.out]|rw[<-HFX.out]) (fun _ _=>trivial) (ag (aN H9.M fun g hg=>?_) (by first|exact EM.out.symm|rfl) (by rw[HMX.out])) (by first|rw[EM.out,<-HMX.out]|rw[<-HMX.out]) (fun _ _=>trivial)
       ·exact hA.below (((H9.B.setCell (by show w.heap.size<=w.heap.size+1;omega) _).setCell (by show w.heap.size<=w.heap.size+1;omega) _).setCell (by show w.heap.size<=w.heap.size+1;omega) _)
       ·have h:=BF g hg
        exact(J5 _ _ _ _ (by show g≠w.heap.size+1;omega)).trans ((J5 _ _ _ _ (by show g≠w.heap.size+1;omega)).trans (J5 _ _ _ _ (by show g≠w.heap.size+1;omega)))
       ·have h:=BM g hg
        exact(J5 _ _ _ _ (by show g≠w.heap.size+1;omega)).trans ((J5 _ _ _ _ (by show g≠w.heap.size+1;omega)).trans (J5 _ _ _ _ (by show g≠w.heap.size+1;omega)))
      ·exact((H9.B.setCell (by show w.heap.size<=w.heap.size+1;omega) _).setCell (by show w.heap.size<=w.heap.size+1;omega) _).setCell (by show w.heap.size<=w.heap.size+1;omega) _
theorem Cm (l:List Fd) (c:Ch) (m:Nat) (hm:l.length=m) (hl:m<=9223372036854775807) (A:EL) (cA:Nat) (Q:EL) (n qc:Nat) (hn:c.q.length=n) (hn1:n<=17592186044415) (x0:0<=c.d.b) (x1:c.d.b<18446744073709551616) (sl:gL l) (sg:c.g.s.size<=9223372036854775807) (w:EQ) (hA:Rd w A (aC l)) (RQ:Rd w Q (aV c.q)):
 Calls Tryz.prog 154 #[.slice A m cA,.agg #[.int .i64 c.op,.string c.s,.string c.g.s,.int .i64 c.g.k,.int .i64 c.g.l,.int .i64 c.d.k,.int .u64 c.d.b,.string c.d.t,.slice Q n qc]] w fun e w'=>yi (dy l c) (dR l c) w e w':=by
 cases hr:aK l
 ·obtain⟨e1,e2⟩:=ff (l:=l) (c:=c) (e:=60) (by simp[bj,hr]) (by decide)
  rw[e1,e2]
  exact vf l c m hm hl A cA Q n qc hn hn1 x0 x1 sl sg w hA RQ hr
 by_cases hop:1<=c.op/\c.op<=5
 ·rcases(by omega:c.op=1\/c.op=2\/c.op=3\/c.op=4\/c.op=5) with e|e|e|e|e
  ·have hT:eO l c=⟨l,l++[c.g],kM m++[⟨-1,c.d⟩]⟩:=by simp[eO,cI,dV,e,hm]
   have hF:cI l c=l++[c.g]:=by simp[cI,e]
   have hm1:=vd l c m hm hl A cA Q n qc hn hn1 x0 x1 sl sg w hA RQ e hr _ rfl _ rfl
   rw[<-hT,<-hF] at hm1
   cases hok:ie c
   ·obtain⟨e1,e2⟩:=ff (l:=l) (c:=c) (e:=80) (by simp[bj,hr,e,hok]) (by decide)
    rw[e1,e2]
    rw[hok] at hm1
    exact hm1
   ·obtain⟨e1,e2⟩:=lK (l:=l) (c:=c) (by simp[bj,hr,e,hok]) rfl
    rw[hok,Bool.true_and] at hm1
    rw[<-e1,<-e2]
    exact hm1
  ·by_cases hz:aW l c.s<0
   ·obtain⟨e1,e2⟩:=ff (l:=l) (c:=c) (e:=61) (by simp[bj,hr,e,hz]) (by decide)
    rw[e1,e2]
    exact kI l c m hm hl A cA Q n qc hn hn1 x0 x1 sl sg w hA RQ hr (by omega) hz
   ·have hk:aW l c.s=(jc l c:Nat):=by unfold jc;omega
    have hT:eO l c=⟨l,l.eraseIdx (jc l c),(kM m).eraseIdx (jc l c)⟩:=by simp[eO,cI,dV,e,hm]
    have hF:cI l c=l.eraseIdx (jc l c):=by simp[cI,e]
    have hm1:=uC l c m hm hl A cA Q n qc hn hn1 x0 x1 sl sg w hA RQ e hr _ hk _ rfl
    rw[<-hT,<-hF] at hm1
    obtain⟨e1,e2⟩:=lK (l:=l) (c:=c) (by simp[bj,hr,e,hz]) rfl
    rw[<-e1,<-e2]
    exact hm1
  ·by_cases hz:aW l c.s<0
   ·obtain⟨e1,e2⟩:=ff (l:=l) (c:=c) (e:=61) (by simp[bj,hr,e,hz]) (by decide)
    rw[e1,e2]
    exact kI l c m hm hl A cA Q n qc hn hn1 x0 x1 sl sg w hA RQ hr (by omega) hz
   ·have hk:aW l c.s=(jc l c:Nat):=by unfold jc;omega
    have hT:eO l c=⟨l,l.modify (jc l c) (fun x:Fd=>(⟨c.g.s,x.k,x.l⟩:Fd)),kM m⟩:=by simp[eO,cI,dV,e,hm]
    have hF:cI l c=l.modify (jc l c) (fun x:Fd=>(⟨c.g.s,x.k,x.l⟩:Fd)):=by simp[cI,e]
    have hm1:=pP l c m hm hl A cA Q n qc hn hn1 x0 x1 sl sg w hA RQ e hr _ hk _ rfl
    rw[<-hT,<-hF] at hm1
    obtain⟨e1,e2⟩:=lK (l:=l) (c:=c) (by simp[bj,hr,e,hz]) rfl
    rw[<-e1,<-e2]
    exact hm1
  ·by_cases hz:aW l c.s<0
   ·obtain⟨e1,e2⟩:=ff (l:=l) (c:=c) (e:=61) (by simp[bj,hr,e,hz]) (by decide)
    rw[e1,e2]
    exact kI l c m hm hl A cA Q n qc hn hn1 x0 x1 sl sg w hA RQ hr (by omega) hz
   ·have hk:aW l c.s=(jc l c:Nat):=by unfold jc;omega
    obtain⟨f,hf⟩:∃f,l[jc l c]?=some f:=⟨_,J4 (nC hz)⟩
    have hca:gR l c=aU f.k f.l c.g.k c.g.l:=by simp[gR,hf]
    cases hv:aU f.k f.l c.g.k c.g.l
    ·obtain⟨e1,e2⟩:=ff (l:=l) (c:=c) (e:=80) (by simp[bj,hr,e,hz,hca,hv]) (by decide)
     rw[e1,e2]
     exact lP l c m hm hl A cA Q n qc hn hn1 x0 x1 sl sg w hA RQ e hr _ hk f hf hv
    ·have hT:eO l c=⟨l,l.modify (jc l c) (fun x:Fd=>(⟨x.s,c.g.k,c.g.l⟩:Fd)),kM m⟩:=by simp[eO,cI,dV,e,hm]
     have hF:cI l c=l.modify (jc l c) (fun x:Fd=>(⟨x.s,c.g.k,c.g.l⟩:Fd)):=by simp[cI,e]
     have hm1:=km l c m hm hl A cA Q n qc hn hn1 x0 x1 sl sg w hA RQ e hr _ hk f hf hv _ rfl
     rw[<-hT,<-hF] at hm1
     obtain⟨e1,e2⟩:=lK (l:=l) (c:=c) (by simp[bj,hr,e,hz,hca,hv]) rfl
     rw[<-e1,<-e2]
     exact hm1
  ·cases hv:fD c.q m
   ·obtain⟨e1,e2⟩:=ff (l:=l) (c:=c) (e:=80) (by simp[bj,hr,e,hm,hv]) (by decide)
    rw[e1,e2]
    exact mW l c m hm hl A cA Q n qc hn hn1 x0 x1 sl sg w hA RQ e hr hv
   ·have hT:eO l c=⟨l,c.q.map fun x=>(l[x.toNat]?).getD Fd.z,c.q.map fun x=>⟨x,Vl.z⟩⟩:=by simp[eO,cI,dV,e]
    have hF:cI l c=c.q.map fun x=>(l[x.toNat]?).getD Fd.z:=by simp[cI,e]
    have hm1:=lO l c m hm hl A cA Q n qc hn hn1 x0 x1 sl sg w hA RQ e hr hv _ rfl
    rw[<-hT,<-hF] at hm1
    obtain⟨e1,e2⟩:=lK (l:=l) (c:=c) (by simp[bj,hr,e,hm,hv]) rfl
    rw[<-e1,<-e2]
    exact hm1
 ·obtain⟨e1,e2⟩:=ff (l:=l) (c:=c) (e:=80) (by simp[bj,hr,hop]) (by decide)
  rw[e1,e2]
  rcases(by omega:c.op<1\/5<c.op) with h|h
  ·exact yK l c m hm hl A cA Q n qc hn hn1 x0 x1 sl sg w hA RQ hr h
  ·exact vg l c m hm hl A cA Q n qc hn hn1 x0 x1 sl sg w hA RQ hr h
def bV (cs:List (Ch×ER)):EO:=cs.flatMap fun p=>pX p.1 p.2
theorem uq {cs:List (Ch×ER)} {i:Nat} {p:Ch×ER} (h:cs[i]?=some p):∀j,j<9->(bV cs)[i * 9+j]?=(pX p.1 p.2)[j]?:=by
 induction cs generalizing i with
 |nil=>simp at h
 |cons a r ih=>
  have e:bV (a :: r)=pX a.1 a.2++bV r:=by simp[bV]
  intro j hj
  cases i with
  |zero=>simp at h;subst h;rw[e,Nat.zero_mul,Nat.zero_add,X9 (by simp[pX];omega)]
  |succ i=>rw[e,Qk (by simp[pX];omega),show(i+1) * 9+j - (pX a.1 a.2).length=i * 9+j by simp[pX];omega];exact ih (by simpa using h) j hj
def ou (w:EQ) (p:Ch×ER):Prop:=∃Q qc,p.2=.slice Q p.1.q.length qc/\p.1.q.length<=qc/\qc<=maxLen/\Rd w Q (aV p.1.q)
theorem ou.below {w w':EQ} {p:Ch×ER} (h:ou w p) (hb:Below w.heap.size w w'):ou w' p:=by
 obtain⟨Q,qc,e,h1,h2,hr⟩:=h
 exact⟨Q,qc,e,h1,h2,hr.below hb⟩
theorem Rd.ch {w:EQ} {A:EL} {cs:List (Ch×ER)} (h:Rd w A (bV cs)) {k:Nat} {p:Ch×ER} (hp:cs[k]?=some p):∃ad,A=some ad/\w.cell? (ad.add (k * 9))=some (.int .i64 p.1.op)/\w.cell? ⟨(ad.add (k * 9)).block,(ad.add (k * 9)).off+(0+1),none⟩=some (.string p.1.s)/\w.cell? ⟨(ad.add (k * 9)).block,(ad.add (k * 9)).off+(1+1),none⟩=some (.string p.1.g.s)/\
 w.cell? ⟨(ad.add (k * 9)).block,(ad.add (k * 9)).off+(2+1),none⟩=some (.int .i64 p.1.g.k)/\w.cell? ⟨(ad.add (k * 9)).block,(ad.add (k * 9)).off+(3+1),none⟩=some (.int .i64 p.1.g.l)/\w.cell? ⟨(ad.add (k * 9)).block,(ad.add (k * 9)).off+(4+1),none⟩=some (.int .i64 p.1.d.k)/\
 w.cell? ⟨(ad.add (k * 9)).block,(ad.add (k * 9)).off+(5+1),none⟩=some (.int .u64 p.1.d.b)/\w.cell? ⟨(ad.add (k * 9)).block,(ad.add (k * 9)).off+(6+1),none⟩=some (.string p.1.d.t)/\w.cell? ⟨(ad.add (k * 9)).block,(ad.add (k * 9)).off+(7+1),none⟩=some p.2:=by
 have g:=uq hp
 obtain⟨ad,rfl,h0⟩:=h.at (j:=k * 9+0) ((g 0 (by omega)).trans rfl)
 have key:∀j u,j+1<9->(pX p.1 p.2)[j+1]?=some u->w.cell? ⟨(ad.add (k * 9)).block,(ad.add (k * 9)).off+(j+1),none⟩=some u:=fun j u hj hu=>by
  obtain⟨_,e1,h1⟩:=h.at (j:=k * 9+(j+1)) ((g (j+1) hj).trans hu)
  cases e1
  rw[ba _ _ j] at h1
  exact h1
 exact⟨ad,rfl,h0,key 0 _ (by omega) rfl,key 1 _ (by omega) rfl,key 2 _ (by omega) rfl,key 3 _ (by omega) rfl,key 4 _ (by omega) rfl,key 5 _ (by omega) rfl,key 6 _ (by omega) rfl,key 7 _ (by omega) rfl⟩
def Et (p:Ch×ER):Prop:=p.1.s.size<=281474976710656/\p.1.g.s.size<=281474976710656/\p.1.d.t.size<=281474976710656/\p.1.q.length<=17592186044415
end
section
open Go.ChangeShapes Go.WideShapes Go.ChangeAt Go.RowKit Go.Joins Go.Deep
open Go.ChangeMaps (open_string shut_string)
def kS {H:Type} (t:ES) (d:DataW H):Prop:=∀n∈DataW.weights Tryz.prog t d,n<=reachBytes
theorem kS.of {H:Type} {ts:List ES} {ds:List (DataW H)} (h:(DataW.weightsEach Tryz.prog ts ds).all (·<=reachBytes)=true) {j:Nat} {t:ES} {d:DataW H} (ht:ts[j]?=some t) (hd:ds[j]?=some d):kS t d:=fun n hn=>by
 have:=List.all_eq_true.1 h _ (DataW.weights_mem_each ht hd n hn)
 simpa using this
theorem jo {H:Type} {e:ES}:∀{l:List (DataW H)} {d:DataW H},d∈l->∀n∈DataW.weights Tryz.prog e d,n∈DataW.weightsAll Tryz.prog e l
 |d' :: r,d,hd,n,hn=>by
  simp only[DataW.weightsAll,X5]
  rcases List.mem_cons.1 hd with rfl|h
  ·exact Or.inl hn
  ·exact Or.inr (jo h n hn)
theorem kS.part {H:Type} {t t1:ES} {fs:Array Field} {ps:List (DataW H)} {j:Nat} {f:Field} {d:DataW H} (h:kS t (.agg ps)) (hu:Tryz.prog.underlying t=some (.struct fs)) (hf:fs[j]?=some f) (ht:f.type=t1) (hd:ps[j]?=some d):kS t1 d:=fun n hn=>by
 refine h n ?_
 simp only[DataW.weights,hu]
 refine DataW.weights_mem_each (j:=j) (t:=t1) ?_ hd n hn
 rw[Kv,Array.getElem?_toList,hf,<-ht]
 rfl
theorem kS.elem {H:Type} {t e:ES} {l sp:List (DataW H)} {d:DataW H} (h:kS t (.slice l sp)) (hu:Tryz.prog.underlying t=some (.slice e)) (hd:d∈l):kS e d:=fun n hn=>by
 refine h n ?_
 simp only[DataW.weights,hu,List.mem_cons,X5]
 exact .inr (.inl (jo hd n hn))
theorem kS.len {H:Type} {t e:ES} {l sp:List (DataW H)} (h:kS t (.slice l sp)) (hu:Tryz.prog.underlying t=some (.slice e)) (hb:1<=Tryz.prog.bytesOf e):l.length<=reachBytes:=by
 have h1:(l.length+sp.length) * Tryz.prog.bytesOf e<=reachBytes:=h _ (by simp only[DataW.weights,hu,List.mem_cons,true_or])
 have:l.length+sp.length<=(l.length+sp.length) * Tryz.prog.bytesOf e:=Nat.le_mul_of_pos_right _ hb
 omega
theorem kS.lenB {H:Type} {t e:ES} {l sp:List (DataW H)} (h:kS t (.slice l sp)) (hu:Tryz.prog.underlying t=some (.slice e)):l.length * Tryz.prog.bytesOf e<=reachBytes:=by
 have h1:(l.length+sp.length) * Tryz.prog.bytesOf e<=reachBytes:=h _ (by simp only[DataW.weights,hu,List.mem_cons,true_or])
 have:l.length * Tryz.prog.bytesOf e<=(l.length+sp.length) * Tryz.prog.bytesOf e:=Nat.mul_le_mul_right _ (by omega)
 omega
theorem kS.str {H:Type} {t:ES} {s:EP} (h:kS (H:=H) t (.lit (.string s.data.toList))):s.size<=reachBytes:=by
 have:=h s.data.toList.length (by simp[DataW.weights])
 simpa using this
theorem jY {n:Nat} (h:n<=reachBytes):n<=281474976710656:=by
 have:=reachBytes_lt
 omega
section
variable {H:Type} {enc:ES×ER->H} {w:EQ} {base b0:Nat} {r:Reach} {spare:Nat->Bool} {held:Bool} {v:ER} {d:DataW H} {p:List MemPlace}
theorem tD {n:Nat} {cs:EO} {x:DataW H×List MemPlace} (h:DataW.trod enc Tryz.prog w base spare held n 68 cs=some x):
 ∃f:Fd,cs=[.string f.s,.int .i64 f.k,.int .i64 f.l]/\f.s.size<=maxLen/\(kS 68 x.1->f.s.size<=281474976710656):=by
 obtain⟨y0,y1,y2,m,rfl,hl,h0,h1,h2⟩:=trod_struct3 Tryz.underlying68 h
 have c3:Tryz.prog.cellsOf 68=3:=by kernel_rfl
 have k0:Tryz.prog.cellsOf 9=1:=by kernel_rfl
 have k1:Tryz.prog.cellsOf 3=1:=by kernel_rfl
 rw[c3] at hl
 obtain⟨c0,c1,c2,rfl⟩:∃a b c,cs=[a,b,c]:=by
  match cs,hl with
  |[a,b,c],_=>exact⟨a,b,c,rfl⟩
 simp only[k0,k1] at h0 h1 h2
 obtain⟨s,e0,e3,w0⟩:=DataW.trod_string Tryz.underlying9 h0
 obtain⟨k,e1,_,w1⟩:=DataW.trod_int Tryz.underlying3 h1
 obtain⟨l,e2,_,w2⟩:=DataW.trod_int Tryz.underlying3 h2
 simp at e0 e1 e2
 subst e0 e1 e2
 refine⟨⟨s,k,l⟩,rfl,w0,fun hz=>jY ?_⟩
 subst e3
 exact(hz.part Tryz.underlying68 (j:=0) rfl rfl rfl).str
theorem zQ {n:Nat} {cs:EO} {x:DataW H×List MemPlace} (h:DataW.trod enc Tryz.prog w base spare held n 71 cs=some x):
 ∃f:Vl,cs=[.int .i64 f.k,.int .u64 f.b,.string f.t]/\(0<=f.b/\f.b<18446744073709551616)/\(kS 71 x.1->f.t.size<=281474976710656):=by
 obtain⟨y0,y1,y2,m,rfl,hl,h0,h1,h2⟩:=trod_struct3 Tryz.underlying71 h
 have c3:Tryz.prog.cellsOf 71=3:=by kernel_rfl
 have k0:Tryz.prog.cellsOf 9=1:=by kernel_rfl
 have k1:Tryz.prog.cellsOf 3=1:=by kernel_rfl
 have k2:Tryz.prog.cellsOf 69=1:=by kernel_rfl
 rw[c3] at hl
 obtain⟨c0,c1,c2,rfl⟩:∃a b c,cs=[a,b,c]:=by
  match cs,hl with
  |[a,b,c],_=>exact⟨a,b,c,rfl⟩
 simp only[k0,k1,k2] at h0 h1 h2
 obtain⟨k,e0,_,w0⟩:=DataW.trod_int Tryz.underlying3 h0
 obtain⟨b,e1,_,w1⟩:=DataW.trod_int Tryz.underlying69 h1
 obtain⟨s,e2,e3,w2⟩:=DataW.trod_string Tryz.underlying9 h2
 simp at e0 e1 e2
 subst e0 e1 e2
 refine⟨⟨k,b,s⟩,rfl,DG w1,fun hz=>jY ?_⟩
 subst e3
 exact(hz.part Tryz.underlying71 (j:=2) rfl rfl rfl).str
theorem pe {n:Nat} {cs:EO} {x:DataW H×List MemPlace} (h:DataW.trod enc Tryz.prog w base spare held n 29 cs=some x):
 ∃Q q qc,cs=[.slice Q q.length qc]/\q.length<=qc/\qc<=maxLen/\Rd w Q (aV q)/\(kS 29 x.1->q.length<=17592186044415):=by
 rcases open_ints Tryz.underlying29 Tryz.underlying3 (by kernel_rfl) h with ⟨hcs,_⟩|⟨a,l,c,zs,hcs,_,hl,hm,hz,hx,hcell,hwz⟩
 ·exact⟨none,[],0,hcs,J9 _,X6 _,Rd.nil _ _,fun _=>X6 _⟩
 ·have hzl:l<=zs.length:=by rw[hz];split <;> omega
  have hlen:(zs.take l).length=l:=by rw[Qx];omega
  refine⟨some a,zs.take l,c,by rw[hlen];exact hcs,by rw[hlen];exact hl,hm,fun _=>⟨a,rfl,fun j u hj=>?_⟩,fun hs=>?_⟩
  ·have hjl:j<l:=by
    rcases Nat.lt_or_ge j l with h'|h'
    ·exact h'
    ·rw[Xv (by rw[jk,hlen];exact h')] at hj;cases hj
   have hjz:j<zs.length:=by omega
   rw[hcell j hjz]
   simp only[aV,Kv,X7,Xz hjl,J4 hjz,Option.map_some,Option.some.injEq] at hj
   rw[<-hj]
   simp[Yy,J4 hjz]
  ·subst hx
   have h8:Tryz.prog.bytesOf 3=8:=by kernel_rfl
   have:=hs.lenB Tryz.underlying29
   rw[h8] at this
   have hr:=reachBytes_lt
   simp[lits] at this
   rw[hlen]
   simp at hlen
   omega
theorem zP {n:Nat} {cs:EO} {x:DataW H×List MemPlace} (h:DataW.trod enc Tryz.prog w base spare held n 73 cs=some x):
 ∃(c:Ch) (Q:EL) (qc:Nat),cs=pX c (.slice Q c.q.length qc)/\(-9223372036854775808<=c.op/\c.op<=9223372036854775807)/\(0<=c.d.b/\c.d.b<18446744073709551616)/\c.q.length<=qc/\qc<=maxLen/\Rd w Q (aV c.q)/\
  (kS 73 x.1->c.s.size<=281474976710656/\c.g.s.size<=281474976710656/\c.d.t.size<=281474976710656/\c.q.length<=17592186044415):=by
 obtain⟨xs,m,_,rfl,hl,hxl,hf⟩:=DataW.trod_struct Tryz.underlying73 h
 have c9:Tryz.prog.cellsOf 73=9:=by kernel_rfl
 have k0:Tryz.prog.cellsOf 9=1:=by kernel_rfl
 have k1:Tryz.prog.cellsOf 3=1:=by kernel_rfl
 have k3:Tryz.prog.cellsOf 68=3:=by kernel_rfl
 have k4:Tryz.prog.cellsOf 71=3:=by kernel_rfl
 have k5:Tryz.prog.cellsOf 29=1:=by kernel_rfl
 rw[c9] at hl
 obtain⟨c0,c1,c2,c3,c4,c5,c6,c7,c8,rfl⟩:∃a b c d e f g h i,cs=[a,b,c,d,e,f,g,h,i]:=by
  match cs,hl with
  |[a,b,c,d,e,f,g,h,i],_=>exact⟨a,b,c,d,e,f,g,h,i,rfl⟩
 obtain⟨y0,y1,y2,y3,y4,rfl⟩:∃a b c d e,xs=[a,b,c,d,e]:=by
  match xs,hxl with
  |[a,b,c,d,e],_=>exact⟨a,b,c,d,e,rfl⟩
 have h0:DataW.trod enc Tryz.prog w base spare held m 3 (([c0,c1,c2,c3,c4,c5,c6,c7,c8].drop 0).take (Tryz.prog.cellsOf 3))=some y0:=hf 0 _ rfl
 rw[k1] at h0
 have h1:DataW.trod enc Tryz.prog w base spare held m 9 (([c0,c1,c2,c3,c4,c5,c6,c7,c8].drop 1).take (Tryz.prog.cellsOf 9))=some y1:=hf 1 _ rfl
 rw[k0] at h1
 have h2:DataW.trod enc Tryz.prog w base spare held m 68 (([c0,c1,c2,c3,c4,c5,c6,c7,c8].drop 2).take (Tryz.prog.cellsOf 68))=some y2:=hf 2 _ rfl
 rw[k3] at h2
 have h3:DataW.trod enc Tryz.prog w base spare held m 71 (([c0,c1,c2,c3,c4,c5,c6,c7,c8].drop 5).take (Tryz.prog.cellsOf 71))=some y3:=hf 3 _ rfl
 rw[k4] at h3
 have h4:DataW.trod enc Tryz.prog w base spare held m 29 (([c0,c1,c2,c3,c4,c5,c6,c7,c8].drop 8).take (Tryz.prog.cellsOf 29))=some y4:=hf 4 _ rfl
 rw[k5] at h4
 obtain⟨o,e0,_,w0⟩:=DataW.trod_int Tryz.underlying3 h0
 obtain⟨s,e1,e3,w1⟩:=DataW.trod_string Tryz.underlying9 h1
 obtain⟨g,e2,_,hg⟩:=tD h2
 obtain⟨vl,e4,hb,hv⟩:=zQ h3
 obtain⟨Q,q,qc,e5,hq1,hq2,hR,hq⟩:=pe h4
 simp at e0 e1 e2 e4 e5
 obtain⟨rfl,rfl,rfl⟩:=e2
 obtain⟨rfl,rfl,rfl⟩:=e4
 subst e0 e1 e5
 refine⟨⟨o,s,g,vl,q⟩,Q,qc,rfl,vx w0,hb,hq1,hq2,hR,fun hz=>?_⟩
 have z1:=hz.part Tryz.underlying73 (j:=1) rfl rfl rfl
 have z2:=hz.part Tryz.underlying73 (j:=2) rfl rfl rfl
 have z3:=hz.part Tryz.underlying73 (j:=3) rfl rfl rfl
 have z4:=hz.part Tryz.underlying73 (j:=4) rfl rfl rfl
 subst e3
 exact⟨jY z1.str,hg z2,hv z3,hq z4⟩
theorem iq {α:Type} {F:α->EO} {k:Nat} (hk:∀a,(F a).length=k) {l:List α} {i:Nat} {a:α} (h:l[i]?=some a):∀r,r<k->(l.flatMap F)[i * k+r]?=(F a)[r]?:=by
 induction l generalizing i with
 |nil=>simp at h
 |cons b t ih=>
  intro r hr
  cases i with
  |zero=>simp at h;subst h;rw[List.flatMap_cons,Nat.zero_mul,Nat.zero_add,X9 (by rw[hk];exact hr)]
  |succ i=>rw[List.flatMap_cons,Qk (by rw[hk,Nat.succ_mul];omega),show(i+1) * k+r - (F b).length=i * k+r by rw[hk,Nat.succ_mul];omega];exact ih (by simpa using h) r hr
theorem tM {α:Type} {F:α->EO} {k:Nat} (hk:∀a,(F a).length=k) (l:List α):(l.flatMap F).length=l.length * k:=by
 induction l with
 |nil=>simp
 |cons b t ih=>rw[List.flatMap_cons,Vq,hk,ih,Xq,Nat.succ_mul];omega
theorem Ac {α:Type} (a0:α) {F:α->EO} {k:Nat} (hk:∀a,(F a).length=k) (hk1:0<k) {t e:ES} (hu:Tryz.prog.underlying t=some (.slice e)) (hc:Tryz.prog.cellsOf e=k) (hb:1<=Tryz.prog.bytesOf e) {G Z:α->Prop}
 (E:∀{n:Nat} {cs:EO} {x:DataW H×List MemPlace},DataW.trod enc Tryz.prog w base spare held n e cs=some x->∃a,cs=F a/\G a/\(kS e x.1->Z a))
 (hv:Value.okWide Tryz.prog w r b0 t v) (h:DataW.Trod enc Tryz.prog w base spare held t v d p):
 ∃(A:EL) (c:Nat) (l:List α),v=.slice A l.length c/\l.length<=c/\c<=maxLen/\Rd w A (l.flatMap F)/\(∀a∈l,G a)/\(kS t d->(∀a∈l,Z a)/\l.length<=281474976710656):=by
 obtain⟨a,len,cap,rfl⟩:=okWide_slice hu hv
 obtain⟨fuel,hf⟩:=h
 rcases open_slice hu hf with ⟨hcs,_⟩|⟨x,l,c,m,n,D,Pl,hcs,_,hl,hm,hmm,hx,hi⟩
 ·simp[Value.cells] at hcs
  obtain⟨rfl,rfl,rfl⟩:=hcs
  exact⟨none,0,[],rfl,J9 _,X6 _,Rd.nil _ _,by simp,fun _=>⟨by simp,X6 _⟩⟩
 ·simp[Value.cells] at hcs
  obtain⟨rfl,rfl,rfl⟩:=hcs
  have hlm:len<=m:=by rw[hmm];split <;> omega
  have hel:∀i,∃a:α,i<len->G a/\(kS e (D i)->Z a)/\∀j,j<k->w.cell? ((x.add (i * k)).add j)=(F a)[j]?:=fun i=>by
   by_cases hlt:i<len
   ·obtain⟨cs',hc',ht⟩:=hi i (by omega)
    rw[hc] at hc'
    obtain⟨_,_,hat⟩:=World.cells?_some hc'
    obtain⟨a,rfl,hG,hZ⟩:=E ht
    exact⟨a,fun _=>⟨hG,hZ,fun j hj=>hat j hj⟩⟩
   ·exact⟨a0,fun h=>absurd h hlt⟩
  let B:=fun i=>Classical.choose (hel i)
  have hB:∀i,i<len->G (B i)/\(kS e (D i)->Z (B i))/\∀j,j<k->w.cell? ((x.add (i * k)).add j)=(F (B i))[j]?:=fun i=>Classical.choose_spec (hel i)
  have hlen:((List.range len).map B).length=len:=by simp
  refine⟨some x,cap,(List.range len).map B,by rw[hlen],by rw[hlen];exact hl,hm,fun _=>⟨x,rfl,fun j u hj=>?_⟩,?_,fun hz=>⟨?_,?_⟩⟩
  ·have hjl:j<len * k:=by
    have:=(J6.1 hj).1
    rw[tM hk,hlen] at this;exact this
   have hq:j / k<len:=Nat.div_lt_of_lt_mul (by rw[Nat.mul_comm];exact hjl)
   have hr:j % k<k:=Nat.mod_lt _ hk1
   have hj2:j=j / k * k+j % k:=by rw[Nat.mul_comm];exact(Nat.div_add_mod j k).symm
   rw[hj2,iq hk (l:=(List.range len).map B) (i:=j / k) (a:=B (j / k)) (by simp[hq]) _ hr] at hj
   rw[hj2,<-Addr.add_add,(hB _ hq).2.2 _ hr,hj]
  ·intro b hb
   simp at hb
   obtain⟨i,hi,rfl⟩:=hb
   exact(hB i hi).1
  ·intro b hb
   simp at hb
   obtain⟨i,hi,rfl⟩:=hb
   refine(hB i hi).2.1 ?_
   have hx1:d=.slice ((List.range len).map D) ((List.range (m - len)).map fun j=>D (len+j)):=congrArg Prod.fst hx
   rw[hx1] at hz
   exact hz.elem hu (Vy.2 ⟨i,by simp[hi],rfl⟩)
  ·rw[hlen]
   have hx1:d=.slice ((List.range len).map D) ((List.range (m - len)).map fun j=>D (len+j)):=congrArg Prod.fst hx
   rw[hx1] at hz
   have:=hz.len hu hb
   simp at this
   exact jY this
def Es (w:EQ) (x:Ch×ER):Prop:=(-9223372036854775808<=x.1.op/\x.1.op<=9223372036854775807)/\(0<=x.1.d.b/\x.1.d.b<18446744073709551616)/\ou w x
end
end
section
open Go.RowKit Go.Lib
structure pS (w W:EQ) (T:ES) (P Q N:EO):Prop where
 B:Below w.heap.size w W
 P:aD W w.heap.size P T
 Q:aD W (w.heap.size+1) Q T
 N:aD W (w.heap.size+2) N T
theorem pS.below {w W W':EQ} {T:ES} {P Q N:EO} (h:pS w W T P Q N) (hb:Below W.heap.size W W'):pS w W' T P Q N:=
 ⟨aB h.B hb,h.P.below hb,h.Q.below hb,h.N.below hb⟩
theorem pS.new (w:EQ) (T:ES) (P Q N:EO):pS w (((w.alloc (.cells P.toArray T)).alloc (.cells Q.toArray T)).alloc (.cells N.toArray T)) T P Q N:=by
 refine⟨aB (aA _) (aB (aA _) (aA _)),((aD.new w P T).below (aA _)).below (aA _),?_,?_⟩
 ·have:=(aD.new (w.alloc (.cells P.toArray T)) Q T).below (aA (.cells N.toArray T))
  rw[Jq] at this;exact this
 ·have:=aD.new ((w.alloc (.cells P.toArray T)).alloc (.cells Q.toArray T)) N T
  rw[Jq,Jq] at this;exact this
theorem pS.two {w W0 W:EQ} {T:ES} {x0 x1 x2 y0 y1 y2:ER} {N:EO} (h:pS w W0 T [x0,x1,x2] [y0,y1,y2] N) (hb:Below W0.heap.size W0 W):
 W.cell? ⟨w.heap.size,0,none⟩=some x0/\W.cell? ⟨w.heap.size+1,1,none⟩=some y1/\Below W0.heap.size W0 W:=⟨(h.below hb).P.f3.1,(h.below hb).Q.f3.2.1,hb⟩
theorem au.up {P:Nat->Prop} {w w':EQ} {A:EL} {cs:EO} (h:au P w A cs) (hb:Below w.heap.size w w'):au P w' A cs:=
 (h.lt.keep (fun g hg=>hb.block g hg.2)).mono fun g hg=>hg.1
theorem au.set3 {P:Nat->Prop} {w:EQ} {A:EL} {cs:EO} (h:au P w A cs) (p:Nat) (hp:∀g,P g->g≠p) (i j k:Nat) (x y z:ER):au P (((w.setCell ⟨p,i,none⟩ x).setCell ⟨p,j,none⟩ y).setCell ⟨p,k,none⟩ z) A cs:=
 h.keep (fun g hg=>(J5 _ _ _ _ (hp g hg)).trans ((J5 _ _ _ _ (hp g hg)).trans (J5 _ _ _ _ (hp g hg))))
theorem vO {w:EQ} {base n c:Nat} {e:ES} {K:Nat} {A:EL} {xs:EO} (h:w.ownsRow base e K (.slice A n c) n xs):au (fun g=>base<=g/\g<w.heap.size) w A xs:=
 dj h fun g hg=>⟨aF h g hg,aY h g hg⟩
theorem bN {t:Tb} (h:ar t=true):t.o.length<=16/\t.n.length<=16/\t.m.length<=16:=by
 obtain⟨h1,h2,h3,-⟩:=ae.1 h
 have a:=(aQ h1).2
 have b:=(aQ h2).2
 omega
theorem wg {a b:Tb} (h:gV a b=false):az a b=70/\bv a b=Tb.z:=by
 have e:az a b=70:=by rw[az,Xy (by rw[h];rintro ⟨h,_⟩;cases h)]
 exact⟨e,by rw[bv,Xy (by rw[e];decide)]⟩
theorem pS.step {w W W':EQ} {T:ES} {P Q N:EO} (h:pS w W T P Q N) {M:Nat} (hM:w.heap.size+2<M) (BG:Below M W W') {p:Nat} (hp:w.heap.size+2<p) (j:Nat) (v:ER):pS w (W'.setCell ⟨p,j,none⟩ v) T P Q N:=by
 have k:∀g,g<=w.heap.size+2->(W'.setCell ⟨p,j,none⟩ v).heap[g]?=W.heap[g]?:=fun g hg=>(J5 _ _ _ _ (by show g≠p;omega)).trans (BG.block g (by omega))
 exact⟨(h.B.trans (BG.mono (by omega))).setCell (by show _<=p;omega) _,(k _ (by omega)).trans h.P,(k _ (by omega)).trans h.Q,(k _ (by omega)).trans h.N⟩
theorem nN (a b:Tb) {k:Nat} {y:Mv} (h:eA a b k=y):aJ (eD a b (k+1))=aJ (eD a b k)++[.int .i64 y.f,.int .i64 y.d.k,.int .u64 y.d.b,.string y.d.t]:=by
 rw[ux,bu,h];rfl
theorem nE (v:Vl) (f g:Fd):gp v.k v.b v.t f.k f.l g.k g.l=.agg #[.int .i64 (dH v f g).k,.int .u64 (dH v f g).b,.string (dH v f g).t]:=Bm v f g
theorem dY.of {w:EQ} {b:Nat} {m:Mv} {T:ES} (h:aD w b [.int .i64 m.f,.int .i64 m.d.k,.int .u64 m.d.b,.string m.d.t] T):dY w b m:=⟨h.cell rfl,h.cell rfl,h.cell rfl,h.cell rfl⟩
theorem aD.far {w:EQ} {b:Nat} {cs:EO} {T:ES} (h:aD w b cs T) {p:Addr} (hp:p.block≠b) (v:ER):aD (w.setCell p v) b cs T:=(J5 w p v b (fun e=>hp e.symm)).trans h
theorem pU {w:EQ} {b:Nat} {f:Fd} {T:ES} (h:aD w b [.string f.s,.int .i64 f.k,.int .i64 f.l] T):w.cell? ⟨b,0,none⟩=some (.string f.s)/\w.cell? ⟨b,1,none⟩=some (.int .i64 f.k)/\w.cell? ⟨b,2,none⟩=some (.int .i64 f.l):=⟨h.cell rfl,h.cell rfl,h.cell rfl⟩
theorem cV {w:EQ} {b:Nat} {m:Mv} {T:ES} (h:aD w b [.int .i64 m.f,.int .i64 m.d.k,.int .u64 m.d.b,.string m.d.t] T):w.cell? ⟨b,0,none⟩=some (.int .i64 m.f)/\w.cell? ⟨b,1,none⟩=some (.int .i64 m.d.k)/\w.cell? ⟨b,2,none⟩=some (.int .u64 m.d.b)/\w.cell? ⟨b,3,none⟩=some (.string m.d.t)/\w.frozen? ⟨b,0,none⟩=false/\w.frozen? ⟨b,1,none⟩=false/\w.frozen? ⟨b,2,none⟩=false/\w.frozen? ⟨b,3,none⟩=false:=⟨h.cell rfl,h.cell rfl,h.cell rfl,h.cell rfl,h.frz 0,h.frz 1,h.frz 2,h.frz 3⟩
end
end Go.Proofs.YteembinfgbapgaaGreat
