/- Merged out of: Og. -/
import Derived.Test.YteembinfgbapgaaGreatC00
import Derived.Test.YteembinfgbapgaaGreatC23
set_option linter.unusedSimpArgs false
set_option linter.unusedVariables false
set_option maxRecDepth 100000
set_option maxHeartbeats 8000000
namespace Go.Proofs.YteembinfgbapgaaGreat
section
open Go.RowKit Go.Lib
theorem rMake_recasts_yes (l:List Fd) (c:Ch) (m:Nat) (hm:l.length=m) (hl:m≤9223372036854775807) (A:Option Addr) (cA:Nat) (Q:Option Addr) (n qc:Nat) (hn:c.q.length=n) (hn1:n≤17592186044415) (x0:0≤c.d.b) (x1:c.d.b<18446744073709551616) (sl:FdS l) (sg:c.g.s.size≤9223372036854775807) (w:World) (hA:Rd w A (cellsF l)) (RQ:Rd w Q (cellsI c.q)) (hop:c.op=4) (hr:rightF l=true) (k:Nat) (hk:findZ l c.s=k) (fk:Fd) (hfk:l[k]?=some fk) (hv:castsB fk.k fk.l c.g.k c.g.l=true) (r:Bool) (hrt:rightF (l.modify k (fun x:Fd=>(⟨x.s,c.g.k,c.g.l⟩:Fd)))=r):
 Calls Tryz.prog 154 #[.slice A m cA,.agg #[.int .i64 c.op,.string c.s,.string c.g.s,.int .i64 c.g.k,.int .i64 c.g.l,.int .i64 c.d.k,.int .u64 c.d.b,.string c.d.t,.slice Q n qc]] w fun e w'=>RkP (bif r then⟨l,(l.modify k (fun x:Fd=>(⟨x.s,c.g.k,c.g.l⟩:Fd))),(kM m)⟩ else Tb.z) (bif r then 0 else 80) w e w':=by
 have h16:m≤16:=by rw[←hm];exact(rightF_may hr).2
 obtain⟨iF,hiF,hzF0,hzF1,hzF2⟩:=info_parts infoFd
 obtain⟨iM,hiM,hzM0,hzM1,hzM2⟩:=info_parts infoMr
 have bb1:=below_new (w:=w) (.cells #[.int .i64 c.op,.string c.s,.string c.g.s,.int .i64 c.g.k,.int .i64 c.g.l,.int .i64 c.d.k,.int .u64 c.d.b,.string c.d.t,.slice Q n qc] 73)
 have bb2:=below_new (w:=w.alloc (.cells #[.int .i64 c.op,.string c.s,.string c.g.s,.int .i64 c.g.k,.int .i64 c.g.l,.int .i64 c.d.k,.int .u64 c.d.b,.string c.d.t,.slice Q n qc] 73)) (.cells #[.slice none 0 0,.slice none 0 0,.slice none 0 0] 110)
 have bb3:=below_new (w:=(w.alloc (.cells #[.int .i64 c.op,.string c.s,.string c.g.s,.int .i64 c.g.k,.int .i64 c.g.l,.int .i64 c.d.k,.int .u64 c.d.b,.string c.d.t,.slice Q n qc] 73)).alloc (.cells #[.slice none 0 0,.slice none 0 0,.slice none 0 0] 110)) (.cells #[.slice none 0 0,.slice none 0 0,.slice none 0 0] 110)
 have C:CBox _ _ c (.slice Q n qc) 73:=((OBox.new w (chL c (.slice Q n qc)) 73).below bb2).below bb3
 have N:=(OBox.new (w.alloc (.cells #[.int .i64 c.op,.string c.s,.string c.g.s,.int .i64 c.g.k,.int .i64 c.g.l,.int .i64 c.d.k,.int .u64 c.d.b,.string c.d.t,.slice Q n qc] 73)) [.slice none 0 0,.slice none 0 0,.slice none 0 0] 110).below bb3
 have Z:=OBox.new ((w.alloc (.cells #[.int .i64 c.op,.string c.s,.string c.g.s,.int .i64 c.g.k,.int .i64 c.g.l,.int .i64 c.d.k,.int .u64 c.d.b,.string c.d.t,.slice Q n qc] 73)).alloc (.cells #[.slice none 0 0,.slice none 0 0,.slice none 0 0] 110)) [.slice none 0 0,.slice none 0 0,.slice none 0 0] 110
 rw[Jq] at N
 rw[Jq,Jq] at Z
 have HB:=below_seq (below_seq bb1 bb2) bb3
 have hA1:=hA.below HB
 obtain⟨a0,a1,a2,a3,a4,a5,a6,a7,a8⟩:=C.c9
 obtain⟨n1,n2,n3,o1,o2,o3⟩:=N.f3
 obtain⟨i1,i2,i3,j1,j2,j3⟩:=Z.f3
 obtain⟨z,hz⟩:∃z,findZ l c.s=z:=⟨_,rfl⟩
 have HZ:=J0 hz
 have HM:=J0 hm
 have HN:=J0 hn
 clear bb1 bb2 bb3
 have y1:decide (c.op<1)=false:=by rw[hop];decide
 have y2:decide (5<c.op)=false:=by rw[hop];decide
 have y3:decide (2≤c.op)=true:=by rw[hop];decide
 have y4:decide (c.op≤4)=true:=by rw[hop];decide
 have y6:(c.op == 3)=false:=by rw[hop];decide
 have y7:(c.op == 4)=true:=by rw[hop];decide
 have y8:(c.op != 2)=true:=by rw[hop];decide
 have y9:(c.op == 1)=false:=by rw[hop];decide
 have ya:(c.op == 5)=false:=by rw[hop];decide
 obtain rfl:z=(k:Int):=by rw[←hz,hk]
 have y5:decide ((k:Int)<0)=false:=by simp
 have hkm:k<m:=by have:=findZ_ge l c.s;omega
 have HFK:=J0 hfk
 have HVK:=J0 hv
 clear hfk hv
 have HR:=J0 hr
 have HRT:=J0 hrt
 clear hr hz hm hn hop hrt hk
 go_enter Tryz.func154,Tryz.ntmps154
 go_wp2_with (first
  |(go_at_call 114;refine(rFind_m A cA m l HM.out c.s k HZ.out _ hA1 hl).mono ?_;rintro e w' ⟨rfl,rfl⟩)
  |(go_at_call 77;refine(rRight_m A cA m l HM.out true HR.out _ hA1 hl sl).mono ?_;rintro e W0 ⟨rfl,hb⟩;replace HB:=HB.trans (hb.mono HB.size);replace hA1:=hA1.below hb;replace C:=C.below hb;replace N:=N.below hb;replace Z:=Z.below hb;clear hb a0 a1 a2 a3 a4 a5 a6 a7 a8 n1 n2 n3 o1 o2 o3 i1 i2 i3 j1 j2 j3;obtain⟨a0,a1,a2,a3,a4,a5,a6,a7,a8⟩:=C.c9;obtain⟨n1,n2,n3,o1,o2,o3⟩:=N.f3;obtain⟨i1,i2,i3,j1,j2,j3⟩:=Z.f3))
 have szW:w.heap.size+2<W0.heap.size:=Z.lt
 have nb:=below_new (w:=W0) (.cells #[.slice A m cA,.slice none 0 0,.slice none 0 0] 110)
 have H0:TO w (W0.alloc (.cells #[.slice A m cA,.slice none 0 0,.slice none 0 0] 110)) (W0.heap.size+1) W0.heap.size (.slice A m cA) (.slice none 0 0) (.slice none 0 0) [] [] 110 157:=
  ⟨OBox.new W0 _ _,own_nil _ _ _ _,own_nil _ _ _ _,fun g hg=>by simp[Value.ownBlock] at hg,Nat.lt_succ_self _,HB.trans (nb.mono HB.size),HB.size⟩
 have C0:=C.below nb
 have N0:=N.below nb
 have Z0:=Z.below nb
 clear nb C N Z HB hA1 a0 a1 a2 a3 a4 a5 a6 a7 a8 n1 n2 n3 o1 o2 o3 i1 i2 i3 j1 j2 j3
 go_loopw [9,10] (fun i _ wr=>∃(j:Nat) (vF vM:Value),j≤m∧i=.int .i64 j∧TO w wr (W0.heap.size+1) W0.heap.size (.slice A m cA) vF vM ((l.take j).modify k (fun x:Fd=>(⟨x.s,c.g.k,c.g.l⟩:Fd))) (kM j) 110 157∧OBox wr (w.heap.size+1) [.slice none 0 0,.slice none 0 0,.slice none 0 0] 110∧OBox wr (w.heap.size+2) [.slice none 0 0,.slice none 0 0,.slice none 0 0] 110∧CBox wr w.heap.size c (.slice Q n qc) 73) (fun i _ _=>m - (intOf i).toNat)
 case atStart=>exact⟨0,_,_,by omega,rfl,(by simpa[kM] using H0),N0,Z0,C0⟩
 case round=>
  obtain⟨j,vF,vM,hj,rfl,H,N,Z,C⟩:=hrel
  clear H0 N0 Z0 C0
  obtain⟨fs,hfs⟩:∃fs,((l.take j).modify k (fun x:Fd=>(⟨x.s,c.g.k,c.g.l⟩:Fd)))=fs:=⟨_,rfl⟩
  obtain⟨ms,hms⟩:∃ms,(kM j)=ms:=⟨_,rfl⟩
  rw[hfs,hms] at H
  have HFS:=J0 hfs
  have HMS:=J0 hms
  clear hfs hms
  have hAr:=hA.below H.B
  have RQr:=RQ.below H.B
  by_cases hlt:j<m
  ·obtain⟨f,hf⟩:∃f,l[j]?=some f:=⟨_,J4 (by rw[HM.out];exact hlt)⟩
   obtain⟨ad,rfl,g0,g1,g2⟩:=hAr.fld hf
   have hi0:(0:Int)≤(j:Int):=by omega
   have hi1:(j:Int)<(m:Int):=by omega
   have HF:=J0 hf
   have nu:=below_new (w:=wr) (.cells #[.string f.s,.int .i64 f.k,.int .i64 f.l] 68)
   have GB:=OBox.new wr [.string f.s,.int .i64 f.k,.int .i64 f.l] 68
   have HU:=H.below nu
   have NU:=N.below nu
   have ZU:=Z.below nu
   have CU:=C.below nu
   have hsz:W0.heap.size<wr.heap.size:=H.lt
   clear hf
   have szF:Hid (fs.length+1≤maxLen∧(fs.length+1) * 32≤140737488355328):=J0 (by have h5:fs.length≤j:=(by rw[←HFS.out];rw[List.length_modify,Qv];omega);simp only[maxLen];omega)
   have szM:Hid (ms.length+1≤maxLen∧(ms.length+1) * 40≤140737488355328):=J0 (by have h5:ms.length≤j:=(by rw[←HMS.out,kM_length];exact J9 _);simp only[maxLen];omega)
   obtain⟨a0,a1,a2,a3,a4,a5,a6,a7,a8⟩:=CU.c9
   have htl:(l.take j).length=j:=(by rw[Qv,HM.out];omega)
   by_cases hjk:j=k
   ·have yk:((j:Int) == (k:Int))=true:=by simp[hjk]
    have yn:((j:Int) != (k:Int))=false:=by simp[hjk]
    have hst:Hid ((l.take (j+1)).modify k (fun x:Fd=>(⟨x.s,c.g.k,c.g.l⟩:Fd))=(l.take j).modify k (fun x:Fd=>(⟨x.s,c.g.k,c.g.l⟩:Fd))++[⟨f.s,c.g.k,c.g.l⟩]):=J0 (by rw[Vq,HF.out];show(l.take j++[f]).modify k _=_;rw[modify_snoc,if_pos (by omega)])
    have HV:Hid (castsB f.k f.l c.g.k c.g.l=true):=J0 (by have h5:=HF.out;rw[hjk,HFK.out] at h5;have h6:=Jj h5;rw[←h6];exact HVK.out)
    clear hjk
    have hwr:w.heap.size<wr.heap.size:=(by have:=H.hob;omega)
    go_upto_region 22 with (go_at_call 116;refine(rCasts_is f.s c.g.s f.k f.l c.g.k c.g.l true HV.out _).mono ?_;rintro e wM ⟨rfl,hb⟩;have HU1:=HU.below hb;have NU1:=NU.below hb;have ZU1:=ZU.below hb;have CU1:=CU.below hb;have GB1:=GB.below hb;obtain⟨i1,i2,i3,j1,j2,j3⟩:=ZU1.f3;obtain⟨n1,n2,n3,o1,o2,o3⟩:=NU1.f3;obtain⟨f0,f1,f2,f3,f4,f5,f6,f7,f8⟩:=CU1.c9;obtain⟨k1,k2,k3,l1,l2,l3⟩:=GB1.f3;have CU2:CBox (wM.setCell ⟨wr.heap.size,1,none⟩ (.int .i64 c.g.k)) w.heap.size c (.slice Q n qc) 73:=(J5 _ _ _ _ (by show w.heap.size≠wr.heap.size;omega)).trans CU1;obtain⟨h0,h1,h2,h3,h4,h5,h6,h7,h8⟩:=CU2.c9;have GB2:=obox_set GB1 1 (.int .i64 c.g.k);obtain⟨m1,m2,m3,r1,r2,r3⟩:=GB2.f3)
    have nF:vF.ownBlock≠some wr.heap.size:=fun e=>(by have:=(H.ltF _ e).2;omega)
    have nM:vM.ownBlock≠some wr.heap.size:=fun e=>(by have:=(H.ltM _ e).2;omega)
    have HU3:=(HU1.store 1 (.int .i64 c.g.k) (b:=wr.heap.size) (Nat.le_of_lt hwr) (by omega) nF nM).store 2 (.int .i64 c.g.l) (b:=wr.heap.size) (Nat.le_of_lt hwr) (by omega) nF nM
    have GB3:=obox_set GB2 2 (.int .i64 c.g.l)
    have CU3:CBox ((wM.setCell ⟨wr.heap.size,1,none⟩ (.int .i64 c.g.k)).setCell ⟨wr.heap.size,2,none⟩ (.int .i64 c.g.l)) w.heap.size c (.slice Q n qc) 73:=(J5 _ _ _ _ (by show w.heap.size≠wr.heap.size;omega)).trans CU2
    have NU3:OBox ((wM.setCell ⟨wr.heap.size,1,none⟩ (.int .i64 c.g.k)).setCell ⟨wr.heap.size,2,none⟩ (.int .i64 c.g.l)) (w.heap.size+1) [.slice none 0 0,.slice none 0 0,.slice none 0 0] 110:=(J5 _ _ _ _ (by show w.heap.size+1≠wr.heap.size;omega)).trans ((J5 _ _ _ _ (by show w.heap.size+1≠wr.heap.size;omega)).trans NU1)
    have ZU3:OBox ((wM.setCell ⟨wr.heap.size,1,none⟩ (.int .i64 c.g.k)).setCell ⟨wr.heap.size,2,none⟩ (.int .i64 c.g.l)) (w.heap.size+2) [.slice none 0 0,.slice none 0 0,.slice none 0 0] 110:=(J5 _ _ _ _ (by show w.heap.size+2≠wr.heap.size;omega)).trans ((J5 _ _ _ _ (by show w.heap.size+2≠wr.heap.size;omega)).trans ZU1)
    clear i1 i2 i3 j1 j2 j3 n1 n2 n3 o1 o2 o3 f0 f1 f2 f3 f4 f5 f6 f7 f8 k1 k2 k3 l1 l2 l3 h0 h1 h2 h3 h4 h5 h6 h7 h8 m1 m2 m3 r1 r2 r3 a0 a1 a2 a3 a4 a5 a6 a7 a8 GB GB1 GB2 CU1 CU2 NU1 ZU1 HU1
    generalize ((wM.setCell ⟨wr.heap.size,1,none⟩ (.int .i64 c.g.k)).setCell ⟨wr.heap.size,2,none⟩ (.int .i64 c.g.l))=U at *
    obtain⟨k1,k2,k3,l1,l2,l3⟩:=GB3.f3
    have nf:=below_new (w:=U) (.cells #[.string f.s,.int .i64 c.g.k,.int .i64 c.g.l] 68)
    have hbU:W0.heap.size+1≤(U).heap.size:=HU3.lt
    obtain⟨p1,p2,p3,q1,q2,q3⟩:=(HU3.O.below nf).f3
    obtain⟨s1,s2,s3,u1,u2,u3⟩:=HU3.O.f3
    go_wp2_with (first
     |(at_builtin;refine wpList_append_own_at _ rfl _ _ 27 rfl (W0.heap.size+1) 68 iF (.agg #[.string ⟨#[]⟩,.int .i64 0,.int .i64 0]) 3 32 Tryz.underlying27 hiF hzF0 hzF1 hzF2 rfl (by decide) _ _ _ rfl (own_below HU3.F nf) ⟨U.heap.size,0,none⟩ 1 1 [.string f.s,.int .i64 c.g.k,.int .i64 c.g.l] (by first|rfl|simp) rfl ?c1 ?c2 ?c3 ?c4 ?c5 ?_))
    case c1=>exact news3 _ _ _ _ _
    case c2=>intro u hu;simp at hu;rcases hu with rfl|rfl|rfl <;> rfl
    case c3=>exact(szF.out).1
    case c4=>have:=szF.out.2;omega
    case c5=>have:=nf.size;omega
    intro vF' W5 ownF5 gr5 _ hat5
    obtain⟨O5,H6,fr6⟩:=HU3.addF nf ⟨f.s,c.g.k,c.g.l⟩ gr5 hbU ownF5 (by first|exact hat5|simpa using hat5)
    obtain⟨F5,c5,rfl,_,_,_⟩:=own_rd ownF5
    clear p1 p2 p3 q1 q2 q3 s1 s2 s3 u1 u2 u3 ownF5 gr5 hat5
    obtain⟨s1,s2,s3,u1,u2,u3⟩:=O5.f3
    have nm:=below_new (w:=W5.setCell ⟨W0.heap.size,1,none⟩ (.slice F5 (fs.length+1) c5)) (.cells #[.int .i64 j,.int .i64 0,.int .u64 0,.string ⟨#[]⟩] 157)
    have hb6:Hid (W0.heap.size+1≤(W5.setCell ⟨W0.heap.size,1,none⟩ (.slice F5 (fs.length+1) c5)).heap.size):=J0 H6.lt
    have z6:Hid (W5.heap.size=(W5.setCell ⟨W0.heap.size,1,none⟩ (.slice F5 (fs.length+1) c5)).heap.size):=J0 (by simp)
    obtain⟨p1,p2,p3,q1,q2,q3⟩:=H6.O.f3
    obtain⟨t1,t2,t3,v1,v2,v3⟩:=(H6.O.below nm).f3
    go_wp2_with (at_builtin;refine wpList_append_own_at _ rfl _ _ 108 rfl (W0.heap.size+1) 157 iM (.agg #[.int .i64 0,.int .i64 0,.int .u64 0,.string ⟨#[]⟩]) 4 40 Tryz.underlying108 hiM hzM0 hzM1 hzM2 rfl (by decide) _ _ _ rfl (own_below H6.M nm) ⟨W5.heap.size,0,none⟩ 1 1 [.int .i64 j,.int .i64 0,.int .u64 0,.string ⟨#[]⟩] rfl rfl ?c1 ?c2 ?c3 ?c4 ?c5 ?_)
    case c1=>rw[z6.out];exact news4 _ _ _ _ _ _
    case c2=>intro u hu;simp at hu;rcases hu with rfl|rfl|rfl|rfl <;> rfl
    case c3=>exact(szM.out).1
    case c4=>have:=szM.out.2;omega
    case c5=>have:=nm.size;have:=hb6.out;omega
    intro vM' W7 ownM7 gr7 _ hat7
    obtain⟨O7,H8,fr8⟩:=H6.addM nm ⟨j,Vl.z⟩ gr7 hb6.out ownM7 (by first|exact hat7|simpa using hat7)
    obtain⟨M7,c7,rfl,_,_,_⟩:=own_rd ownM7
    clear p1 p2 p3 q1 q2 q3 s1 s2 s3 u1 u2 u3 t1 t2 t3 v1 v2 v3 ownM7 gr7 hat7
    obtain⟨s1,s2,s3,u1,u2,u3⟩:=O7.f3
    go_wp2
    go_roundw
    case rel=>
     refine⟨j+1,_,_,by omega,by go_num,(by rw[hst.out,kM_succ,HFS.out,HMS.out];exact H8),?_,?_,?_⟩
     ·exact(fr8 _ (by omega) (by omega)).trans ((fr6 _ (by omega) (by omega)).trans NU3)
     ·exact(fr8 _ (by omega) (by omega)).trans ((fr6 _ (by omega) (by omega)).trans ZU3)
     ·exact(fr8 _ (by omega) (by omega)).trans ((fr6 _ (by omega) (by omega)).trans CU3)
    case measure=>simp[intOf];omega
   ·have yk:((j:Int) == (k:Int))=false:=by simp;omega
    have yn:((j:Int) != (k:Int))=true:=by simp;omega
    have hst:Hid ((l.take (j+1)).modify k (fun x:Fd=>(⟨x.s,c.g.k,c.g.l⟩:Fd))=(l.take j).modify k (fun x:Fd=>(⟨x.s,c.g.k,c.g.l⟩:Fd))++[f]):=J0 (by rw[Vq,HF.out];show(l.take j++[f]).modify k _=_;rw[modify_snoc,if_neg (by omega)])
    clear hjk
    have nf:=below_new (w:=(wr.alloc (.cells #[.string f.s,.int .i64 f.k,.int .i64 f.l] 68))) (.cells #[.string f.s,.int .i64 f.k,.int .i64 f.l] 68)
    have hbU:W0.heap.size+1≤((wr.alloc (.cells #[.string f.s,.int .i64 f.k,.int .i64 f.l] 68))).heap.size:=HU.lt
    obtain⟨p1,p2,p3,q1,q2,q3⟩:=(HU.O.below nf).f3
    obtain⟨s1,s2,s3,u1,u2,u3⟩:=HU.O.f3
    go_wp2_with (first
     |(at_builtin;refine wpList_append_own_at _ rfl _ _ 27 rfl (W0.heap.size+1) 68 iF (.agg #[.string ⟨#[]⟩,.int .i64 0,.int .i64 0]) 3 32 Tryz.underlying27 hiF hzF0 hzF1 hzF2 rfl (by decide) _ _ _ rfl (own_below HU.F nf) ⟨wr.heap.size+1,0,none⟩ 1 1 [.string f.s,.int .i64 f.k,.int .i64 f.l] (by first|rfl|simp) rfl ?c1 ?c2 ?c3 ?c4 ?c5 ?_))
    case c1=>rw[show wr.heap.size+1=((wr.alloc (.cells #[.string f.s,.int .i64 f.k,.int .i64 f.l] 68))).heap.size by simp];exact news3 _ _ _ _ _
    case c2=>intro u hu;simp at hu;rcases hu with rfl|rfl|rfl <;> rfl
    case c3=>exact(szF.out).1
    case c4=>have:=szF.out.2;omega
    case c5=>have:=nf.size;omega
    intro vF' W5 ownF5 gr5 _ hat5
    obtain⟨O5,H6,fr6⟩:=HU.addF nf ⟨f.s,f.k,f.l⟩ gr5 hbU ownF5 (by first|exact hat5|simpa using hat5)
    obtain⟨F5,c5,rfl,_,_,_⟩:=own_rd ownF5
    clear p1 p2 p3 q1 q2 q3 s1 s2 s3 u1 u2 u3 ownF5 gr5 hat5
    obtain⟨s1,s2,s3,u1,u2,u3⟩:=O5.f3
    have nm:=below_new (w:=W5.setCell ⟨W0.heap.size,1,none⟩ (.slice F5 (fs.length+1) c5)) (.cells #[.int .i64 j,.int .i64 0,.int .u64 0,.string ⟨#[]⟩] 157)
    have hb6:Hid (W0.heap.size+1≤(W5.setCell ⟨W0.heap.size,1,none⟩ (.slice F5 (fs.length+1) c5)).heap.size):=J0 H6.lt
    have z6:Hid (W5.heap.size=(W5.setCell ⟨W0.heap.size,1,none⟩ (.slice F5 (fs.length+1) c5)).heap.size):=J0 (by simp)
    obtain⟨p1,p2,p3,q1,q2,q3⟩:=H6.O.f3
    obtain⟨t1,t2,t3,v1,v2,v3⟩:=(H6.O.below nm).f3
    go_wp2_with (at_builtin;refine wpList_append_own_at _ rfl _ _ 108 rfl (W0.heap.size+1) 157 iM (.agg #[.int .i64 0,.int .i64 0,.int .u64 0,.string ⟨#[]⟩]) 4 40 Tryz.underlying108 hiM hzM0 hzM1 hzM2 rfl (by decide) _ _ _ rfl (own_below H6.M nm) ⟨W5.heap.size,0,none⟩ 1 1 [.int .i64 j,.int .i64 0,.int .u64 0,.string ⟨#[]⟩] rfl rfl ?c1 ?c2 ?c3 ?c4 ?c5 ?_)
    case c1=>rw[z6.out];exact news4 _ _ _ _ _ _
    case c2=>intro u hu;simp at hu;rcases hu with rfl|rfl|rfl|rfl <;> rfl
    case c3=>exact(szM.out).1
    case c4=>have:=szM.out.2;omega
    case c5=>have:=nm.size;have:=hb6.out;omega
    intro vM' W7 ownM7 gr7 _ hat7
    obtain⟨O7,H8,fr8⟩:=H6.addM nm ⟨j,Vl.z⟩ gr7 hb6.out ownM7 (by first|exact hat7|simpa using hat7)
    obtain⟨M7,c7,rfl,_,_,_⟩:=own_rd ownM7
    clear p1 p2 p3 q1 q2 q3 s1 s2 s3 u1 u2 u3 t1 t2 t3 v1 v2 v3 ownM7 gr7 hat7
    obtain⟨s1,s2,s3,u1,u2,u3⟩:=O7.f3
    go_wp2
    go_roundw
    case rel=>
     refine⟨j+1,_,_,by omega,by go_num,(by rw[hst.out,kM_succ,HFS.out,HMS.out];exact H8),?_,?_,?_⟩
     ·exact(fr8 _ (by omega) (by omega)).trans ((fr6 _ (by omega) (by omega)).trans NU)
     ·exact(fr8 _ (by omega) (by omega)).trans ((fr6 _ (by omega) (by omega)).trans ZU)
     ·exact(fr8 _ (by omega) (by omega)).trans ((fr6 _ (by omega) (by omega)).trans CU)
    case measure=>simp[intOf];omega
  ·obtain rfl:j=m:=by omega
   obtain⟨F5,c5,rfl,_,_,_⟩:=own_rd H.F
   obtain⟨M7,c7,rfl,_,_,_⟩:=own_rd H.M
   have HFL:Hid (fs=l.modify k (fun x:Fd=>(⟨x.s,c.g.k,c.g.l⟩:Fd))):=J0 (by rw[←HFS.out,Vz (by rw[HM.out];exact J9 _)])
   have HML:Hid (ms=kM j):=J0 (by rw[←HMS.out])
   have H9:=H
   have N9:=N
   have Z9:=Z
   have C9:=C
   have HFX:Hid (fs=l.modify k (fun x:Fd=>(⟨x.s,c.g.k,c.g.l⟩:Fd))):=J0 (by rw[HFL.out])
   have HMX:Hid (ms=kM j):=J0 (by rw[HML.out])
   have szX:Hid ((fs).length≤281474976710656):=J0 ((by rw[HFL.out,List.length_modify,HM.out];omega))
   have SFX:Hid (FdS (fs)):=J0 ((by rw[HFL.out];exact FdS_modify sl fun f hf=>sl f hf))
   generalize hFX:fs=FX at *
   generalize hMX:ms=MX at *
   clear H N Z C
   obtain⟨eF,RF⟩:=own_slice H9.F
   obtain⟨eM,RM⟩:=own_slice H9.M
   have EF:=J0 eF
   have EM:=J0 eM
   clear eF eM RM
   have sz9:W0.heap.size<_:=H9.lt
   have SF:FdS FX:=SFX.out
   have hFl:FX.length≤9223372036854775807:=(by have:=szX.out;omega)
   obtain⟨s1,s2,s3,u1,u2,u3⟩:=H9.O.f3
   obtain⟨n1,n2,n3,o1,o2,o3⟩:=N9.f3
   obtain⟨i1,i2,i3,j1,j2,j3⟩:=Z9.f3
   obtain⟨a0,a1,a2,a3,a4,a5,a6,a7,a8⟩:=C9.c9
   cases r
   ·go_wp2_with (go_at_call 77;refine(rRight_m _ _ _ FX (by first|exact EF.out.symm|rfl) false (by rw[HFX.out];exact HRT.out) _ RF (by first|exact hFl|(rw[EF.out];exact hFl)) SF).mono ?_;rintro e wM ⟨rfl,hb⟩;replace H9:=H9.below hb;replace N9:=N9.below hb;replace Z9:=Z9.below hb;clear hb s1 s2 s3 u1 u2 u3 n1 n2 n3 o1 o2 o3 i1 i2 i3 j1 j2 j3 a0 a1 a2 a3 a4 a5 a6 a7 a8;obtain⟨n1,n2,n3,o1,o2,o3⟩:=N9.f3;obtain⟨i1,i2,i3,j1,j2,j3⟩:=Z9.f3)
    refine bodyPost_ret (v:=.tuple #[.agg #[.slice none 0 0,.slice none 0 0,.slice none 0 0],.int .i64 80]) (by simp[results,Tryz.results154,go_sem, *];done) rfl ⟨_,_,_,_,_,_,_,_,_,rfl,TVP.z _ _,?_⟩
    exact((H9.B.setCell (by show w.heap.size≤w.heap.size+1;omega) _).setCell (by show w.heap.size≤w.heap.size+1;omega) _).setCell (by show w.heap.size≤w.heap.size+1;omega) _
   ·go_wp2_with (go_at_call 77;refine(rRight_m _ _ _ FX (by first|exact EF.out.symm|rfl) true (by rw[HFX.out];exact HRT.out) _ RF (by first|exact hFl|(rw[EF.out];exact hFl)) SF).mono ?_;rintro e wM ⟨rfl,hb⟩;replace H9:=H9.below hb;replace N9:=N9.below hb;clear hb s1 s2 s3 u1 u2 u3 n1 n2 n3 o1 o2 o3 i1 i2 i3 j1 j2 j3 a0 a1 a2 a3 a4 a5 a6 a7 a8;obtain⟨n1,n2,n3,o1,o2,o3⟩:=N9.f3;obtain⟨s1,s2,s3,u1,u2,u3⟩:=H9.O.f3)
    have BF:=own_base H9.F
    have BM:=own_base H9.M
    refine bodyPost_ret (v:=.tuple #[.agg #[.slice A j cA,.slice F5 FX.length c5,.slice M7 MX.length c7],.int .i64 0]) (by simp[results,Tryz.results154,go_sem, *];done) rfl ⟨_,_,_,_,_,_,_,_,_,rfl,?_,?_⟩
    ·refine own_TVr (t:=⟨l,_,_⟩) HM.out ?_ (fun _ _=>trivial) (own_eq (own_keep H9.F fun g hg=>?_) (by first|exact EF.out.symm|rfl) (by rw[HFX.out])) (by first|rw[EF.out,←HFX.out]|rw[←HFX.out]) (fun _ _=>trivial) (own_eq (own_keep H9.M fun g hg=>?_) (by first|exact EM.out.symm|rfl) (by rw[HMX.out])) (by first|rw[EM.out,←HMX.out]|rw[←HMX.out]) (fun _ _=>trivial)
     ·exact hA.below (((H9.B.setCell (by show w.heap.size≤w.heap.size+1;omega) _).setCell (by show w.heap.size≤w.heap.size+1;omega) _).setCell (by show w.heap.size≤w.heap.size+1;omega) _)
     ·have h:=BF g hg
      exact(J5 _ _ _ _ (by show g≠w.heap.size+1;omega)).trans ((J5 _ _ _ _ (by show g≠w.heap.size+1;omega)).trans (J5 _ _ _ _ (by show g≠w.heap.size+1;omega)))
     ·have h:=BM g hg
      exact(J5 _ _ _ _ (by show g≠w.heap.size+1;omega)).trans ((J5 _ _ _ _ (by show g≠w.heap.size+1;omega)).trans (J5 _ _ _ _ (by show g≠w.heap.size+1;omega)))
    ·exact((H9.B.setCell (by show w.heap.size≤w.heap.size+1;omega) _).setCell (by show w.heap.size≤w.heap.size+1;omega) _).setCell (by show w.heap.size≤w.heap.size+1;omega) _
theorem rMake_recasts_no (l:List Fd) (c:Ch) (m:Nat) (hm:l.length=m) (hl:m≤9223372036854775807) (A:Option Addr) (cA:Nat) (Q:Option Addr) (n qc:Nat) (hn:c.q.length=n) (hn1:n≤17592186044415) (x0:0≤c.d.b) (x1:c.d.b<18446744073709551616) (sl:FdS l) (sg:c.g.s.size≤9223372036854775807) (w:World) (hA:Rd w A (cellsF l)) (RQ:Rd w Q (cellsI c.q)) (hop:c.op=4) (hr:rightF l=true) (k:Nat) (hk:findZ l c.s=k) (fk:Fd) (hfk:l[k]?=some fk) (hv:castsB fk.k fk.l c.g.k c.g.l=false):
 Calls Tryz.prog 154 #[.slice A m cA,.agg #[.int .i64 c.op,.string c.s,.string c.g.s,.int .i64 c.g.k,.int .i64 c.g.l,.int .i64 c.d.k,.int .u64 c.d.b,.string c.d.t,.slice Q n qc]] w fun e w'=>RkP Tb.z 80 w e w':=by
 have h16:m≤16:=by rw[←hm];exact(rightF_may hr).2
 obtain⟨iF,hiF,hzF0,hzF1,hzF2⟩:=info_parts infoFd
 obtain⟨iM,hiM,hzM0,hzM1,hzM2⟩:=info_parts infoMr
 have bb1:=below_new (w:=w) (.cells #[.int .i64 c.op,.string c.s,.string c.g.s,.int .i64 c.g.k,.int .i64 c.g.l,.int .i64 c.d.k,.int .u64 c.d.b,.string c.d.t,.slice Q n qc] 73)
 have bb2:=below_new (w:=w.alloc (.cells #[.int .i64 c.op,.string c.s,.string c.g.s,.int .i64 c.g.k,.int .i64 c.g.l,.int .i64 c.d.k,.int .u64 c.d.b,.string c.d.t,.slice Q n qc] 73)) (.cells #[.slice none 0 0,.slice none 0 0,.slice none 0 0] 110)
 have bb3:=below_new (w:=(w.alloc (.cells #[.int .i64 c.op,.string c.s,.string c.g.s,.int .i64 c.g.k,.int .i64 c.g.l,.int .i64 c.d.k,.int .u64 c.d.b,.string c.d.t,.slice Q n qc] 73)).alloc (.cells #[.slice none 0 0,.slice none 0 0,.slice none 0 0] 110)) (.cells #[.slice none 0 0,.slice none 0 0,.slice none 0 0] 110)
 have C:CBox _ _ c (.slice Q n qc) 73:=((OBox.new w (chL c (.slice Q n qc)) 73).below bb2).below bb3
 have N:=(OBox.new (w.alloc (.cells #[.int .i64 c.op,.string c.s,.string c.g.s,.int .i64 c.g.k,.int .i64 c.g.l,.int .i64 c.d.k,.int .u64 c.d.b,.string c.d.t,.slice Q n qc] 73)) [.slice none 0 0,.slice none 0 0,.slice none 0 0] 110).below bb3
 have Z:=OBox.new ((w.alloc (.cells #[.int .i64 c.op,.string c.s,.string c.g.s,.int .i64 c.g.k,.int .i64 c.g.l,.int .i64 c.d.k,.int .u64 c.d.b,.string c.d.t,.slice Q n qc] 73)).alloc (.cells #[.slice none 0 0,.slice none 0 0,.slice none 0 0] 110)) [.slice none 0 0,.slice none 0 0,.slice none 0 0] 110
 rw[Jq] at N
 rw[Jq,Jq] at Z
 have HB:=below_seq (below_seq bb1 bb2) bb3
 have hA1:=hA.below HB
 obtain⟨a0,a1,a2,a3,a4,a5,a6,a7,a8⟩:=C.c9
 obtain⟨n1,n2,n3,o1,o2,o3⟩:=N.f3
 obtain⟨i1,i2,i3,j1,j2,j3⟩:=Z.f3
 obtain⟨z,hz⟩:∃z,findZ l c.s=z:=⟨_,rfl⟩
 have HZ:=J0 hz
 have HM:=J0 hm
 have HN:=J0 hn
 clear bb1 bb2 bb3
 have y1:decide (c.op<1)=false:=by rw[hop];decide
 have y2:decide (5<c.op)=false:=by rw[hop];decide
 have y3:decide (2≤c.op)=true:=by rw[hop];decide
 have y4:decide (c.op≤4)=true:=by rw[hop];decide
 have y6:(c.op == 3)=false:=by rw[hop];decide
 have y7:(c.op == 4)=true:=by rw[hop];decide
 have y8:(c.op != 2)=true:=by rw[hop];decide
 have y9:(c.op == 1)=false:=by rw[hop];decide
 have ya:(c.op == 5)=false:=by rw[hop];decide
 obtain rfl:z=(k:Int):=by rw[←hz,hk]
 have y5:decide ((k:Int)<0)=false:=by simp
 have hkm:k<m:=by have:=findZ_ge l c.s;omega
 have HFK:=J0 hfk
 have HVK:=J0 hv
 clear hfk hv
 have HR:=J0 hr
 clear hr hz hm hn hop hk
 go_enter Tryz.func154,Tryz.ntmps154
 go_wp2_with (first
  |(go_at_call 114;refine(rFind_m A cA m l HM.out c.s k HZ.out _ hA1 hl).mono ?_;rintro e w' ⟨rfl,rfl⟩)
  |(go_at_call 77;refine(rRight_m A cA m l HM.out true HR.out _ hA1 hl sl).mono ?_;rintro e W0 ⟨rfl,hb⟩;replace HB:=HB.trans (hb.mono HB.size);replace hA1:=hA1.below hb;replace C:=C.below hb;replace N:=N.below hb;replace Z:=Z.below hb;clear hb a0 a1 a2 a3 a4 a5 a6 a7 a8 n1 n2 n3 o1 o2 o3 i1 i2 i3 j1 j2 j3;obtain⟨a0,a1,a2,a3,a4,a5,a6,a7,a8⟩:=C.c9;obtain⟨n1,n2,n3,o1,o2,o3⟩:=N.f3;obtain⟨i1,i2,i3,j1,j2,j3⟩:=Z.f3))
 have szW:w.heap.size+2<W0.heap.size:=Z.lt
 have nb:=below_new (w:=W0) (.cells #[.slice A m cA,.slice none 0 0,.slice none 0 0] 110)
 have H0:TO w (W0.alloc (.cells #[.slice A m cA,.slice none 0 0,.slice none 0 0] 110)) (W0.heap.size+1) W0.heap.size (.slice A m cA) (.slice none 0 0) (.slice none 0 0) [] [] 110 157:=
  ⟨OBox.new W0 _ _,own_nil _ _ _ _,own_nil _ _ _ _,fun g hg=>by simp[Value.ownBlock] at hg,Nat.lt_succ_self _,HB.trans (nb.mono HB.size),HB.size⟩
 have C0:=C.below nb
 have N0:=N.below nb
 have Z0:=Z.below nb
 clear nb C N Z HB hA1 a0 a1 a2 a3 a4 a5 a6 a7 a8 n1 n2 n3 o1 o2 o3 i1 i2 i3 j1 j2 j3
 go_loopw [9,10] (fun i _ wr=>∃(j:Nat) (vF vM:Value),j≤k∧i=.int .i64 j∧TO w wr (W0.heap.size+1) W0.heap.size (.slice A m cA) vF vM (l.take j) (kM j) 110 157∧OBox wr (w.heap.size+1) [.slice none 0 0,.slice none 0 0,.slice none 0 0] 110∧OBox wr (w.heap.size+2) [.slice none 0 0,.slice none 0 0,.slice none 0 0] 110∧CBox wr w.heap.size c (.slice Q n qc) 73) (fun i _ _=>m - (intOf i).toNat)
 case atStart=>exact⟨0,_,_,by omega,rfl,H0,N0,Z0,C0⟩
 case round=>
  obtain⟨j,vF,vM,hj,rfl,H,N,Z,C⟩:=hrel
  clear H0 N0 Z0 C0
  obtain⟨fs,hfs⟩:∃fs,(l.take j)=fs:=⟨_,rfl⟩
  obtain⟨ms,hms⟩:∃ms,(kM j)=ms:=⟨_,rfl⟩
  rw[hfs,hms] at H
  have HFS:=J0 hfs
  have HMS:=J0 hms
  clear hfs hms
  have hAr:=hA.below H.B
  have RQr:=RQ.below H.B
  by_cases hlt:j<m
  ·obtain⟨f,hf⟩:∃f,l[j]?=some f:=⟨_,J4 (by rw[HM.out];exact hlt)⟩
   obtain⟨ad,rfl,g0,g1,g2⟩:=hAr.fld hf
   have hi0:(0:Int)≤(j:Int):=by omega
   have hi1:(j:Int)<(m:Int):=by omega
   have HF:=J0 hf
   have nu:=below_new (w:=wr) (.cells #[.string f.s,.int .i64 f.k,.int .i64 f.l] 68)
   have GB:=OBox.new wr [.string f.s,.int .i64 f.k,.int .i64 f.l] 68
   have HU:=H.below nu
   have NU:=N.below nu
   have ZU:=Z.below nu
   have CU:=C.below nu
   have hsz:W0.heap.size<wr.heap.size:=H.lt
   clear hf
   have szF:Hid (fs.length+1≤maxLen∧(fs.length+1) * 32≤140737488355328):=J0 (by have h5:fs.length≤j:=(by rw[←HFS.out];rw[Qv];omega);simp only[maxLen];omega)
   have szM:Hid (ms.length+1≤maxLen∧(ms.length+1) * 40≤140737488355328):=J0 (by have h5:ms.length≤j:=(by rw[←HMS.out,kM_length];exact J9 _);simp only[maxLen];omega)
   obtain⟨a0,a1,a2,a3,a4,a5,a6,a7,a8⟩:=CU.c9
   have htl:(l.take j).length=j:=(by rw[Qv,HM.out];omega)
   by_cases hjk:j=k
   ·have yk:((j:Int) == (k:Int))=true:=by simp[hjk]
    have yn:((j:Int) != (k:Int))=false:=by simp[hjk]
    have HV:Hid (castsB f.k f.l c.g.k c.g.l=false):=J0 (by have h5:=HF.out;rw[hjk,HFK.out] at h5;have h6:=Jj h5;rw[←h6];exact HVK.out)
    clear hjk
    go_wp2_with (go_at_call 116;refine(rCasts_is f.s c.g.s f.k f.l c.g.k c.g.l false HV.out _).mono ?_;rintro e wM ⟨rfl,hb⟩;have HU1:=HU.below hb;have NU1:=NU.below hb;have ZU1:=ZU.below hb;have CU1:=CU.below hb;have GB1:=GB.below hb;obtain⟨i1,i2,i3,j1,j2,j3⟩:=ZU1.f3;obtain⟨n1,n2,n3,o1,o2,o3⟩:=NU1.f3;obtain⟨f0,f1,f2,f3,f4,f5,f6,f7,f8⟩:=CU1.c9;obtain⟨k1,k2,k3,l1,l2,l3⟩:=GB1.f3)
    refine bodyPost_ret (v:=.tuple #[.agg #[.slice none 0 0,.slice none 0 0,.slice none 0 0],.int .i64 80]) (by simp[results,Tryz.results154,go_sem, *];done) rfl ⟨_,_,_,_,_,_,_,_,_,rfl,TVP.z _ _,?_⟩
    exact((HU1.B.setCell (by show w.heap.size≤w.heap.size+1;omega) _).setCell (by show w.heap.size≤w.heap.size+1;omega) _).setCell (by show w.heap.size≤w.heap.size+1;omega) _
   ·have yk:((j:Int) == (k:Int))=false:=by simp;omega
    have yn:((j:Int) != (k:Int))=true:=by simp;omega
    have hst:Hid (l.take (j+1)=l.take j++[f]):=J0 (by rw[Vq,HF.out];rfl)
    have nf:=below_new (w:=(wr.alloc (.cells #[.string f.s,.int .i64 f.k,.int .i64 f.l] 68))) (.cells #[.string f.s,.int .i64 f.k,.int .i64 f.l] 68)
    have hbU:W0.heap.size+1≤((wr.alloc (.cells #[.string f.s,.int .i64 f.k,.int .i64 f.l] 68))).heap.size:=HU.lt
    obtain⟨p1,p2,p3,q1,q2,q3⟩:=(HU.O.below nf).f3
    obtain⟨s1,s2,s3,u1,u2,u3⟩:=HU.O.f3
    go_wp2_with (first
     |(at_builtin;refine wpList_append_own_at _ rfl _ _ 27 rfl (W0.heap.size+1) 68 iF (.agg #[.string ⟨#[]⟩,.int .i64 0,.int .i64 0]) 3 32 Tryz.underlying27 hiF hzF0 hzF1 hzF2 rfl (by decide) _ _ _ rfl (own_below HU.F nf) ⟨wr.heap.size+1,0,none⟩ 1 1 [.string f.s,.int .i64 f.k,.int .i64 f.l] (by first|rfl|simp) rfl ?c1 ?c2 ?c3 ?c4 ?c5 ?_))
    case c1=>rw[show wr.heap.size+1=((wr.alloc (.cells #[.string f.s,.int .i64 f.k,.int .i64 f.l] 68))).heap.size by simp];exact news3 _ _ _ _ _
    case c2=>intro u hu;simp at hu;rcases hu with rfl|rfl|rfl <;> rfl
    case c3=>exact(szF.out).1
    case c4=>have:=szF.out.2;omega
    case c5=>have:=nf.size;omega
    intro vF' W5 ownF5 gr5 _ hat5
    obtain⟨O5,H6,fr6⟩:=HU.addF nf ⟨f.s,f.k,f.l⟩ gr5 hbU ownF5 (by first|exact hat5|simpa using hat5)
    obtain⟨F5,c5,rfl,_,_,_⟩:=own_rd ownF5
    clear p1 p2 p3 q1 q2 q3 s1 s2 s3 u1 u2 u3 ownF5 gr5 hat5
    obtain⟨s1,s2,s3,u1,u2,u3⟩:=O5.f3
    have nm:=below_new (w:=W5.setCell ⟨W0.heap.size,1,none⟩ (.slice F5 (fs.length+1) c5)) (.cells #[.int .i64 j,.int .i64 0,.int .u64 0,.string ⟨#[]⟩] 157)
    have hb6:Hid (W0.heap.size+1≤(W5.setCell ⟨W0.heap.size,1,none⟩ (.slice F5 (fs.length+1) c5)).heap.size):=J0 H6.lt
    have z6:Hid (W5.heap.size=(W5.setCell ⟨W0.heap.size,1,none⟩ (.slice F5 (fs.length+1) c5)).heap.size):=J0 (by simp)
    obtain⟨p1,p2,p3,q1,q2,q3⟩:=H6.O.f3
    obtain⟨t1,t2,t3,v1,v2,v3⟩:=(H6.O.below nm).f3
    go_wp2_with (at_builtin;refine wpList_append_own_at _ rfl _ _ 108 rfl (W0.heap.size+1) 157 iM (.agg #[.int .i64 0,.int .i64 0,.int .u64 0,.string ⟨#[]⟩]) 4 40 Tryz.underlying108 hiM hzM0 hzM1 hzM2 rfl (by decide) _ _ _ rfl (own_below H6.M nm) ⟨W5.heap.size,0,none⟩ 1 1 [.int .i64 j,.int .i64 0,.int .u64 0,.string ⟨#[]⟩] rfl rfl ?c1 ?c2 ?c3 ?c4 ?c5 ?_)
    case c1=>rw[z6.out];exact news4 _ _ _ _ _ _
    case c2=>intro u hu;simp at hu;rcases hu with rfl|rfl|rfl|rfl <;> rfl
    case c3=>exact(szM.out).1
    case c4=>have:=szM.out.2;omega
    case c5=>have:=nm.size;have:=hb6.out;omega
    intro vM' W7 ownM7 gr7 _ hat7
    obtain⟨O7,H8,fr8⟩:=H6.addM nm ⟨j,Vl.z⟩ gr7 hb6.out ownM7 (by first|exact hat7|simpa using hat7)
    obtain⟨M7,c7,rfl,_,_,_⟩:=own_rd ownM7
    clear p1 p2 p3 q1 q2 q3 s1 s2 s3 u1 u2 u3 t1 t2 t3 v1 v2 v3 ownM7 gr7 hat7
    obtain⟨s1,s2,s3,u1,u2,u3⟩:=O7.f3
    go_wp2
    go_roundw
    case rel=>
     refine⟨j+1,_,_,by omega,by go_num,(by rw[hst.out,kM_succ,HFS.out,HMS.out];exact H8),?_,?_,?_⟩
     ·exact(fr8 _ (by omega) (by omega)).trans ((fr6 _ (by omega) (by omega)).trans NU)
     ·exact(fr8 _ (by omega) (by omega)).trans ((fr6 _ (by omega) (by omega)).trans ZU)
     ·exact(fr8 _ (by omega) (by omega)).trans ((fr6 _ (by omega) (by omega)).trans CU)
    case measure=>simp[intOf];omega
  ·obtain rfl:j=m:=by omega
   exact absurd hkm (by omega)
end
end Go.Proofs.YteembinfgbapgaaGreat
