/- Merged out of: Od. -/
import Derived.Test.YteembinfgbapgaaGreatC00
import Derived.Test.YteembinfgbapgaaGreatC22
set_option linter.unusedSimpArgs false
set_option linter.unusedVariables false
set_option maxRecDepth 100000
set_option maxHeartbeats 8000000
namespace Go.Proofs.YteembinfgbapgaaGreat
section
open Go.RowKit Go.Lib
theorem own_TVr {w:World} {P:Nat→Prop} {A:Option Addr} {m c n k b b':Nat} {v2 v3:Value} {t:Tb} {TM:TypeId} (hm:t.o.length=m) (R:Rd w A (cellsF t.o)) (hp:∀ad,A=some ad→P ad.block) (o2:w.ownsRow b 68 3 v2 n (cellsF t.n)) (hn:t.n.length=n) (p2:∀g,v2.ownBlock=some g→P g)
 (o3:w.ownsRow b' TM 4 v3 k (cellsM t.m)) (hk:t.m.length=k) (p3:∀g,v3.ownBlock=some g→P g):TVP P w (.agg #[.slice A m c,v2,v3]) t:=by
 subst hm hn hk
 obtain⟨B,d,rfl,hd,_,_⟩:=own_rd o2
 obtain⟨C,e,rfl,_,_,_⟩:=own_rd o3
 exact⟨A,c,B,d,C,e,rfl,hd,RdP.mk R hp,own_P o2 p2,own_P o3 p3⟩
theorem own_slice {w:World} {base n m:Nat} {e:TypeId} {size c:Nat} {A:Option Addr} {xs:List Value} (h:w.ownsRow base e size (.slice A n c) m xs):n=m∧Rd w A xs:=by
 obtain⟨A',c',e1,_,_,hr⟩:=own_rd h
 cases e1
 exact⟨rfl,hr⟩
theorem erase_snoc {α:Type} (xs:List α) (x:α) (k:Nat):(xs++[x]).eraseIdx k=if xs.length=k then xs.eraseIdx k else xs.eraseIdx k++[x]:=by
 split
 ·rename_i h
  subst h
  rw[List.eraseIdx_append_of_length_le (J9 _),List.eraseIdx_of_length_le (J9 _)]
  simp
 ·rename_i h
  by_cases hlt:k<xs.length
  ·rw[List.eraseIdx_append_of_lt_length hlt]
  ·rw[List.eraseIdx_append_of_length_le (by omega),List.eraseIdx_of_length_le (l:=xs) (by omega),List.eraseIdx_of_length_le (by simp;omega)]
theorem modify_snoc {α:Type} (xs:List α) (x:α) (k:Nat) (f:α→α):(xs++[x]).modify k f=xs.modify k f++[if xs.length=k then f x else x]:=by
 apply Xv
 intro i
 rw[List.getElem?_modify]
 by_cases h1:i<xs.length
 ·rw[Xk h1,Xk (by rw[List.length_modify];exact h1),List.getElem?_modify]
 ·rw[Q8 (by omega),Q8 (by rw[List.length_modify];omega),List.length_modify]
  by_cases h2:i=xs.length
  ·subst h2
   by_cases h3:k=xs.length
   ·simp[h3]
   ·simp[h3,Ne.symm h3]
  ·rw[Xy (by simp;omega),Xy (by simp;omega)];rfl
theorem FdS_modify {l:List Fd} {k:Nat} {g:Fd→Fd} (sl:FdS l) (hg:∀f∈l,(g f).s.size≤9223372036854775807):FdS (l.modify k g):=by
 intro x hx
 obtain⟨i,hi⟩:=List.getElem?_of_mem hx
 rw[List.getElem?_modify] at hi
 cases hf:l[i]? with
 |none=>rw[hf] at hi;simp at hi
 |some f=>
  rw[hf] at hi
  by_cases h:k=i
  ·simp[h] at hi;rw[←hi];exact hg f (J7 hf)
  ·simp[h] at hi;rw[←hi];exact sl f (J7 hf)
theorem rMake_adds (l:List Fd) (c:Ch) (m:Nat) (hm:l.length=m) (hl:m≤9223372036854775807) (A:Option Addr) (cA:Nat) (Q:Option Addr) (n qc:Nat) (hn:c.q.length=n) (hn1:n≤17592186044415) (x0:0≤c.d.b) (x1:c.d.b<18446744073709551616) (sl:FdS l) (sg:c.g.s.size≤9223372036854775807) (w:World) (hA:Rd w A (cellsF l)) (RQ:Rd w Q (cellsI c.q)) (hop:c.op=1) (hr:rightF l=true) (ok:Bool) (hv:okVal c=ok) (r:Bool) (hrt:rightF (l++[c.g])=r):
 Calls Tryz.prog 154 #[.slice A m cA,.agg #[.int .i64 c.op,.string c.s,.string c.g.s,.int .i64 c.g.k,.int .i64 c.g.l,.int .i64 c.d.k,.int .u64 c.d.b,.string c.d.t,.slice Q n qc]] w fun e w'=>RkP (bif ok && r then⟨l,(l++[c.g]),(kM m++[⟨-1,c.d⟩])⟩ else Tb.z) (bif ok && r then 0 else 80) w e w':=by
 have h16:m≤16:=by rw[←hm];exact(rightF_may hr).2
 obtain⟨iF,hiF,hzF0,hzF1,hzF2⟩:=info_parts infoFd
 obtain⟨iM,hiM,hzM0,hzM1,hzM2⟩:=info_parts infoMr
 have bb1:=below_new (w:=w) (.cells #[.int .i64 c.op,.string c.s,.string c.g.s,.int .i64 c.g.k,.int .i64 c.g.l,.int .i64 c.d.k,.int .u64 c.d.b,.string c.d.t,.slice Q n qc] 73)
 have bb2:=below_new (w:=w.alloc (.cells #[.int .i64 c.op,.string c.s,.string c.g.s,.int .i64 c.g.k,.int .i64 c.g.l,.int .i64 c.d.k,.int .u64 c.d.b,.string c.d.t,.slice Q n qc] 73)) (.cells #[.slice none 0 0,.slice none 0 0,.slice none 0 0] 110)
 have bb3:=below_new (w:=(w.alloc (.cells #[.int .i64 c.op,.string c.s,.string c.g.s,.int .i64 c.g.k,.int .i64 c.g.l,.int .i64 c.d.k,.int .u64 c.d.b,.string c.d.t,.slice Q n qc] 73)).alloc (.cells #[.slice none 0 0,.slice none 0 0,.slice none 0 0] 110)) (.cells #[.slice none 0 0,.slice none 0 0,.slice none 0 0] 110)
 have C:CBox _ _ c (.slice Q n qc) 73:=((OBox.new w (chL c (.slice Q n qc)) 73).below bb2).below bb3
 have N:=(OBox.new (w.alloc (.cells #[.int .i64 c.op,.string c.s,.string c.g.s,.int .i64 c.g.k,.int .i64 c.g.l,.int .i64 c.d.k,.int .u64 c.d.b,.string c.d.t,.slice Q n qc] 73)) [.slice none 0 0,.slice none 0 0,.slice none 0 0] 110).below bb3
 have Z:=OBox.new ((w.alloc (.cells #[.int .i64 c.op,.string c.s,.string c.g.s,.int .i64 c.g.k,.int .i64 c.g.l,.int .i64 c.d.k,.int .u64 c.d.b,.string c.d.t,.slice Q n qc] 73)).alloc (.cells #[.slice none 0 0,.slice none 0 0,.slice none 0 0] 110)) [.slice none 0 0,.slice none 0 0,.slice none 0 0] 110
 rw[Jq] at N
 rw[Jq,Jq] at Z
 have HB:=below_seq (below_seq bb1 bb2) bb3
 have hA1:=hA.below HB
 obtain⟨a0,a1,a2,a3,a4,a5,a6,a7,a8⟩:=C.c9
 obtain⟨n1,n2,n3,o1,o2,o3⟩:=N.f3
 obtain⟨i1,i2,i3,j1,j2,j3⟩:=Z.f3
 obtain⟨z,hz⟩:∃z,findZ l c.s=z:=⟨_,rfl⟩
 have HZ:=J0 hz
 have HM:=J0 hm
 have HN:=J0 hn
 clear bb1 bb2 bb3
 have y1:decide (c.op<1)=false:=by rw[hop];decide
 have y2:decide (5<c.op)=false:=by rw[hop];decide
 have y3:decide (2≤c.op)=false:=by rw[hop];decide
 have y4:decide (c.op≤4)=true:=by rw[hop];decide
 have y6:(c.op == 3)=false:=by rw[hop];decide
 have y7:(c.op == 4)=false:=by rw[hop];decide
 have y8:(c.op != 2)=true:=by rw[hop];decide
 have y9:(c.op == 1)=true:=by rw[hop];decide
 have ya:(c.op == 5)=false:=by rw[hop];decide
 have HR:=J0 hr
 have HRT:=J0 hrt
 clear hr hz hm hn hop hrt
 go_enter Tryz.func154,Tryz.ntmps154
 go_wp2_with (first
  |(go_at_call 114;refine(rFind_m A cA m l HM.out c.s z HZ.out _ hA1 hl).mono ?_;rintro e w' ⟨rfl,rfl⟩)
  |(go_at_call 77;refine(rRight_m A cA m l HM.out true HR.out _ hA1 hl sl).mono ?_;rintro e W0 ⟨rfl,hb⟩;replace HB:=HB.trans (hb.mono HB.size);replace hA1:=hA1.below hb;replace C:=C.below hb;replace N:=N.below hb;replace Z:=Z.below hb;clear hb a0 a1 a2 a3 a4 a5 a6 a7 a8 n1 n2 n3 o1 o2 o3 i1 i2 i3 j1 j2 j3;obtain⟨a0,a1,a2,a3,a4,a5,a6,a7,a8⟩:=C.c9;obtain⟨n1,n2,n3,o1,o2,o3⟩:=N.f3;obtain⟨i1,i2,i3,j1,j2,j3⟩:=Z.f3))
 have szW:w.heap.size+2<W0.heap.size:=Z.lt
 have nb:=below_new (w:=W0) (.cells #[.slice A m cA,.slice none 0 0,.slice none 0 0] 110)
 have H0:TO w (W0.alloc (.cells #[.slice A m cA,.slice none 0 0,.slice none 0 0] 110)) (W0.heap.size+1) W0.heap.size (.slice A m cA) (.slice none 0 0) (.slice none 0 0) [] [] 110 157:=
  ⟨OBox.new W0 _ _,own_nil _ _ _ _,own_nil _ _ _ _,fun g hg=>by simp[Value.ownBlock] at hg,Nat.lt_succ_self _,HB.trans (nb.mono HB.size),HB.size⟩
 have C0:=C.below nb
 have N0:=N.below nb
 have Z0:=Z.below nb
 clear nb C N Z HB hA1 a0 a1 a2 a3 a4 a5 a6 a7 a8 n1 n2 n3 o1 o2 o3 i1 i2 i3 j1 j2 j3
 go_loopw [9,10] (fun i _ wr=>∃(j:Nat) (vF vM:Value),j≤m∧i=.int .i64 j∧TO w wr (W0.heap.size+1) W0.heap.size (.slice A m cA) vF vM (l.take j) (kM j) 110 157∧OBox wr (w.heap.size+1) [.slice none 0 0,.slice none 0 0,.slice none 0 0] 110∧OBox wr (w.heap.size+2) [.slice none 0 0,.slice none 0 0,.slice none 0 0] 110∧CBox wr w.heap.size c (.slice Q n qc) 73) (fun i _ _=>m - (intOf i).toNat)
 case atStart=>exact⟨0,_,_,by omega,rfl,H0,N0,Z0,C0⟩
 case round=>
  obtain⟨j,vF,vM,hj,rfl,H,N,Z,C⟩:=hrel
  clear H0 N0 Z0 C0
  obtain⟨fs,hfs⟩:∃fs,(l.take j)=fs:=⟨_,rfl⟩
  obtain⟨ms,hms⟩:∃ms,(kM j)=ms:=⟨_,rfl⟩
  rw[hfs,hms] at H
  have HFS:=J0 hfs
  have HMS:=J0 hms
  clear hfs hms
  have hAr:=hA.below H.B
  have RQr:=RQ.below H.B
  by_cases hlt:j<m
  ·obtain⟨f,hf⟩:∃f,l[j]?=some f:=⟨_,J4 (by rw[HM.out];exact hlt)⟩
   obtain⟨ad,rfl,g0,g1,g2⟩:=hAr.fld hf
   have hi0:(0:Int)≤(j:Int):=by omega
   have hi1:(j:Int)<(m:Int):=by omega
   have HF:=J0 hf
   have nu:=below_new (w:=wr) (.cells #[.string f.s,.int .i64 f.k,.int .i64 f.l] 68)
   have GB:=OBox.new wr [.string f.s,.int .i64 f.k,.int .i64 f.l] 68
   have HU:=H.below nu
   have NU:=N.below nu
   have ZU:=Z.below nu
   have CU:=C.below nu
   have hsz:W0.heap.size<wr.heap.size:=H.lt
   clear hf
   have hst:Hid (l.take (j+1)=l.take j++[f]):=J0 (by rw[Vq,HF.out];rfl)
   have szF:Hid (fs.length+1≤maxLen∧(fs.length+1) * 32≤140737488355328):=J0 (by have h5:fs.length≤j:=(by rw[←HFS.out,Qv];omega);simp only[maxLen];omega)
   have szM:Hid (ms.length+1≤maxLen∧(ms.length+1) * 40≤140737488355328):=J0 (by rw[←HMS.out,kM_length];simp only[maxLen];omega)
   obtain⟨a0,a1,a2,a3,a4,a5,a6,a7,a8⟩:=CU.c9
   have nf:=below_new (w:=(wr.alloc (.cells #[.string f.s,.int .i64 f.k,.int .i64 f.l] 68))) (.cells #[.string f.s,.int .i64 f.k,.int .i64 f.l] 68)
   have hbU:W0.heap.size+1≤((wr.alloc (.cells #[.string f.s,.int .i64 f.k,.int .i64 f.l] 68))).heap.size:=HU.lt
   obtain⟨p1,p2,p3,q1,q2,q3⟩:=(HU.O.below nf).f3
   obtain⟨s1,s2,s3,u1,u2,u3⟩:=HU.O.f3
   go_wp2_with (first
    |(at_builtin;refine wpList_append_own_at _ rfl _ _ 27 rfl (W0.heap.size+1) 68 iF (.agg #[.string ⟨#[]⟩,.int .i64 0,.int .i64 0]) 3 32 Tryz.underlying27 hiF hzF0 hzF1 hzF2 rfl (by decide) _ _ _ rfl (own_below HU.F nf) ⟨wr.heap.size+1,0,none⟩ 1 1 [.string f.s,.int .i64 f.k,.int .i64 f.l] (by first|rfl|simp) rfl ?c1 ?c2 ?c3 ?c4 ?c5 ?_))
   case c1=>rw[show wr.heap.size+1=((wr.alloc (.cells #[.string f.s,.int .i64 f.k,.int .i64 f.l] 68))).heap.size by simp];exact news3 _ _ _ _ _
   case c2=>intro u hu;simp at hu;rcases hu with rfl|rfl|rfl <;> rfl
   case c3=>exact(szF.out).1
   case c4=>have:=szF.out.2;omega
   case c5=>have:=nf.size;omega
   intro vF' W5 ownF5 gr5 _ hat5
   obtain⟨O5,H6,fr6⟩:=HU.addF nf ⟨f.s,f.k,f.l⟩ gr5 hbU ownF5 (by first|exact hat5|simpa using hat5)
   obtain⟨F5,c5,rfl,_,_,_⟩:=own_rd ownF5
   clear p1 p2 p3 q1 q2 q3 s1 s2 s3 u1 u2 u3 ownF5 gr5 hat5
   obtain⟨s1,s2,s3,u1,u2,u3⟩:=O5.f3
   have nm:=below_new (w:=W5.setCell ⟨W0.heap.size,1,none⟩ (.slice F5 (fs.length+1) c5)) (.cells #[.int .i64 j,.int .i64 0,.int .u64 0,.string ⟨#[]⟩] 157)
   have hb6:Hid (W0.heap.size+1≤(W5.setCell ⟨W0.heap.size,1,none⟩ (.slice F5 (fs.length+1) c5)).heap.size):=J0 H6.lt
   have z6:Hid (W5.heap.size=(W5.setCell ⟨W0.heap.size,1,none⟩ (.slice F5 (fs.length+1) c5)).heap.size):=J0 (by simp)
   obtain⟨p1,p2,p3,q1,q2,q3⟩:=H6.O.f3
   obtain⟨t1,t2,t3,v1,v2,v3⟩:=(H6.O.below nm).f3
   go_wp2_with (at_builtin;refine wpList_append_own_at _ rfl _ _ 108 rfl (W0.heap.size+1) 157 iM (.agg #[.int .i64 0,.int .i64 0,.int .u64 0,.string ⟨#[]⟩]) 4 40 Tryz.underlying108 hiM hzM0 hzM1 hzM2 rfl (by decide) _ _ _ rfl (own_below H6.M nm) ⟨W5.heap.size,0,none⟩ 1 1 [.int .i64 j,.int .i64 0,.int .u64 0,.string ⟨#[]⟩] rfl rfl ?c1 ?c2 ?c3 ?c4 ?c5 ?_)
   case c1=>rw[z6.out];exact news4 _ _ _ _ _ _
   case c2=>intro u hu;simp at hu;rcases hu with rfl|rfl|rfl|rfl <;> rfl
   case c3=>exact(szM.out).1
   case c4=>have:=szM.out.2;omega
   case c5=>have:=nm.size;have:=hb6.out;omega
   intro vM' W7 ownM7 gr7 _ hat7
   obtain⟨O7,H8,fr8⟩:=H6.addM nm ⟨j,Vl.z⟩ gr7 hb6.out ownM7 (by first|exact hat7|simpa using hat7)
   obtain⟨M7,c7,rfl,_,_,_⟩:=own_rd ownM7
   clear p1 p2 p3 q1 q2 q3 s1 s2 s3 u1 u2 u3 t1 t2 t3 v1 v2 v3 ownM7 gr7 hat7
   obtain⟨s1,s2,s3,u1,u2,u3⟩:=O7.f3
   go_wp2
   go_roundw
   case rel=>
    refine⟨j+1,_,_,by omega,by go_num,(by rw[hst.out,kM_succ,HFS.out,HMS.out];exact H8),?_,?_,?_⟩
    ·exact(fr8 _ (by omega) (by omega)).trans ((fr6 _ (by omega) (by omega)).trans NU)
    ·exact(fr8 _ (by omega) (by omega)).trans ((fr6 _ (by omega) (by omega)).trans ZU)
    ·exact(fr8 _ (by omega) (by omega)).trans ((fr6 _ (by omega) (by omega)).trans CU)
   case measure=>simp[intOf];omega
  ·obtain rfl:j=m:=by omega
   obtain⟨a0,a1,a2,a3,a4,a5,a6,a7,a8⟩:=C.c9
   have HFL:Hid (fs=l):=J0 (by rw[←HFS.out];exact Vz (by rw[HM.out];exact J9 _))
   have HML:Hid (ms=kM j):=J0 (by rw[←HMS.out])
   have HV:=J0 hv
   obtain⟨rv,hrv⟩:∃x,rightB c.d.k c.d.b c.d.t c.g.k c.g.l=x:=⟨_,rfl⟩
   have HRV:=J0 hrv
   clear hv hrv
   cases rv
   ·obtain rfl:ok=false:=by rw[←HV.out,okVal,HRV.out];simp
    go_wp2_with (go_at_call 115;refine(rRight_is5 c.d.k c.d.b c.d.t c.g.s c.g.k c.g.l x0 x1 false HRV.out _).mono ?_;rintro e wM ⟨rfl,hb⟩;replace H:=H.below hb;replace N:=N.below hb;replace Z:=Z.below hb;replace C:=C.below hb;clear hb a0 a1 a2 a3 a4 a5 a6 a7 a8;obtain⟨a0,a1,a2,a3,a4,a5,a6,a7,a8⟩:=C.c9;obtain⟨n1,n2,n3,o1,o2,o3⟩:=N.f3;obtain⟨i1,i2,i3,j1,j2,j3⟩:=Z.f3;obtain⟨s1,s2,s3,u1,u2,u3⟩:=H.O.f3)
    refine bodyPost_ret (v:=.tuple #[.agg #[.slice none 0 0,.slice none 0 0,.slice none 0 0],.int .i64 80]) (by simp[results,Tryz.results154,go_sem, *];done) rfl ⟨_,_,_,_,_,_,_,_,_,rfl,TVP.z _ _,?_⟩
    exact((H.B.setCell (by show w.heap.size≤w.heap.size+1;omega) _).setCell (by show w.heap.size≤w.heap.size+1;omega) _).setCell (by show w.heap.size≤w.heap.size+1;omega) _
   ·by_cases hk:c.g.k=11
    ·have yb:(c.g.k == 11)=true:=by simp[hk]
     by_cases hb0:c.d.b=0
     ·have yc:(c.d.b != 0)=false:=by simp[hb0]
      obtain rfl:ok=true:=by rw[←HV.out,okVal,HRV.out];simp[hb0]
      clear hk hb0
      go_upto_region 27 with (go_at_call 115;refine(rRight_is5 c.d.k c.d.b c.d.t c.g.s c.g.k c.g.l x0 x1 true HRV.out _).mono ?_;rintro e wM ⟨rfl,hb⟩;replace H:=H.below hb;replace N:=N.below hb;replace Z:=Z.below hb;replace C:=C.below hb;clear hb a0 a1 a2 a3 a4 a5 a6 a7 a8;obtain⟨a0,a1,a2,a3,a4,a5,a6,a7,a8⟩:=C.c9;obtain⟨n1,n2,n3,o1,o2,o3⟩:=N.f3;obtain⟨i1,i2,i3,j1,j2,j3⟩:=Z.f3;obtain⟨s1,s2,s3,u1,u2,u3⟩:=H.O.f3)
      clear i1 i2 i3 j1 j2 j3 s1 s2 s3 u1 u2 u3 n1 n2 n3 o1 o2 o3
      have szF:Hid (fs.length+1≤maxLen∧(fs.length+1) * 32≤140737488355328):=J0 (by rw[HFL.out,HM.out];simp only[maxLen];omega)
      have szM:Hid (ms.length+1≤maxLen∧(ms.length+1) * 40≤140737488355328):=J0 (by rw[HML.out,kM_length];simp only[maxLen];omega)
      have nf:=below_new (w:=wM) (.cells #[.string c.g.s,.int .i64 c.g.k,.int .i64 c.g.l] 68)
      have hbU:W0.heap.size+1≤(wM).heap.size:=H.lt
      obtain⟨p1,p2,p3,q1,q2,q3⟩:=(H.O.below nf).f3
      obtain⟨s1,s2,s3,u1,u2,u3⟩:=H.O.f3
      go_wp2_with (first
       |(at_builtin;refine wpList_append_own_at _ rfl _ _ 27 rfl (W0.heap.size+1) 68 iF (.agg #[.string ⟨#[]⟩,.int .i64 0,.int .i64 0]) 3 32 Tryz.underlying27 hiF hzF0 hzF1 hzF2 rfl (by decide) _ _ _ rfl (own_below H.F nf) ⟨wM.heap.size,0,none⟩ 1 1 [.string c.g.s,.int .i64 c.g.k,.int .i64 c.g.l] (by first|rfl|simp) rfl ?c1 ?c2 ?c3 ?c4 ?c5 ?_))
      case c1=>exact news3 _ _ _ _ _
      case c2=>intro u hu;simp at hu;rcases hu with rfl|rfl|rfl <;> rfl
      case c3=>exact(szF.out).1
      case c4=>have:=szF.out.2;omega
      case c5=>have:=nf.size;omega
      intro vF' W5 ownF5 gr5 _ hat5
      obtain⟨O5,H6,fr6⟩:=H.addF nf ⟨c.g.s,c.g.k,c.g.l⟩ gr5 hbU ownF5 (by first|exact hat5|simpa using hat5)
      obtain⟨F5,c5,rfl,_,_,_⟩:=own_rd ownF5
      clear p1 p2 p3 q1 q2 q3 s1 s2 s3 u1 u2 u3 ownF5 gr5 hat5
      obtain⟨s1,s2,s3,u1,u2,u3⟩:=O5.f3
      have nm:=below_new (w:=W5.setCell ⟨W0.heap.size,1,none⟩ (.slice F5 (fs.length+1) c5)) (.cells #[.int .i64 (-1),.int .i64 c.d.k,.int .u64 c.d.b,.string c.d.t] 157)
      have hb6:Hid (W0.heap.size+1≤(W5.setCell ⟨W0.heap.size,1,none⟩ (.slice F5 (fs.length+1) c5)).heap.size):=J0 H6.lt
      have z6:Hid (W5.heap.size=(W5.setCell ⟨W0.heap.size,1,none⟩ (.slice F5 (fs.length+1) c5)).heap.size):=J0 (by simp)
      obtain⟨p1,p2,p3,q1,q2,q3⟩:=H6.O.f3
      obtain⟨t1,t2,t3,v1,v2,v3⟩:=(H6.O.below nm).f3
      obtain⟨e0,e1,e2,e3,e4,e5,e6,e7,e8⟩:=CBox.c9 (show CBox (W5.setCell ⟨W0.heap.size,1,none⟩ (.slice F5 (fs.length+1) c5)) w.heap.size c (.slice Q n qc) 73 from(fr6 _ (by omega) (by omega)).trans C)
      go_wp2_with (at_builtin;refine wpList_append_own_at _ rfl _ _ 108 rfl (W0.heap.size+1) 157 iM (.agg #[.int .i64 0,.int .i64 0,.int .u64 0,.string ⟨#[]⟩]) 4 40 Tryz.underlying108 hiM hzM0 hzM1 hzM2 rfl (by decide) _ _ _ rfl (own_below H6.M nm) ⟨W5.heap.size,0,none⟩ 1 1 [.int .i64 (-1),.int .i64 c.d.k,.int .u64 c.d.b,.string c.d.t] rfl rfl ?c1 ?c2 ?c3 ?c4 ?c5 ?_)
      case c1=>rw[z6.out];exact news4 _ _ _ _ _ _
      case c2=>intro u hu;simp at hu;rcases hu with rfl|rfl|rfl|rfl <;> rfl
      case c3=>exact(szM.out).1
      case c4=>have:=szM.out.2;omega
      case c5=>have:=nm.size;have:=hb6.out;omega
      intro vM' W7 ownM7 gr7 _ hat7
      obtain⟨O7,H8,fr8⟩:=H6.addM nm ⟨-1,c.d⟩ gr7 hb6.out ownM7 (by first|exact hat7|simpa using hat7)
      obtain⟨M7,c7,rfl,_,_,_⟩:=own_rd ownM7
      clear p1 p2 p3 q1 q2 q3 s1 s2 s3 u1 u2 u3 t1 t2 t3 v1 v2 v3 ownM7 gr7 hat7
      obtain⟨s1,s2,s3,u1,u2,u3⟩:=O7.f3
      have H9:=H8
      have N9:=(show OBox _ (w.heap.size+1) [.slice none 0 0,.slice none 0 0,.slice none 0 0] 110 from(fr8 _ (by omega) (by omega)).trans ((fr6 _ (by omega) (by omega)).trans N))
      have Z9:=(show OBox _ (w.heap.size+2) [.slice none 0 0,.slice none 0 0,.slice none 0 0] 110 from(fr8 _ (by omega) (by omega)).trans ((fr6 _ (by omega) (by omega)).trans Z))
      have C9:=(show CBox _ w.heap.size c (.slice Q n qc) 73 from(fr8 _ (by omega) (by omega)).trans ((fr6 _ (by omega) (by omega)).trans C))
      have HFX:Hid ((fs++[c.g])=l++[c.g]):=J0 (by rw[HFL.out])
      have HMX:Hid ((ms++[⟨-1,c.d⟩])=kM j++[⟨-1,c.d⟩]):=J0 (by rw[HML.out])
      have szX:Hid (((fs++[c.g])).length≤281474976710656):=J0 ((by rw[HFL.out];simp[HM.out];omega))
      have SFX:Hid (FdS ((fs++[c.g]))):=J0 ((by rw[HFL.out];intro x hx;rcases X7.1 hx with h|h;exact sl x h;simp at h;subst h;exact sg))
      generalize hFX:fs++[c.g]=FX at *
      generalize hMX:ms++[(⟨-1,c.d⟩:Mv)]=MX at *
      clear C a0 a1 a2 a3 a4 a5 a6 a7 a8 e0 e1 e2 e3 e4 e5 e6 e7 e8
      obtain⟨b1,b2,b3,d1,d2,d3⟩:(W7.cell? ⟨W0.heap.size,0,none⟩=some _∧W7.cell? ⟨W0.heap.size,1,none⟩=some _∧W7.cell? ⟨W0.heap.size,2,none⟩=some _∧W7.frozen? ⟨W0.heap.size,0,none⟩=false∧W7.frozen? ⟨W0.heap.size,1,none⟩=false∧W7.frozen? ⟨W0.heap.size,2,none⟩=false):=⟨s1,s2,s3,u1,u2,u3⟩
      clear s1 s2 s3 u1 u2 u3
      obtain⟨eF,RF⟩:=own_slice H9.F
      obtain⟨eM,RM⟩:=own_slice H9.M
      have EF:=J0 eF
      have EM:=J0 eM
      clear eF eM RM
      have sz9:W0.heap.size<_:=H9.lt
      have SF:FdS FX:=SFX.out
      have hFl:FX.length≤9223372036854775807:=(by have:=szX.out;omega)
      obtain⟨s1,s2,s3,u1,u2,u3⟩:=H9.O.f3
      obtain⟨n1,n2,n3,o1,o2,o3⟩:=N9.f3
      obtain⟨i1,i2,i3,j1,j2,j3⟩:=Z9.f3
      obtain⟨a0,a1,a2,a3,a4,a5,a6,a7,a8⟩:=C9.c9
      cases r
      ·go_wp2_with (go_at_call 77;refine(rRight_m _ _ _ FX EF.out.symm false (by rw[HFX.out];exact HRT.out) _ RF (by rw[EF.out];exact hFl) SF).mono ?_;rintro e wM ⟨rfl,hb⟩;replace H9:=H9.below hb;replace N9:=N9.below hb;replace Z9:=Z9.below hb;clear hb s1 s2 s3 u1 u2 u3 n1 n2 n3 o1 o2 o3 i1 i2 i3 j1 j2 j3 a0 a1 a2 a3 a4 a5 a6 a7 a8;obtain⟨n1,n2,n3,o1,o2,o3⟩:=N9.f3;obtain⟨i1,i2,i3,j1,j2,j3⟩:=Z9.f3)
       refine bodyPost_ret (v:=.tuple #[.agg #[.slice none 0 0,.slice none 0 0,.slice none 0 0],.int .i64 80]) (by simp[results,Tryz.results154,go_sem, *];done) rfl ⟨_,_,_,_,_,_,_,_,_,rfl,TVP.z _ _,?_⟩
       exact((H9.B.setCell (by show w.heap.size≤w.heap.size+1;omega) _).setCell (by show w.heap.size≤w.heap.size+1;omega) _).setCell (by show w.heap.size≤w.heap.size+1;omega) _
      ·go_wp2_with (go_at_call 77;refine(rRight_m _ _ _ FX EF.out.symm true (by rw[HFX.out];exact HRT.out) _ RF (by rw[EF.out];exact hFl) SF).mono ?_;rintro e wM ⟨rfl,hb⟩;replace H9:=H9.below hb;replace N9:=N9.below hb;clear hb s1 s2 s3 u1 u2 u3 n1 n2 n3 o1 o2 o3 i1 i2 i3 j1 j2 j3 a0 a1 a2 a3 a4 a5 a6 a7 a8;obtain⟨n1,n2,n3,o1,o2,o3⟩:=N9.f3;obtain⟨s1,s2,s3,u1,u2,u3⟩:=H9.O.f3)
       have BF:=own_base H9.F
       have BM:=own_base H9.M
       refine bodyPost_ret (v:=.tuple #[.agg #[.slice A j cA,.slice F5 (fs.length+1) c5,.slice M7 (ms.length+1) c7],.int .i64 0]) (by simp[results,Tryz.results154,go_sem, *];done) rfl ⟨_,_,_,_,_,_,_,_,_,rfl,?_,?_⟩
       ·refine own_TVr (t:=⟨l,_,_⟩) HM.out ?_ (fun _ _=>trivial) (own_eq (own_keep H9.F fun g hg=>?_) EF.out.symm (by rw[HFX.out])) (by rw[EF.out,←HFX.out]) (fun _ _=>trivial) (own_eq (own_keep H9.M fun g hg=>?_) EM.out.symm (by rw[HMX.out])) (by rw[EM.out,←HMX.out]) (fun _ _=>trivial)
        ·exact hA.below (((H9.B.setCell (by show w.heap.size≤w.heap.size+1;omega) _).setCell (by show w.heap.size≤w.heap.size+1;omega) _).setCell (by show w.heap.size≤w.heap.size+1;omega) _)
        ·have h:=BF g hg
         exact(J5 _ _ _ _ (by show g≠w.heap.size+1;omega)).trans ((J5 _ _ _ _ (by show g≠w.heap.size+1;omega)).trans (J5 _ _ _ _ (by show g≠w.heap.size+1;omega)))
        ·have h:=BM g hg
         exact(J5 _ _ _ _ (by show g≠w.heap.size+1;omega)).trans ((J5 _ _ _ _ (by show g≠w.heap.size+1;omega)).trans (J5 _ _ _ _ (by show g≠w.heap.size+1;omega)))
       ·exact((H9.B.setCell (by show w.heap.size≤w.heap.size+1;omega) _).setCell (by show w.heap.size≤w.heap.size+1;omega) _).setCell (by show w.heap.size≤w.heap.size+1;omega) _
     ·have yc:(c.d.b != 0)=true:=by simp[hb0]
      obtain rfl:ok=false:=by rw[←HV.out,okVal,HRV.out];simp[hb0,hk]
      clear hk hb0
      go_wp2_with (go_at_call 115;refine(rRight_is5 c.d.k c.d.b c.d.t c.g.s c.g.k c.g.l x0 x1 true HRV.out _).mono ?_;rintro e wM ⟨rfl,hb⟩;replace H:=H.below hb;replace N:=N.below hb;replace Z:=Z.below hb;replace C:=C.below hb;clear hb a0 a1 a2 a3 a4 a5 a6 a7 a8;obtain⟨a0,a1,a2,a3,a4,a5,a6,a7,a8⟩:=C.c9;obtain⟨n1,n2,n3,o1,o2,o3⟩:=N.f3;obtain⟨i1,i2,i3,j1,j2,j3⟩:=Z.f3;obtain⟨s1,s2,s3,u1,u2,u3⟩:=H.O.f3)
      refine bodyPost_ret (v:=.tuple #[.agg #[.slice none 0 0,.slice none 0 0,.slice none 0 0],.int .i64 80]) (by simp[results,Tryz.results154,go_sem, *];done) rfl ⟨_,_,_,_,_,_,_,_,_,rfl,TVP.z _ _,?_⟩
      exact((H.B.setCell (by show w.heap.size≤w.heap.size+1;omega) _).setCell (by show w.heap.size≤w.heap.size+1;omega) _).setCell (by show w.heap.size≤w.heap.size+1;omega) _
    ·have yb:(c.g.k == 11)=false:=by simp[hk]
     obtain rfl:ok=true:=by rw[←HV.out,okVal,HRV.out];simp[hk]
     clear hk
     go_upto_region 27 with (go_at_call 115;refine(rRight_is5 c.d.k c.d.b c.d.t c.g.s c.g.k c.g.l x0 x1 true HRV.out _).mono ?_;rintro e wM ⟨rfl,hb⟩;replace H:=H.below hb;replace N:=N.below hb;replace Z:=Z.below hb;replace C:=C.below hb;clear hb a0 a1 a2 a3 a4 a5 a6 a7 a8;obtain⟨a0,a1,a2,a3,a4,a5,a6,a7,a8⟩:=C.c9;obtain⟨n1,n2,n3,o1,o2,o3⟩:=N.f3;obtain⟨i1,i2,i3,j1,j2,j3⟩:=Z.f3;obtain⟨s1,s2,s3,u1,u2,u3⟩:=H.O.f3)
     clear i1 i2 i3 j1 j2 j3 s1 s2 s3 u1 u2 u3 n1 n2 n3 o1 o2 o3
     have szF:Hid (fs.length+1≤maxLen∧(fs.length+1) * 32≤140737488355328):=J0 (by rw[HFL.out,HM.out];simp only[maxLen];omega)
     have szM:Hid (ms.length+1≤maxLen∧(ms.length+1) * 40≤140737488355328):=J0 (by rw[HML.out,kM_length];simp only[maxLen];omega)
     have nf:=below_new (w:=wM) (.cells #[.string c.g.s,.int .i64 c.g.k,.int .i64 c.g.l] 68)
     have hbU:W0.heap.size+1≤(wM).heap.size:=H.lt
     obtain⟨p1,p2,p3,q1,q2,q3⟩:=(H.O.below nf).f3
     obtain⟨s1,s2,s3,u1,u2,u3⟩:=H.O.f3
     go_wp2_with (first
      |(at_builtin;refine wpList_append_own_at _ rfl _ _ 27 rfl (W0.heap.size+1) 68 iF (.agg #[.string ⟨#[]⟩,.int .i64 0,.int .i64 0]) 3 32 Tryz.underlying27 hiF hzF0 hzF1 hzF2 rfl (by decide) _ _ _ rfl (own_below H.F nf) ⟨wM.heap.size,0,none⟩ 1 1 [.string c.g.s,.int .i64 c.g.k,.int .i64 c.g.l] (by first|rfl|simp) rfl ?c1 ?c2 ?c3 ?c4 ?c5 ?_))
     case c1=>exact news3 _ _ _ _ _
     case c2=>intro u hu;simp at hu;rcases hu with rfl|rfl|rfl <;> rfl
     case c3=>exact(szF.out).1
     case c4=>have:=szF.out.2;omega
     case c5=>have:=nf.size;omega
     intro vF' W5 ownF5 gr5 _ hat5
     obtain⟨O5,H6,fr6⟩:=H.addF nf ⟨c.g.s,c.g.k,c.g.l⟩ gr5 hbU ownF5 (by first|exact hat5|simpa using hat5)
     obtain⟨F5,c5,rfl,_,_,_⟩:=own_rd ownF5
     clear p1 p2 p3 q1 q2 q3 s1 s2 s3 u1 u2 u3 ownF5 gr5 hat5
     obtain⟨s1,s2,s3,u1,u2,u3⟩:=O5.f3
     have nm:=below_new (w:=W5.setCell ⟨W0.heap.size,1,none⟩ (.slice F5 (fs.length+1) c5)) (.cells #[.int .i64 (-1),.int .i64 c.d.k,.int .u64 c.d.b,.string c.d.t] 157)
     have hb6:Hid (W0.heap.size+1≤(W5.setCell ⟨W0.heap.size,1,none⟩ (.slice F5 (fs.length+1) c5)).heap.size):=J0 H6.lt
     have z6:Hid (W5.heap.size=(W5.setCell ⟨W0.heap.size,1,none⟩ (.slice F5 (fs.length+1) c5)).heap.size):=J0 (by simp)
     obtain⟨p1,p2,p3,q1,q2,q3⟩:=H6.O.f3
     obtain⟨t1,t2,t3,v1,v2,v3⟩:=(H6.O.below nm).f3
     obtain⟨e0,e1,e2,e3,e4,e5,e6,e7,e8⟩:=CBox.c9 (show CBox (W5.setCell ⟨W0.heap.size,1,none⟩ (.slice F5 (fs.length+1) c5)) w.heap.size c (.slice Q n qc) 73 from(fr6 _ (by omega) (by omega)).trans C)
     go_wp2_with (at_builtin;refine wpList_append_own_at _ rfl _ _ 108 rfl (W0.heap.size+1) 157 iM (.agg #[.int .i64 0,.int .i64 0,.int .u64 0,.string ⟨#[]⟩]) 4 40 Tryz.underlying108 hiM hzM0 hzM1 hzM2 rfl (by decide) _ _ _ rfl (own_below H6.M nm) ⟨W5.heap.size,0,none⟩ 1 1 [.int .i64 (-1),.int .i64 c.d.k,.int .u64 c.d.b,.string c.d.t] rfl rfl ?c1 ?c2 ?c3 ?c4 ?c5 ?_)
     case c1=>rw[z6.out];exact news4 _ _ _ _ _ _
     case c2=>intro u hu;simp at hu;rcases hu with rfl|rfl|rfl|rfl <;> rfl
     case c3=>exact(szM.out).1
     case c4=>have:=szM.out.2;omega
     case c5=>have:=nm.size;have:=hb6.out;omega
     intro vM' W7 ownM7 gr7 _ hat7
     obtain⟨O7,H8,fr8⟩:=H6.addM nm ⟨-1,c.d⟩ gr7 hb6.out ownM7 (by first|exact hat7|simpa using hat7)
     obtain⟨M7,c7,rfl,_,_,_⟩:=own_rd ownM7
     clear p1 p2 p3 q1 q2 q3 s1 s2 s3 u1 u2 u3 t1 t2 t3 v1 v2 v3 ownM7 gr7 hat7
     obtain⟨s1,s2,s3,u1,u2,u3⟩:=O7.f3
     have H9:=H8
     have N9:=(show OBox _ (w.heap.size+1) [.slice none 0 0,.slice none 0 0,.slice none 0 0] 110 from(fr8 _ (by omega) (by omega)).trans ((fr6 _ (by omega) (by omega)).trans N))
     have Z9:=(show OBox _ (w.heap.size+2) [.slice none 0 0,.slice none 0 0,.slice none 0 0] 110 from(fr8 _ (by omega) (by omega)).trans ((fr6 _ (by omega) (by omega)).trans Z))
     have C9:=(show CBox _ w.heap.size c (.slice Q n qc) 73 from(fr8 _ (by omega) (by omega)).trans ((fr6 _ (by omega) (by omega)).trans C))
     have HFX:Hid ((fs++[c.g])=l++[c.g]):=J0 (by rw[HFL.out])
     have HMX:Hid ((ms++[⟨-1,c.d⟩])=kM j++[⟨-1,c.d⟩]):=J0 (by rw[HML.out])
     have szX:Hid (((fs++[c.g])).length≤281474976710656):=J0 ((by rw[HFL.out];simp[HM.out];omega))
     have SFX:Hid (FdS ((fs++[c.g]))):=J0 ((by rw[HFL.out];intro x hx;rcases X7.1 hx with h|h;exact sl x h;simp at h;subst h;exact sg))
     generalize hFX:fs++[c.g]=FX at *
     generalize hMX:ms++[(⟨-1,c.d⟩:Mv)]=MX at *
     clear C a0 a1 a2 a3 a4 a5 a6 a7 a8 e0 e1 e2 e3 e4 e5 e6 e7 e8
     obtain⟨b1,b2,b3,d1,d2,d3⟩:(W7.cell? ⟨W0.heap.size,0,none⟩=some _∧W7.cell? ⟨W0.heap.size,1,none⟩=some _∧W7.cell? ⟨W0.heap.size,2,none⟩=some _∧W7.frozen? ⟨W0.heap.size,0,none⟩=false∧W7.frozen? ⟨W0.heap.size,1,none⟩=false∧W7.frozen? ⟨W0.heap.size,2,none⟩=false):=⟨s1,s2,s3,u1,u2,u3⟩
     clear s1 s2 s3 u1 u2 u3
     obtain⟨eF,RF⟩:=own_slice H9.F
     obtain⟨eM,RM⟩:=own_slice H9.M
     have EF:=J0 eF
     have EM:=J0 eM
     clear eF eM RM
     have sz9:W0.heap.size<_:=H9.lt
     have SF:FdS FX:=SFX.out
     have hFl:FX.length≤9223372036854775807:=(by have:=szX.out;omega)
     obtain⟨s1,s2,s3,u1,u2,u3⟩:=H9.O.f3
     obtain⟨n1,n2,n3,o1,o2,o3⟩:=N9.f3
     obtain⟨i1,i2,i3,j1,j2,j3⟩:=Z9.f3
     obtain⟨a0,a1,a2,a3,a4,a5,a6,a7,a8⟩:=C9.c9
     cases r
     ·go_wp2_with (go_at_call 77;refine(rRight_m _ _ _ FX EF.out.symm false (by rw[HFX.out];exact HRT.out) _ RF (by rw[EF.out];exact hFl) SF).mono ?_;rintro e wM ⟨rfl,hb⟩;replace H9:=H9.below hb;replace N9:=N9.below hb;replace Z9:=Z9.below hb;clear hb s1 s2 s3 u1 u2 u3 n1 n2 n3 o1 o2 o3 i1 i2 i3 j1 j2 j3 a0 a1 a2 a3 a4 a5 a6 a7 a8;obtain⟨n1,n2,n3,o1,o2,o3⟩:=N9.f3;obtain⟨i1,i2,i3,j1,j2,j3⟩:=Z9.f3)
      refine bodyPost_ret (v:=.tuple #[.agg #[.slice none 0 0,.slice none 0 0,.slice none 0 0],.int .i64 80]) (by simp[results,Tryz.results154,go_sem, *];done) rfl ⟨_,_,_,_,_,_,_,_,_,rfl,TVP.z _ _,?_⟩
      exact((H9.B.setCell (by show w.heap.size≤w.heap.size+1;omega) _).setCell (by show w.heap.size≤w.heap.size+1;omega) _).setCell (by show w.heap.size≤w.heap.size+1;omega) _
     ·go_wp2_with (go_at_call 77;refine(rRight_m _ _ _ FX EF.out.symm true (by rw[HFX.out];exact HRT.out) _ RF (by rw[EF.out];exact hFl) SF).mono ?_;rintro e wM ⟨rfl,hb⟩;replace H9:=H9.below hb;replace N9:=N9.below hb;clear hb s1 s2 s3 u1 u2 u3 n1 n2 n3 o1 o2 o3 i1 i2 i3 j1 j2 j3 a0 a1 a2 a3 a4 a5 a6 a7 a8;obtain⟨n1,n2,n3,o1,o2,o3⟩:=N9.f3;obtain⟨s1,s2,s3,u1,u2,u3⟩:=H9.O.f3)
      have BF:=own_base H9.F
      have BM:=own_base H9.M
      refine bodyPost_ret (v:=.tuple #[.agg #[.slice A j cA,.slice F5 (fs.length+1) c5,.slice M7 (ms.length+1) c7],.int .i64 0]) (by simp[results,Tryz.results154,go_sem, *];done) rfl ⟨_,_,_,_,_,_,_,_,_,rfl,?_,?_⟩
      ·refine own_TVr (t:=⟨l,_,_⟩) HM.out ?_ (fun _ _=>trivial) (own_eq (own_keep H9.F fun g hg=>?_) EF.out.symm (by rw[HFX.out])) (by rw[EF.out,←HFX.out]) (fun _ _=>trivial) (own_eq (own_keep H9.M fun g hg=>?_) EM.out.symm (by rw[HMX.out])) (by rw[EM.out,←HMX.out]) (fun _ _=>trivial)
       ·exact hA.below (((H9.B.setCell (by show w.heap.size≤w.heap.size+1;omega) _).setCell (by show w.heap.size≤w.heap.size+1;omega) _).setCell (by show w.heap.size≤w.heap.size+1;omega) _)
       ·have h:=BF g hg
        exact(J5 _ _ _ _ (by show g≠w.heap.size+1;omega)).trans ((J5 _ _ _ _ (by show g≠w.heap.size+1;omega)).trans (J5 _ _ _ _ (by show g≠w.heap.size+1;omega)))
       ·have h:=BM g hg
        exact(J5 _ _ _ _ (by show g≠w.heap.size+1;omega)).trans ((J5 _ _ _ _ (by show g≠w.heap.size+1;omega)).trans (J5 _ _ _ _ (by show g≠w.heap.size+1;omega)))
      ·exact((H9.B.setCell (by show w.heap.size≤w.heap.size+1;omega) _).setCell (by show w.heap.size≤w.heap.size+1;omega) _).setCell (by show w.heap.size≤w.heap.size+1;omega) _
end
end Go.Proofs.YteembinfgbapgaaGreat
