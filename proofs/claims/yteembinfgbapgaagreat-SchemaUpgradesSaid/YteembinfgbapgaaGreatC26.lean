/- Merged out of: Oh Oi. -/
import Derived.Test.YteembinfgbapgaaGreatC00
import Derived.Test.YteembinfgbapgaaGreatC23
import Derived.Test.YteembinfgbapgaaGreatC24
import Derived.Test.YteembinfgbapgaaGreatC25
set_option linter.unusedSimpArgs false
set_option linter.unusedVariables false
set_option maxRecDepth 100000
set_option maxHeartbeats 8000000
namespace Go.Proofs.YteembinfgbapgaaGreat
section
open Go.RowKit Go.Lib
theorem cellsM_from {l:List Mv} {k:Nat} {m:Mv} (hm:l[k]?=some m) (x:Int):cellsM (l.set k ⟨x,m.d⟩)=(cellsM l).set (k * 4) (.int .i64 x):=by
 induction l generalizing k with
 |nil=>simp at hm
 |cons a r ih=>
  have e:∀(y:Mv) (r:List Mv),cellsM (y :: r)=[.int .i64 y.f,.int .i64 y.d.k,.int .u64 y.d.b,.string y.d.t]++cellsM r:=fun y r=>by simp[cellsM]
  cases k with
  |zero=>simp at hm;subst hm;rw[J3,e,e];rfl
  |succ k=>rw[J2,e,e,ih (by simpa using hm),show(k+1) * 4=k * 4+1+1+1+1 by omega];rfl
theorem TO.setF {w W:World} {base ob gF n cF i:Nat} {xO vM:Value} {fs:List Fd} {ms:List Mv} {T TM:TypeId} (h:TO w W base ob xO (.slice (some ⟨gF,0,none⟩) n cF) vM fs ms T TM) {f:Fd} (hf:fs[i]?=some f) (g:Fd):
 TO w (((W.setCell ⟨gF,i * 3,none⟩ (.string g.s)).setCell ⟨gF,i * 3+1,none⟩ (.int .i64 g.k)).setCell ⟨gF,i * 3+2,none⟩ (.int .i64 g.l)) base ob xO (.slice (some ⟨gF,0,none⟩) n cF) vM (fs.set i g) ms T TM∧
 ∀b,b<base→(((W.setCell ⟨gF,i * 3,none⟩ (.string g.s)).setCell ⟨gF,i * 3+1,none⟩ (.int .i64 g.k)).setCell ⟨gF,i * 3+2,none⟩ (.int .i64 g.l)).heap[b]?=W.heap[b]?:=by
 obtain⟨hn,_⟩:=own_slice h.F
 subst hn
 have hb:=own_base h.F gF rfl
 have lo:=h.lo
 have hob:=h.hob
 have ks:∀b,b≠gF→(((W.setCell ⟨gF,i * 3,none⟩ (.string g.s)).setCell ⟨gF,i * 3+1,none⟩ (.int .i64 g.k)).setCell ⟨gF,i * 3+2,none⟩ (.int .i64 g.l)).heap[b]?=W.heap[b]?:=fun b hne=>(J5 _ _ _ _ hne).trans ((J5 _ _ _ _ hne).trans (J5 _ _ _ _ hne))
 refine⟨⟨(ks _ (by omega)).trans h.O,?_,own_keep h.M (fun k hk=>ks k (by rintro rfl;exact h.ap k rfl hk)),h.ap,h.lo,?_,h.hob⟩,fun b hlt=>ks b (by omega)⟩
 ·exact own_eq (own_set (own_set (own_set h.F _ _) _ _) _ _) (by simp) (cellsF_set fs i f g hf).symm
 ·exact((h.B.setCell (by show w.heap.size≤gF;omega) _).setCell (by show w.heap.size≤gF;omega) _).setCell (by show w.heap.size≤gF;omega) _
theorem TO.setM {w W:World} {base ob gM n cM i:Nat} {xO vF:Value} {fs:List Fd} {ms:List Mv} {T TM:TypeId} (h:TO w W base ob xO vF (.slice (some ⟨gM,0,none⟩) n cM) fs ms T TM) {m:Mv} (hm:ms[i]?=some m) (x:Int):
 TO w (W.setCell ⟨gM,i * 4,none⟩ (.int .i64 x)) base ob xO vF (.slice (some ⟨gM,0,none⟩) n cM) fs (ms.set i ⟨x,m.d⟩) T TM∧∀b,b<base→(W.setCell ⟨gM,i * 4,none⟩ (.int .i64 x)).heap[b]?=W.heap[b]?:=by
 obtain⟨hn,_⟩:=own_slice h.M
 subst hn
 have hb:=own_base h.M gM rfl
 have lo:=h.lo
 have hob:=h.hob
 have ks:∀b,b≠gM→(W.setCell ⟨gM,i * 4,none⟩ (.int .i64 x)).heap[b]?=W.heap[b]?:=fun b hne=>J5 _ _ _ _ hne
 refine⟨⟨(ks _ (by omega)).trans h.O,own_keep h.F (fun k hk=>ks k (by rintro rfl;exact h.ap k hk rfl)),?_,h.ap,h.lo,h.B.setCell (by show w.heap.size≤gM;omega) _,h.hob⟩,fun b hlt=>ks b (by omega)⟩
 exact own_eq (own_set h.M _ _) (by simp) (cellsM_from hm x).symm
theorem own_cells {w:World} {base n m K g c:Nat} {T:TypeId} {xs:List Value} (h:w.ownsRow base T K (.slice (some ⟨g,0,none⟩) n c) m xs):∀j u,xs[j]?=some u→w.cell? ⟨g,j,none⟩=some u∧w.frozen? ⟨g,j,none⟩=false:=by
 intro j u hj
 rcases h.2 with ⟨e,_⟩|⟨g',c',cur,e,_,hg,_,_,_,ht⟩
 ·cases e
 ·obtain⟨hn,_⟩:=own_slice h
  subst hn
  cases e
  refine⟨?_,by simp[World.frozen?,hg]⟩
  rw[←ht,X9] at hj
  split at hj
  ·simp only[World.cell?,hg];simpa using hj
  ·cases hj
theorem own_some_slice {w:World} {base n K:Nat} {T:TypeId} {v:Value} {xs:List Value} (h:w.ownsRow base T K v n xs) (hn:0<n):∃g c,v=.slice (some ⟨g,0,none⟩) n c:=by
 obtain⟨g,c,e,_⟩:=own_blk h hn
 exact⟨g,c,e⟩
theorem set_mix {α:Type} {a b:List α} {i:Nat} {y:α} (ha:a.length=i) (x:α) (hy:b[i]?=some y):(a++b.drop i).set i x=(a++[x])++b.drop (i+1):=by
 have hlt:=(J6.1 hy).1
 rw[List.set_append_right _ _ (by omega),ha,Nat.sub_self,List.drop_eq_getElem_cons hlt,J3]
 simp
theorem get_mix {α:Type} {a b:List α} {i:Nat} {y:α} (ha:a.length=i) (hy:b[i]?=some y):(a++b.drop i)[i]?=some y:=by
 rw[Q8 (by omega),ha,Nat.sub_self,List.getElem?_drop];simpa using hy
theorem rMake_orders_no (l:List Fd) (c:Ch) (m:Nat) (hm:l.length=m) (hl:m≤9223372036854775807) (A:Option Addr) (cA:Nat) (Q:Option Addr) (n qc:Nat) (hn:c.q.length=n) (hn1:n≤17592186044415) (x0:0≤c.d.b) (x1:c.d.b<18446744073709551616) (sl:FdS l) (sg:c.g.s.size≤9223372036854775807) (w:World) (hA:Rd w A (cellsF l)) (RQ:Rd w Q (cellsI c.q)) (hop:c.op=5) (hr:rightF l=true) (hv:permB c.q m=false):
 Calls Tryz.prog 154 #[.slice A m cA,.agg #[.int .i64 c.op,.string c.s,.string c.g.s,.int .i64 c.g.k,.int .i64 c.g.l,.int .i64 c.d.k,.int .u64 c.d.b,.string c.d.t,.slice Q n qc]] w fun e w'=>RkP Tb.z 80 w e w':=by
 have h16:m≤16:=by rw[←hm];exact(rightF_may hr).2
 obtain⟨iF,hiF,hzF0,hzF1,hzF2⟩:=info_parts infoFd
 obtain⟨iM,hiM,hzM0,hzM1,hzM2⟩:=info_parts infoMr
 have bb1:=below_new (w:=w) (.cells #[.int .i64 c.op,.string c.s,.string c.g.s,.int .i64 c.g.k,.int .i64 c.g.l,.int .i64 c.d.k,.int .u64 c.d.b,.string c.d.t,.slice Q n qc] 73)
 have bb2:=below_new (w:=w.alloc (.cells #[.int .i64 c.op,.string c.s,.string c.g.s,.int .i64 c.g.k,.int .i64 c.g.l,.int .i64 c.d.k,.int .u64 c.d.b,.string c.d.t,.slice Q n qc] 73)) (.cells #[.slice none 0 0,.slice none 0 0,.slice none 0 0] 110)
 have bb3:=below_new (w:=(w.alloc (.cells #[.int .i64 c.op,.string c.s,.string c.g.s,.int .i64 c.g.k,.int .i64 c.g.l,.int .i64 c.d.k,.int .u64 c.d.b,.string c.d.t,.slice Q n qc] 73)).alloc (.cells #[.slice none 0 0,.slice none 0 0,.slice none 0 0] 110)) (.cells #[.slice none 0 0,.slice none 0 0,.slice none 0 0] 110)
 have C:CBox _ _ c (.slice Q n qc) 73:=((OBox.new w (chL c (.slice Q n qc)) 73).below bb2).below bb3
 have N:=(OBox.new (w.alloc (.cells #[.int .i64 c.op,.string c.s,.string c.g.s,.int .i64 c.g.k,.int .i64 c.g.l,.int .i64 c.d.k,.int .u64 c.d.b,.string c.d.t,.slice Q n qc] 73)) [.slice none 0 0,.slice none 0 0,.slice none 0 0] 110).below bb3
 have Z:=OBox.new ((w.alloc (.cells #[.int .i64 c.op,.string c.s,.string c.g.s,.int .i64 c.g.k,.int .i64 c.g.l,.int .i64 c.d.k,.int .u64 c.d.b,.string c.d.t,.slice Q n qc] 73)).alloc (.cells #[.slice none 0 0,.slice none 0 0,.slice none 0 0] 110)) [.slice none 0 0,.slice none 0 0,.slice none 0 0] 110
 rw[Jq] at N
 rw[Jq,Jq] at Z
 have HB:=below_seq (below_seq bb1 bb2) bb3
 have hA1:=hA.below HB
 obtain⟨a0,a1,a2,a3,a4,a5,a6,a7,a8⟩:=C.c9
 obtain⟨n1,n2,n3,o1,o2,o3⟩:=N.f3
 obtain⟨i1,i2,i3,j1,j2,j3⟩:=Z.f3
 obtain⟨z,hz⟩:∃z,findZ l c.s=z:=⟨_,rfl⟩
 have HZ:=J0 hz
 have HM:=J0 hm
 have HN:=J0 hn
 clear bb1 bb2 bb3
 have y1:decide (c.op<1)=false:=by rw[hop];decide
 have y2:decide (5<c.op)=false:=by rw[hop];decide
 have y3:decide (2≤c.op)=true:=by rw[hop];decide
 have y4:decide (c.op≤4)=false:=by rw[hop];decide
 have y6:(c.op == 3)=false:=by rw[hop];decide
 have y7:(c.op == 4)=false:=by rw[hop];decide
 have y8:(c.op != 2)=true:=by rw[hop];decide
 have y9:(c.op == 1)=false:=by rw[hop];decide
 have ya:(c.op == 5)=true:=by rw[hop];decide
 have HR:=J0 hr
 clear hr hz hm hn hop
 go_enter Tryz.func154,Tryz.ntmps154
 go_wp2_with (first
  |(go_at_call 114;refine(rFind_m A cA m l HM.out c.s z HZ.out _ hA1 hl).mono ?_;rintro e w' ⟨rfl,rfl⟩)
  |(go_at_call 77;refine(rRight_m A cA m l HM.out true HR.out _ hA1 hl sl).mono ?_;rintro e W0 ⟨rfl,hb⟩;replace HB:=HB.trans (hb.mono HB.size);replace hA1:=hA1.below hb;replace C:=C.below hb;replace N:=N.below hb;replace Z:=Z.below hb;clear hb a0 a1 a2 a3 a4 a5 a6 a7 a8 n1 n2 n3 o1 o2 o3 i1 i2 i3 j1 j2 j3;obtain⟨a0,a1,a2,a3,a4,a5,a6,a7,a8⟩:=C.c9;obtain⟨n1,n2,n3,o1,o2,o3⟩:=N.f3;obtain⟨i1,i2,i3,j1,j2,j3⟩:=Z.f3))
 have szW:w.heap.size+2<W0.heap.size:=Z.lt
 have nb:=below_new (w:=W0) (.cells #[.slice A m cA,.slice none 0 0,.slice none 0 0] 110)
 have H0:TO w (W0.alloc (.cells #[.slice A m cA,.slice none 0 0,.slice none 0 0] 110)) (W0.heap.size+1) W0.heap.size (.slice A m cA) (.slice none 0 0) (.slice none 0 0) [] [] 110 157:=
  ⟨OBox.new W0 _ _,own_nil _ _ _ _,own_nil _ _ _ _,fun g hg=>by simp[Value.ownBlock] at hg,Nat.lt_succ_self _,HB.trans (nb.mono HB.size),HB.size⟩
 have C0:=C.below nb
 have N0:=N.below nb
 have Z0:=Z.below nb
 clear nb C N Z HB hA1 a0 a1 a2 a3 a4 a5 a6 a7 a8 n1 n2 n3 o1 o2 o3 i1 i2 i3 j1 j2 j3
 go_loopw [9,10] (fun i _ wr=>∃(j:Nat) (vF vM:Value),j≤m∧i=.int .i64 j∧TO w wr (W0.heap.size+1) W0.heap.size (.slice A m cA) vF vM (l.take j) (kM j) 110 157∧OBox wr (w.heap.size+1) [.slice none 0 0,.slice none 0 0,.slice none 0 0] 110∧OBox wr (w.heap.size+2) [.slice none 0 0,.slice none 0 0,.slice none 0 0] 110∧CBox wr w.heap.size c (.slice Q n qc) 73) (fun i _ _=>m - (intOf i).toNat)
 case atStart=>exact⟨0,_,_,by omega,rfl,H0,N0,Z0,C0⟩
 case round=>
  obtain⟨j,vF,vM,hj,rfl,H,N,Z,C⟩:=hrel
  clear H0 N0 Z0 C0
  obtain⟨fs,hfs⟩:∃fs,(l.take j)=fs:=⟨_,rfl⟩
  obtain⟨ms,hms⟩:∃ms,(kM j)=ms:=⟨_,rfl⟩
  rw[hfs,hms] at H
  have HFS:=J0 hfs
  have HMS:=J0 hms
  clear hfs hms
  have hAr:=hA.below H.B
  have RQr:=RQ.below H.B
  by_cases hlt:j<m
  ·obtain⟨f,hf⟩:∃f,l[j]?=some f:=⟨_,J4 (by rw[HM.out];exact hlt)⟩
   obtain⟨ad,rfl,g0,g1,g2⟩:=hAr.fld hf
   have hi0:(0:Int)≤(j:Int):=by omega
   have hi1:(j:Int)<(m:Int):=by omega
   have HF:=J0 hf
   have nu:=below_new (w:=wr) (.cells #[.string f.s,.int .i64 f.k,.int .i64 f.l] 68)
   have GB:=OBox.new wr [.string f.s,.int .i64 f.k,.int .i64 f.l] 68
   have HU:=H.below nu
   have NU:=N.below nu
   have ZU:=Z.below nu
   have CU:=C.below nu
   have hsz:W0.heap.size<wr.heap.size:=H.lt
   clear hf
   have hst:Hid (l.take (j+1)=l.take j++[f]):=J0 (by rw[Vq,HF.out];rfl)
   have szF:Hid (fs.length+1≤maxLen∧(fs.length+1) * 32≤140737488355328):=J0 (by have h5:fs.length≤j:=(by rw[←HFS.out,Qv];omega);simp only[maxLen];omega)
   have szM:Hid (ms.length+1≤maxLen∧(ms.length+1) * 40≤140737488355328):=J0 (by rw[←HMS.out,kM_length];simp only[maxLen];omega)
   obtain⟨a0,a1,a2,a3,a4,a5,a6,a7,a8⟩:=CU.c9
   have nf:=below_new (w:=(wr.alloc (.cells #[.string f.s,.int .i64 f.k,.int .i64 f.l] 68))) (.cells #[.string f.s,.int .i64 f.k,.int .i64 f.l] 68)
   have hbU:W0.heap.size+1≤((wr.alloc (.cells #[.string f.s,.int .i64 f.k,.int .i64 f.l] 68))).heap.size:=HU.lt
   obtain⟨p1,p2,p3,q1,q2,q3⟩:=(HU.O.below nf).f3
   obtain⟨s1,s2,s3,u1,u2,u3⟩:=HU.O.f3
   go_wp2_with (first
    |(at_builtin;refine wpList_append_own_at _ rfl _ _ 27 rfl (W0.heap.size+1) 68 iF (.agg #[.string ⟨#[]⟩,.int .i64 0,.int .i64 0]) 3 32 Tryz.underlying27 hiF hzF0 hzF1 hzF2 rfl (by decide) _ _ _ rfl (own_below HU.F nf) ⟨wr.heap.size+1,0,none⟩ 1 1 [.string f.s,.int .i64 f.k,.int .i64 f.l] (by first|rfl|simp) rfl ?c1 ?c2 ?c3 ?c4 ?c5 ?_))
   case c1=>rw[show wr.heap.size+1=((wr.alloc (.cells #[.string f.s,.int .i64 f.k,.int .i64 f.l] 68))).heap.size by simp];exact news3 _ _ _ _ _
   case c2=>intro u hu;simp at hu;rcases hu with rfl|rfl|rfl <;> rfl
   case c3=>exact(szF.out).1
   case c4=>have:=szF.out.2;omega
   case c5=>have:=nf.size;omega
   intro vF' W5 ownF5 gr5 _ hat5
   obtain⟨O5,H6,fr6⟩:=HU.addF nf ⟨f.s,f.k,f.l⟩ gr5 hbU ownF5 (by first|exact hat5|simpa using hat5)
   obtain⟨F5,c5,rfl,_,_,_⟩:=own_rd ownF5
   clear p1 p2 p3 q1 q2 q3 s1 s2 s3 u1 u2 u3 ownF5 gr5 hat5
   obtain⟨s1,s2,s3,u1,u2,u3⟩:=O5.f3
   have nm:=below_new (w:=W5.setCell ⟨W0.heap.size,1,none⟩ (.slice F5 (fs.length+1) c5)) (.cells #[.int .i64 j,.int .i64 0,.int .u64 0,.string ⟨#[]⟩] 157)
   have hb6:Hid (W0.heap.size+1≤(W5.setCell ⟨W0.heap.size,1,none⟩ (.slice F5 (fs.length+1) c5)).heap.size):=J0 H6.lt
   have z6:Hid (W5.heap.size=(W5.setCell ⟨W0.heap.size,1,none⟩ (.slice F5 (fs.length+1) c5)).heap.size):=J0 (by simp)
   obtain⟨p1,p2,p3,q1,q2,q3⟩:=H6.O.f3
   obtain⟨t1,t2,t3,v1,v2,v3⟩:=(H6.O.below nm).f3
   go_wp2_with (at_builtin;refine wpList_append_own_at _ rfl _ _ 108 rfl (W0.heap.size+1) 157 iM (.agg #[.int .i64 0,.int .i64 0,.int .u64 0,.string ⟨#[]⟩]) 4 40 Tryz.underlying108 hiM hzM0 hzM1 hzM2 rfl (by decide) _ _ _ rfl (own_below H6.M nm) ⟨W5.heap.size,0,none⟩ 1 1 [.int .i64 j,.int .i64 0,.int .u64 0,.string ⟨#[]⟩] rfl rfl ?c1 ?c2 ?c3 ?c4 ?c5 ?_)
   case c1=>rw[z6.out];exact news4 _ _ _ _ _ _
   case c2=>intro u hu;simp at hu;rcases hu with rfl|rfl|rfl|rfl <;> rfl
   case c3=>exact(szM.out).1
   case c4=>have:=szM.out.2;omega
   case c5=>have:=nm.size;have:=hb6.out;omega
   intro vM' W7 ownM7 gr7 _ hat7
   obtain⟨O7,H8,fr8⟩:=H6.addM nm ⟨j,Vl.z⟩ gr7 hb6.out ownM7 (by first|exact hat7|simpa using hat7)
   obtain⟨M7,c7,rfl,_,_,_⟩:=own_rd ownM7
   clear p1 p2 p3 q1 q2 q3 s1 s2 s3 u1 u2 u3 t1 t2 t3 v1 v2 v3 ownM7 gr7 hat7
   obtain⟨s1,s2,s3,u1,u2,u3⟩:=O7.f3
   go_wp2
   go_roundw
   case rel=>
    refine⟨j+1,_,_,by omega,by go_num,(by rw[hst.out,kM_succ,HFS.out,HMS.out];exact H8),?_,?_,?_⟩
    ·exact(fr8 _ (by omega) (by omega)).trans ((fr6 _ (by omega) (by omega)).trans NU)
    ·exact(fr8 _ (by omega) (by omega)).trans ((fr6 _ (by omega) (by omega)).trans ZU)
    ·exact(fr8 _ (by omega) (by omega)).trans ((fr6 _ (by omega) (by omega)).trans CU)
   case measure=>simp[intOf];omega
  ·obtain rfl:j=m:=by omega
   obtain⟨a0,a1,a2,a3,a4,a5,a6,a7,a8⟩:=C.c9
   have HFL:Hid (fs=l):=J0 (by rw[←HFS.out];exact Vz (by rw[HM.out];exact J9 _))
   have HML:Hid (ms=kM j):=J0 (by rw[←HMS.out])
   have HV:=J0 hv
   have RQ5:=RQ.below H.B
   obtain⟨i1,i2,i3,j1,j2,j3⟩:=Z.f3
   obtain⟨n1,n2,n3,o1,o2,o3⟩:=N.f3
   clear hv
   go_wp2_with (go_at_call 172;refine(rall_m c.q n HN.out Q qc j hn1 (by omega) _ RQ5).mono ?_;rintro e w' ⟨rfl,rfl⟩;rw[HV.out])
   refine bodyPost_ret (v:=.tuple #[.agg #[.slice none 0 0,.slice none 0 0,.slice none 0 0],.int .i64 80]) (by simp[results,Tryz.results154,go_sem, *];done) rfl ⟨_,_,_,_,_,_,_,_,_,rfl,TVP.z _ _,?_⟩
   exact((H.B.setCell (by show w.heap.size≤w.heap.size+1;omega) _).setCell (by show w.heap.size≤w.heap.size+1;omega) _).setCell (by show w.heap.size≤w.heap.size+1;omega) _
theorem rMake_orders_yes (l:List Fd) (c:Ch) (m:Nat) (hm:l.length=m) (hl:m≤9223372036854775807) (A:Option Addr) (cA:Nat) (Q:Option Addr) (n qc:Nat) (hn:c.q.length=n) (hn1:n≤17592186044415) (x0:0≤c.d.b) (x1:c.d.b<18446744073709551616) (sl:FdS l) (sg:c.g.s.size≤9223372036854775807) (w:World) (hA:Rd w A (cellsF l)) (RQ:Rd w Q (cellsI c.q)) (hop:c.op=5) (hr:rightF l=true) (hv:permB c.q m=true) (r:Bool) (hrt:rightF (c.q.map (fun x:Int=>(l[x.toNat]?).getD Fd.z))=r):
 Calls Tryz.prog 154 #[.slice A m cA,.agg #[.int .i64 c.op,.string c.s,.string c.g.s,.int .i64 c.g.k,.int .i64 c.g.l,.int .i64 c.d.k,.int .u64 c.d.b,.string c.d.t,.slice Q n qc]] w fun e w'=>RkP (bif r then⟨l,(c.q.map (fun x:Int=>(l[x.toNat]?).getD Fd.z)),(c.q.map (fun x:Int=>(⟨x,Vl.z⟩:Mv)))⟩ else Tb.z) (bif r then 0 else 80) w e w':=by
 have h16:m≤16:=by rw[←hm];exact(rightF_may hr).2
 obtain⟨iF,hiF,hzF0,hzF1,hzF2⟩:=info_parts infoFd
 obtain⟨iM,hiM,hzM0,hzM1,hzM2⟩:=info_parts infoMr
 have bb1:=below_new (w:=w) (.cells #[.int .i64 c.op,.string c.s,.string c.g.s,.int .i64 c.g.k,.int .i64 c.g.l,.int .i64 c.d.k,.int .u64 c.d.b,.string c.d.t,.slice Q n qc] 73)
 have bb2:=below_new (w:=w.alloc (.cells #[.int .i64 c.op,.string c.s,.string c.g.s,.int .i64 c.g.k,.int .i64 c.g.l,.int .i64 c.d.k,.int .u64 c.d.b,.string c.d.t,.slice Q n qc] 73)) (.cells #[.slice none 0 0,.slice none 0 0,.slice none 0 0] 110)
 have bb3:=below_new (w:=(w.alloc (.cells #[.int .i64 c.op,.string c.s,.string c.g.s,.int .i64 c.g.k,.int .i64 c.g.l,.int .i64 c.d.k,.int .u64 c.d.b,.string c.d.t,.slice Q n qc] 73)).alloc (.cells #[.slice none 0 0,.slice none 0 0,.slice none 0 0] 110)) (.cells #[.slice none 0 0,.slice none 0 0,.slice none 0 0] 110)
 have C:CBox _ _ c (.slice Q n qc) 73:=((OBox.new w (chL c (.slice Q n qc)) 73).below bb2).below bb3
 have N:=(OBox.new (w.alloc (.cells #[.int .i64 c.op,.string c.s,.string c.g.s,.int .i64 c.g.k,.int .i64 c.g.l,.int .i64 c.d.k,.int .u64 c.d.b,.string c.d.t,.slice Q n qc] 73)) [.slice none 0 0,.slice none 0 0,.slice none 0 0] 110).below bb3
 have Z:=OBox.new ((w.alloc (.cells #[.int .i64 c.op,.string c.s,.string c.g.s,.int .i64 c.g.k,.int .i64 c.g.l,.int .i64 c.d.k,.int .u64 c.d.b,.string c.d.t,.slice Q n qc] 73)).alloc (.cells #[.slice none 0 0,.slice none 0 0,.slice none 0 0] 110)) [.slice none 0 0,.slice none 0 0,.slice none 0 0] 110
 rw[Jq] at N
 rw[Jq,Jq] at Z
 have HB:=below_seq (below_seq bb1 bb2) bb3
 have hA1:=hA.below HB
 obtain⟨a0,a1,a2,a3,a4,a5,a6,a7,a8⟩:=C.c9
 obtain⟨n1,n2,n3,o1,o2,o3⟩:=N.f3
 obtain⟨i1,i2,i3,j1,j2,j3⟩:=Z.f3
 obtain⟨z,hz⟩:∃z,findZ l c.s=z:=⟨_,rfl⟩
 have HZ:=J0 hz
 have HM:=J0 hm
 have HN:=J0 hn
 clear bb1 bb2 bb3
 have y1:decide (c.op<1)=false:=by rw[hop];decide
 have y2:decide (5<c.op)=false:=by rw[hop];decide
 have y3:decide (2≤c.op)=true:=by rw[hop];decide
 have y4:decide (c.op≤4)=false:=by rw[hop];decide
 have y6:(c.op == 3)=false:=by rw[hop];decide
 have y7:(c.op == 4)=false:=by rw[hop];decide
 have y8:(c.op != 2)=true:=by rw[hop];decide
 have y9:(c.op == 1)=false:=by rw[hop];decide
 have ya:(c.op == 5)=true:=by rw[hop];decide
 have HR:=J0 hr
 have HRT:=J0 hrt
 clear hr hz hm hn hop hrt
 go_enter Tryz.func154,Tryz.ntmps154
 go_wp2_with (first
  |(go_at_call 114;refine(rFind_m A cA m l HM.out c.s z HZ.out _ hA1 hl).mono ?_;rintro e w' ⟨rfl,rfl⟩)
  |(go_at_call 77;refine(rRight_m A cA m l HM.out true HR.out _ hA1 hl sl).mono ?_;rintro e W0 ⟨rfl,hb⟩;replace HB:=HB.trans (hb.mono HB.size);replace hA1:=hA1.below hb;replace C:=C.below hb;replace N:=N.below hb;replace Z:=Z.below hb;clear hb a0 a1 a2 a3 a4 a5 a6 a7 a8 n1 n2 n3 o1 o2 o3 i1 i2 i3 j1 j2 j3;obtain⟨a0,a1,a2,a3,a4,a5,a6,a7,a8⟩:=C.c9;obtain⟨n1,n2,n3,o1,o2,o3⟩:=N.f3;obtain⟨i1,i2,i3,j1,j2,j3⟩:=Z.f3))
 have szW:w.heap.size+2<W0.heap.size:=Z.lt
 have nb:=below_new (w:=W0) (.cells #[.slice A m cA,.slice none 0 0,.slice none 0 0] 110)
 have H0:TO w (W0.alloc (.cells #[.slice A m cA,.slice none 0 0,.slice none 0 0] 110)) (W0.heap.size+1) W0.heap.size (.slice A m cA) (.slice none 0 0) (.slice none 0 0) [] [] 110 157:=
  ⟨OBox.new W0 _ _,own_nil _ _ _ _,own_nil _ _ _ _,fun g hg=>by simp[Value.ownBlock] at hg,Nat.lt_succ_self _,HB.trans (nb.mono HB.size),HB.size⟩
 have C0:=C.below nb
 have N0:=N.below nb
 have Z0:=Z.below nb
 clear nb C N Z HB hA1 a0 a1 a2 a3 a4 a5 a6 a7 a8 n1 n2 n3 o1 o2 o3 i1 i2 i3 j1 j2 j3
 go_loopw [9,10] (fun i _ wr=>∃(j:Nat) (vF vM:Value),j≤m∧i=.int .i64 j∧TO w wr (W0.heap.size+1) W0.heap.size (.slice A m cA) vF vM (l.take j) (kM j) 110 157∧OBox wr (w.heap.size+1) [.slice none 0 0,.slice none 0 0,.slice none 0 0] 110∧OBox wr (w.heap.size+2) [.slice none 0 0,.slice none 0 0,.slice none 0 0] 110∧CBox wr w.heap.size c (.slice Q n qc) 73) (fun i _ _=>m - (intOf i).toNat)
 case atStart=>exact⟨0,_,_,by omega,rfl,H0,N0,Z0,C0⟩
 case round=>
  obtain⟨j,vF,vM,hj,rfl,H,N,Z,C⟩:=hrel
  clear H0 N0 Z0 C0
  obtain⟨fs,hfs⟩:∃fs,(l.take j)=fs:=⟨_,rfl⟩
  obtain⟨ms,hms⟩:∃ms,(kM j)=ms:=⟨_,rfl⟩
  rw[hfs,hms] at H
  have HFS:=J0 hfs
  have HMS:=J0 hms
  clear hfs hms
  have hAr:=hA.below H.B
  have RQr:=RQ.below H.B
  by_cases hlt:j<m
  ·obtain⟨f,hf⟩:∃f,l[j]?=some f:=⟨_,J4 (by rw[HM.out];exact hlt)⟩
   obtain⟨ad,rfl,g0,g1,g2⟩:=hAr.fld hf
   have hi0:(0:Int)≤(j:Int):=by omega
   have hi1:(j:Int)<(m:Int):=by omega
   have HF:=J0 hf
   have nu:=below_new (w:=wr) (.cells #[.string f.s,.int .i64 f.k,.int .i64 f.l] 68)
   have GB:=OBox.new wr [.string f.s,.int .i64 f.k,.int .i64 f.l] 68
   have HU:=H.below nu
   have NU:=N.below nu
   have ZU:=Z.below nu
   have CU:=C.below nu
   have hsz:W0.heap.size<wr.heap.size:=H.lt
   clear hf
   have hst:Hid (l.take (j+1)=l.take j++[f]):=J0 (by rw[Vq,HF.out];rfl)
   have szF:Hid (fs.length+1≤maxLen∧(fs.length+1) * 32≤140737488355328):=J0 (by have h5:fs.length≤j:=(by rw[←HFS.out,Qv];omega);simp only[maxLen];omega)
   have szM:Hid (ms.length+1≤maxLen∧(ms.length+1) * 40≤140737488355328):=J0 (by rw[←HMS.out,kM_length];simp only[maxLen];omega)
   obtain⟨a0,a1,a2,a3,a4,a5,a6,a7,a8⟩:=CU.c9
   have nf:=below_new (w:=(wr.alloc (.cells #[.string f.s,.int .i64 f.k,.int .i64 f.l] 68))) (.cells #[.string f.s,.int .i64 f.k,.int .i64 f.l] 68)
   have hbU:W0.heap.size+1≤((wr.alloc (.cells #[.string f.s,.int .i64 f.k,.int .i64 f.l] 68))).heap.size:=HU.lt
   obtain⟨p1,p2,p3,q1,q2,q3⟩:=(HU.O.below nf).f3
   obtain⟨s1,s2,s3,u1,u2,u3⟩:=HU.O.f3
   go_wp2_with (first
    |(at_builtin;refine wpList_append_own_at _ rfl _ _ 27 rfl (W0.heap.size+1) 68 iF (.agg #[.string ⟨#[]⟩,.int .i64 0,.int .i64 0]) 3 32 Tryz.underlying27 hiF hzF0 hzF1 hzF2 rfl (by decide) _ _ _ rfl (own_below HU.F nf) ⟨wr.heap.size+1,0,none⟩ 1 1 [.string f.s,.int .i64 f.k,.int .i64 f.l] (by first|rfl|simp) rfl ?c1 ?c2 ?c3 ?c4 ?c5 ?_))
   case c1=>rw[show wr.heap.size+1=((wr.alloc (.cells #[.string f.s,.int .i64 f.k,.int .i64 f.l] 68))).heap.size by simp];exact news3 _ _ _ _ _
   case c2=>intro u hu;simp at hu;rcases hu with rfl|rfl|rfl <;> rfl
   case c3=>exact(szF.out).1
   case c4=>have:=szF.out.2;omega
   case c5=>have:=nf.size;omega
   intro vF' W5 ownF5 gr5 _ hat5
   obtain⟨O5,H6,fr6⟩:=HU.addF nf ⟨f.s,f.k,f.l⟩ gr5 hbU ownF5 (by first|exact hat5|simpa using hat5)
   obtain⟨F5,c5,rfl,_,_,_⟩:=own_rd ownF5
   clear p1 p2 p3 q1 q2 q3 s1 s2 s3 u1 u2 u3 ownF5 gr5 hat5
   obtain⟨s1,s2,s3,u1,u2,u3⟩:=O5.f3
   have nm:=below_new (w:=W5.setCell ⟨W0.heap.size,1,none⟩ (.slice F5 (fs.length+1) c5)) (.cells #[.int .i64 j,.int .i64 0,.int .u64 0,.string ⟨#[]⟩] 157)
   have hb6:Hid (W0.heap.size+1≤(W5.setCell ⟨W0.heap.size,1,none⟩ (.slice F5 (fs.length+1) c5)).heap.size):=J0 H6.lt
   have z6:Hid (W5.heap.size=(W5.setCell ⟨W0.heap.size,1,none⟩ (.slice F5 (fs.length+1) c5)).heap.size):=J0 (by simp)
   obtain⟨p1,p2,p3,q1,q2,q3⟩:=H6.O.f3
   obtain⟨t1,t2,t3,v1,v2,v3⟩:=(H6.O.below nm).f3
   go_wp2_with (at_builtin;refine wpList_append_own_at _ rfl _ _ 108 rfl (W0.heap.size+1) 157 iM (.agg #[.int .i64 0,.int .i64 0,.int .u64 0,.string ⟨#[]⟩]) 4 40 Tryz.underlying108 hiM hzM0 hzM1 hzM2 rfl (by decide) _ _ _ rfl (own_below H6.M nm) ⟨W5.heap.size,0,none⟩ 1 1 [.int .i64 j,.int .i64 0,.int .u64 0,.string ⟨#[]⟩] rfl rfl ?c1 ?c2 ?c3 ?c4 ?c5 ?_)
   case c1=>rw[z6.out];exact news4 _ _ _ _ _ _
   case c2=>intro u hu;simp at hu;rcases hu with rfl|rfl|rfl|rfl <;> rfl
   case c3=>exact(szM.out).1
   case c4=>have:=szM.out.2;omega
   case c5=>have:=nm.size;have:=hb6.out;omega
   intro vM' W7 ownM7 gr7 _ hat7
   obtain⟨O7,H8,fr8⟩:=H6.addM nm ⟨j,Vl.z⟩ gr7 hb6.out ownM7 (by first|exact hat7|simpa using hat7)
   obtain⟨M7,c7,rfl,_,_,_⟩:=own_rd ownM7
   clear p1 p2 p3 q1 q2 q3 s1 s2 s3 u1 u2 u3 t1 t2 t3 v1 v2 v3 ownM7 gr7 hat7
   obtain⟨s1,s2,s3,u1,u2,u3⟩:=O7.f3
   go_wp2
   go_roundw
   case rel=>
    refine⟨j+1,_,_,by omega,by go_num,(by rw[hst.out,kM_succ,HFS.out,HMS.out];exact H8),?_,?_,?_⟩
    ·exact(fr8 _ (by omega) (by omega)).trans ((fr6 _ (by omega) (by omega)).trans NU)
    ·exact(fr8 _ (by omega) (by omega)).trans ((fr6 _ (by omega) (by omega)).trans ZU)
    ·exact(fr8 _ (by omega) (by omega)).trans ((fr6 _ (by omega) (by omega)).trans CU)
   case measure=>simp[intOf];omega
  ·obtain rfl:j=m:=by omega
   obtain⟨a0,a1,a2,a3,a4,a5,a6,a7,a8⟩:=C.c9
   have HFL:Hid (fs=l):=J0 (by rw[←HFS.out];exact Vz (by rw[HM.out];exact J9 _))
   have HML:Hid (ms=kM j):=J0 (by rw[←HMS.out])
   have HV:=J0 hv
   have RQ5:=RQ.below H.B
   obtain⟨i1,i2,i3,j1,j2,j3⟩:=Z.f3
   obtain⟨n1,n2,n3,o1,o2,o3⟩:=N.f3
   clear hv
   have HX:Hid (∀x∈c.q,0≤x∧x<j):=J0 (fun x hx=>perm_mem HV.out hx)
   have HNJ:Hid (c.q.length=j):=J0 (perm_len HV.out)
   go_wp2_with (go_at_call 172;refine(rall_m c.q n HN.out Q qc j hn1 (by omega) _ RQ5).mono ?_;rintro e w' ⟨rfl,rfl⟩;rw[HV.out])
   have HA0:TO w wr (W0.heap.size+1) W0.heap.size (.slice A j cA) vF vM ((c.q.take 0).map (fun x:Int=>(l[x.toNat]?).getD Fd.z)++l.drop 0) ((c.q.take 0).map (fun x:Int=>(⟨x,Vl.z⟩:Mv))++(kM j).drop 0) 110 157:=(by rw[HFL.out,HML.out] at H;simpa using H)
   have N0:=N
   have Z0:=Z
   have C0:=C
   have VF:=own_some_slice H.F
   have VM:=own_some_slice H.M
   clear H N Z C RQ5 hAr RQr i1 i2 i3 j1 j2 j3 n1 n2 n3 o1 o2 o3 a0 a1 a2 a3 a4 a5 a6 a7 a8
   go_loopw [11] (fun s wx=>∃i:Nat,i≤j∧s=.int .i64 i∧TO w wx (W0.heap.size+1) W0.heap.size (.slice A j cA) vF vM ((c.q.take i).map (fun x:Int=>(l[x.toNat]?).getD Fd.z)++l.drop i) ((c.q.take i).map (fun x:Int=>(⟨x,Vl.z⟩:Mv))++(kM j).drop i) 110 157∧OBox wx (w.heap.size+1) [.slice none 0 0,.slice none 0 0,.slice none 0 0] 110∧OBox wx (w.heap.size+2) [.slice none 0 0,.slice none 0 0,.slice none 0 0] 110∧CBox wx w.heap.size c (.slice Q n qc) 73) (fun s _=>j - (intOf s).toNat)
   case atStart=>exact⟨0,by omega,rfl,HA0,N0,Z0,C0⟩
   case round=>
    obtain⟨i,hi,rfl,H,N,Z,C⟩:=hrel
    clear HA0 N0 Z0 C0
    have hAr:=hA.below H.B
    have RQr:=RQ.below H.B
    by_cases hlt2:i<j
    ·obtain⟨x,hx⟩:∃x,c.q[i]?=some x:=⟨_,J4 (by rw[HNJ.out];exact hlt2)⟩
     obtain⟨x0',x1'⟩:=HX.out x (J7 hx)
     obtain⟨f,hf⟩:∃f,l[x.toNat]?=some f:=⟨_,J4 (by rw[HM.out];omega)⟩
     obtain⟨y,hy⟩:∃y,l[i]?=some y:=⟨_,J4 (by rw[HM.out];exact hlt2)⟩
     have hq0:(cellsI c.q)[i]?=some (.int .i64 x):=by simp[cellsI,hx]
     obtain⟨qd,rfl,hqc'⟩:=RQr.at hq0
     obtain⟨ad,rfl,g0,g1,g2⟩:=hAr.fld hf
     have hln:(i:Int)<(n:Int):=by have:=HNJ.out;rw[HN.out] at this;omega
     have hi0:(0:Int)≤(i:Int):=by omega
     have hi1:(i:Int)<(j:Int):=by omega
     have HQS:Hid ((c.q.take (i+1)).map (fun x:Int=>(l[x.toNat]?).getD Fd.z)=(c.q.take i).map (fun x:Int=>(l[x.toNat]?).getD Fd.z)++[f]):=J0 (by rw[Vq,hx];simp[hf])
     have HMS2:Hid ((c.q.take (i+1)).map (fun x:Int=>(⟨x,Vl.z⟩:Mv))=(c.q.take i).map (fun x:Int=>(⟨x,Vl.z⟩:Mv))++[⟨x,Vl.z⟩]):=J0 (by rw[Vq,hx];simp)
     have hfl:((c.q.take i).map (fun x:Int=>(l[x.toNat]?).getD Fd.z)).length=i:=by rw[Kz,Qv,HNJ.out];omega
     have hml:((c.q.take i).map (fun x:Int=>(⟨x,Vl.z⟩:Mv))).length=i:=by rw[Kz,Qv,HNJ.out];omega
     have hgF:=get_mix hfl hy
     have hgM:=get_mix hml (kM_get (n:=j) hlt2)
     have HSF:=J0 (set_mix hfl f hy)
     have HSM:=J0 (set_mix hml (⟨x,Vl.z⟩:Mv) (kM_get (n:=j) hlt2))
     clear hx hf hy hfl hml
     obtain⟨fs2,hfs2⟩:∃z,(c.q.take i).map (fun x:Int=>(l[x.toNat]?).getD Fd.z)++l.drop i=z:=⟨_,rfl⟩
     obtain⟨ms2,hms2⟩:∃z,(c.q.take i).map (fun x:Int=>(⟨x,Vl.z⟩:Mv))++(kM j).drop i=z:=⟨_,rfl⟩
     rw[hfs2] at H hgF HSF
     rw[hms2] at H hgM HSM
     clear hfs2 hms2
     obtain⟨gF,cF,rfl⟩:=VF (by rw[HFL.out,HM.out];omega)
     obtain⟨gM,cM,rfl⟩:=VM (by rw[HML.out,kM_length];omega)
     have hiF:(i:Int)<(fs.length:Int):=by rw[HFL.out,HM.out];omega
     have hiM:(i:Int)<(ms.length:Int):=by rw[HML.out,kM_length];omega
     obtain⟨H5,fr5⟩:=H.setF hgF f
     have rdF:=own_cells H.F
     obtain⟨cf0,cf1,cf2⟩:=cellsF_get _ _ _ hgF
     obtain⟨k0,v0⟩:=rdF _ _ cf0
     obtain⟨k1,v1⟩:=rdF _ _ cf1
     obtain⟨k2,v2⟩:=rdF _ _ cf2
     obtain⟨a0,a1,a2,a3,a4,a5,a6,a7,a8⟩:=C.c9
     obtain⟨s1,s2,s3,u1,u2,u3⟩:=H.O.f3
     clear rdF cf0 cf1 cf2 hgF
     go_upto_region 35 with fail
     go_region
     have dr:=Jv (Jy (((wr.setCell ⟨gF,i * 3,none⟩ (.string f.s)).setCell ⟨gF,i * 3+1,none⟩ (.int .i64 f.k)).setCell ⟨gF,i * 3+2,none⟩ (.int .i64 f.l)).heap.size (((wr.setCell ⟨gF,i * 3,none⟩ (.string f.s)).setCell ⟨gF,i * 3+1,none⟩ (.int .i64 f.k)).setCell ⟨gF,i * 3+2,none⟩ (.int .i64 f.l)))
     have N5:=OBox.below (show OBox (((wr.setCell ⟨gF,i * 3,none⟩ (.string f.s)).setCell ⟨gF,i * 3+1,none⟩ (.int .i64 f.k)).setCell ⟨gF,i * 3+2,none⟩ (.int .i64 f.l)) (w.heap.size+1) [.slice none 0 0,.slice none 0 0,.slice none 0 0] 110 from(fr5 _ (by omega)).trans N) dr
     have Z5:=OBox.below (show OBox (((wr.setCell ⟨gF,i * 3,none⟩ (.string f.s)).setCell ⟨gF,i * 3+1,none⟩ (.int .i64 f.k)).setCell ⟨gF,i * 3+2,none⟩ (.int .i64 f.l)) (w.heap.size+2) [.slice none 0 0,.slice none 0 0,.slice none 0 0] 110 from(fr5 _ (by omega)).trans Z) dr
     have C5:=CBox.below (show CBox (((wr.setCell ⟨gF,i * 3,none⟩ (.string f.s)).setCell ⟨gF,i * 3+1,none⟩ (.int .i64 f.k)).setCell ⟨gF,i * 3+2,none⟩ (.int .i64 f.l)) w.heap.size c (.slice (some qd) n qc) 73 from(fr5 _ (by omega)).trans C) dr
     replace H5:=H5.below dr
     have RQ5:=RQ.below H5.B
     clear H N Z C fr5 dr a0 a1 a2 a3 a4 a5 a6 a7 a8 s1 s2 s3 u1 u2 u3 k0 k1 k2 v0 v1 v2 RQr hAr g0 g1 g2 hqc'
     generalize (((wr.setCell ⟨gF,i * 3,none⟩ (.string f.s)).setCell ⟨gF,i * 3+1,none⟩ (.int .i64 f.k)).setCell ⟨gF,i * 3+2,none⟩ (.int .i64 f.l)).drew=W5 at *
     obtain⟨qd',eq',hqc'⟩:=RQ5.at hq0
     cases eq'
     obtain⟨H6,fr6⟩:=H5.setM hgM x
     obtain⟨cm0,_,_,_⟩:=cellsM_get hgM
     obtain⟨k3,v3⟩:=own_cells H5.M _ _ cm0
     obtain⟨a0,a1,a2,a3,a4,a5,a6,a7,a8⟩:=C5.c9
     obtain⟨s1,s2,s3,u1,u2,u3⟩:=H5.O.f3
     clear hgM cm0 hq0
     go_upto_region 36 with fail
     go_region
     have dr:=Jv (Jy (W5.setCell ⟨gM,i * 4,none⟩ (.int .i64 x)).heap.size (W5.setCell ⟨gM,i * 4,none⟩ (.int .i64 x)))
     have N6:=OBox.below (show OBox (W5.setCell ⟨gM,i * 4,none⟩ (.int .i64 x)) (w.heap.size+1) [.slice none 0 0,.slice none 0 0,.slice none 0 0] 110 from(fr6 _ (by omega)).trans N5) dr
     have Z6:=OBox.below (show OBox (W5.setCell ⟨gM,i * 4,none⟩ (.int .i64 x)) (w.heap.size+2) [.slice none 0 0,.slice none 0 0,.slice none 0 0] 110 from(fr6 _ (by omega)).trans Z5) dr
     have C6:=CBox.below (show CBox (W5.setCell ⟨gM,i * 4,none⟩ (.int .i64 x)) w.heap.size c (.slice (some qd) n qc) 73 from(fr6 _ (by omega)).trans C5) dr
     replace H6:=H6.below dr
     go_wp2
     go_roundw
     case rel=>exact⟨i+1,by omega,by go_num,(by rw[HQS.out,HMS2.out,←HSF.out,←HSM.out];exact H6),N6,Z6,C6⟩
     case measure=>simp[intOf];omega
    ·obtain rfl:i=j:=by omega
     have hq1:c.q.take i=c.q:=Vz (by rw[HNJ.out];exact J9 _)
     have hd1:l.drop i=[]:=List.drop_of_length_le (by rw[HM.out];exact J9 _)
     have hd2:(kM i).drop i=[]:=List.drop_of_length_le (by rw[kM_length];exact J9 _)
     rw[hq1,hd1,hd2,List.append_nil,List.append_nil] at H
     have szX:Hid ((c.q.map (fun x:Int=>(l[x.toNat]?).getD Fd.z)).length≤281474976710656):=J0 (by rw[Kz,HNJ.out];omega)
     have SFX:Hid (FdS (c.q.map (fun x:Int=>(l[x.toNat]?).getD Fd.z))):=J0 (by
      intro g hg
      obtain⟨x,hx,rfl⟩:=X5.1 hg
      show((l[x.toNat]?).getD Fd.z).s.size≤_
      cases hlx:l[x.toNat]? with
      |none=>exact X8 _
      |some f=>exact sl f (J7 hlx))
     obtain⟨FX,hFX⟩:∃x,c.q.map (fun x:Int=>(l[x.toNat]?).getD Fd.z)=x:=⟨_,rfl⟩
     obtain⟨MX,hMX⟩:∃x,c.q.map (fun x:Int=>(⟨x,Vl.z⟩:Mv))=x:=⟨_,rfl⟩
     rw[hFX,hMX] at H
     rw[hFX] at szX SFX
     have HFX:=J0 hFX.symm
     have HMX:=J0 hMX.symm
     clear hq1 hd1 hd2 VF VM hFX hMX
     obtain⟨F5,c5,rfl,_,_,_⟩:=own_rd H.F
     obtain⟨M7,c7,rfl,_,_,_⟩:=own_rd H.M
     have H9:=H
     have N9:=N
     have Z9:=Z
     have C9:=C
     clear H N Z C
     obtain⟨eF,RF⟩:=own_slice H9.F
     obtain⟨eM,RM⟩:=own_slice H9.M
     have EF:=J0 eF
     have EM:=J0 eM
     clear eF eM RM
     have sz9:W0.heap.size<_:=H9.lt
     have SF:FdS FX:=SFX.out
     have hFl:FX.length≤9223372036854775807:=(by have:=szX.out;omega)
     obtain⟨s1,s2,s3,u1,u2,u3⟩:=H9.O.f3
     obtain⟨n1,n2,n3,o1,o2,o3⟩:=N9.f3
     obtain⟨i1,i2,i3,j1,j2,j3⟩:=Z9.f3
     obtain⟨a0,a1,a2,a3,a4,a5,a6,a7,a8⟩:=C9.c9
     cases r
     ·go_wp2_with (go_at_call 77;refine(rRight_m _ _ _ FX (by first|exact EF.out.symm|rfl) false (by rw[HFX.out];exact HRT.out) _ RF (by first|exact hFl|(rw[EF.out];exact hFl)) SF).mono ?_;rintro e wM ⟨rfl,hb⟩;replace H9:=H9.below hb;replace N9:=N9.below hb;replace Z9:=Z9.below hb;clear hb s1 s2 s3 u1 u2 u3 n1 n2 n3 o1 o2 o3 i1 i2 i3 j1 j2 j3 a0 a1 a2 a3 a4 a5 a6 a7 a8;obtain⟨n1,n2,n3,o1,o2,o3⟩:=N9.f3;obtain⟨i1,i2,i3,j1,j2,j3⟩:=Z9.f3)
      refine bodyPost_ret (v:=.tuple #[.agg #[.slice none 0 0,.slice none 0 0,.slice none 0 0],.int .i64 80]) (by simp[results,Tryz.results154,go_sem, *];done) rfl ⟨_,_,_,_,_,_,_,_,_,rfl,TVP.z _ _,?_⟩
      exact((H9.B.setCell (by show w.heap.size≤w.heap.size+1;omega) _).setCell (by show w.heap.size≤w.heap.size+1;omega) _).setCell (by show w.heap.size≤w.heap.size+1;omega) _
     ·go_wp2_with (go_at_call 77;refine(rRight_m _ _ _ FX (by first|exact EF.out.symm|rfl) true (by rw[HFX.out];exact HRT.out) _ RF (by first|exact hFl|(rw[EF.out];exact hFl)) SF).mono ?_;rintro e wM ⟨rfl,hb⟩;replace H9:=H9.below hb;replace N9:=N9.below hb;clear hb s1 s2 s3 u1 u2 u3 n1 n2 n3 o1 o2 o3 i1 i2 i3 j1 j2 j3 a0 a1 a2 a3 a4 a5 a6 a7 a8;obtain⟨n1,n2,n3,o1,o2,o3⟩:=N9.f3;obtain⟨s1,s2,s3,u1,u2,u3⟩:=H9.O.f3)
      have BF:=own_base H9.F
      have BM:=own_base H9.M
      refine bodyPost_ret (v:=.tuple #[.agg #[.slice A i cA,.slice F5 FX.length c5,.slice M7 MX.length c7],.int .i64 0]) (by simp[results,Tryz.results154,go_sem, *];done) rfl ⟨_,_,_,_,_,_,_,_,_,rfl,?_,?_⟩
      ·refine own_TVr (t:=⟨l,_,_⟩) HM.out ?_ (fun _ _=>trivial) (own_eq (own_keep H9.F fun g hg=>?_) (by first|exact EF.out.symm|rfl) (by rw[HFX.out])) (by first|rw[EF.out,←HFX.out]|rw[←HFX.out]) (fun _ _=>trivial) (own_eq (own_keep H9.M fun g hg=>?_) (by first|exact EM.out.symm|rfl) (by rw[HMX.out])) (by first|rw[EM.out,←HMX.out]|rw[←HMX.out]) (fun _ _=>trivial)
       ·exact hA.below (((H9.B.setCell (by show w.heap.size≤w.heap.size+1;omega) _).setCell (by show w.heap.size≤w.heap.size+1;omega) _).setCell (by show w.heap.size≤w.heap.size+1;omega) _)
       ·have h:=BF g hg
        exact(J5 _ _ _ _ (by show g≠w.heap.size+1;omega)).trans ((J5 _ _ _ _ (by show g≠w.heap.size+1;omega)).trans (J5 _ _ _ _ (by show g≠w.heap.size+1;omega)))
       ·have h:=BM g hg
        exact(J5 _ _ _ _ (by show g≠w.heap.size+1;omega)).trans ((J5 _ _ _ _ (by show g≠w.heap.size+1;omega)).trans (J5 _ _ _ _ (by show g≠w.heap.size+1;omega)))
      ·exact((H9.B.setCell (by show w.heap.size≤w.heap.size+1;omega) _).setCell (by show w.heap.size≤w.heap.size+1;omega) _).setCell (by show w.heap.size≤w.heap.size+1;omega) _
theorem rMake_m (l:List Fd) (c:Ch) (m:Nat) (hm:l.length=m) (hl:m≤9223372036854775807) (A:Option Addr) (cA:Nat) (Q:Option Addr) (n qc:Nat) (hn:c.q.length=n) (hn1:n≤17592186044415) (x0:0≤c.d.b) (x1:c.d.b<18446744073709551616) (sl:FdS l) (sg:c.g.s.size≤9223372036854775807) (w:World) (hA:Rd w A (cellsF l)) (RQ:Rd w Q (cellsI c.q)):
 Calls Tryz.prog 154 #[.slice A m cA,.agg #[.int .i64 c.op,.string c.s,.string c.g.s,.int .i64 c.g.k,.int .i64 c.g.l,.int .i64 c.d.k,.int .u64 c.d.b,.string c.d.t,.slice Q n qc]] w fun e w'=>RkP (makeT l c) (makeE l c) w e w':=by
 cases hr:rightF l
 ·obtain⟨e1,e2⟩:=mk_err (l:=l) (c:=c) (e:=60) (by simp[stepE,hr]) (by decide)
  rw[e1,e2]
  exact rMake_form l c m hm hl A cA Q n qc hn hn1 x0 x1 sl sg w hA RQ hr
 by_cases hop:1≤c.op∧c.op≤5
 ·rcases(by omega:c.op=1∨c.op=2∨c.op=3∨c.op=4∨c.op=5) with e|e|e|e|e
  ·have hT:tabC l c=⟨l,l++[c.g],kM m++[⟨-1,c.d⟩]⟩:=by simp[tabC,newF,newM,e,hm]
   have hF:newF l c=l++[c.g]:=by simp[newF,e]
   have hm1:=rMake_adds l c m hm hl A cA Q n qc hn hn1 x0 x1 sl sg w hA RQ e hr _ rfl _ rfl
   rw[←hT,←hF] at hm1
   cases hok:okVal c
   ·obtain⟨e1,e2⟩:=mk_err (l:=l) (c:=c) (e:=80) (by simp[stepE,hr,e,hok]) (by decide)
    rw[e1,e2]
    rw[hok] at hm1
    exact hm1
   ·obtain⟨e1,e2⟩:=mk_fin (l:=l) (c:=c) (by simp[stepE,hr,e,hok]) rfl
    rw[hok,Bool.true_and] at hm1
    rw[←e1,←e2]
    exact hm1
  ·by_cases hz:findZ l c.s<0
   ·obtain⟨e1,e2⟩:=mk_err (l:=l) (c:=c) (e:=61) (by simp[stepE,hr,e,hz]) (by decide)
    rw[e1,e2]
    exact rMake_none l c m hm hl A cA Q n qc hn hn1 x0 x1 sl sg w hA RQ hr (by omega) hz
   ·have hk:findZ l c.s=(atC l c:Nat):=by unfold atC;omega
    have hT:tabC l c=⟨l,l.eraseIdx (atC l c),(kM m).eraseIdx (atC l c)⟩:=by simp[tabC,newF,newM,e,hm]
    have hF:newF l c=l.eraseIdx (atC l c):=by simp[newF,e]
    have hm1:=rMake_drops l c m hm hl A cA Q n qc hn hn1 x0 x1 sl sg w hA RQ e hr _ hk _ rfl
    rw[←hT,←hF] at hm1
    obtain⟨e1,e2⟩:=mk_fin (l:=l) (c:=c) (by simp[stepE,hr,e,hz]) rfl
    rw[←e1,←e2]
    exact hm1
  ·by_cases hz:findZ l c.s<0
   ·obtain⟨e1,e2⟩:=mk_err (l:=l) (c:=c) (e:=61) (by simp[stepE,hr,e,hz]) (by decide)
    rw[e1,e2]
    exact rMake_none l c m hm hl A cA Q n qc hn hn1 x0 x1 sl sg w hA RQ hr (by omega) hz
   ·have hk:findZ l c.s=(atC l c:Nat):=by unfold atC;omega
    have hT:tabC l c=⟨l,l.modify (atC l c) (fun x:Fd=>(⟨c.g.s,x.k,x.l⟩:Fd)),kM m⟩:=by simp[tabC,newF,newM,e,hm]
    have hF:newF l c=l.modify (atC l c) (fun x:Fd=>(⟨c.g.s,x.k,x.l⟩:Fd)):=by simp[newF,e]
    have hm1:=rMake_renames l c m hm hl A cA Q n qc hn hn1 x0 x1 sl sg w hA RQ e hr _ hk _ rfl
    rw[←hT,←hF] at hm1
    obtain⟨e1,e2⟩:=mk_fin (l:=l) (c:=c) (by simp[stepE,hr,e,hz]) rfl
    rw[←e1,←e2]
    exact hm1
  ·by_cases hz:findZ l c.s<0
   ·obtain⟨e1,e2⟩:=mk_err (l:=l) (c:=c) (e:=61) (by simp[stepE,hr,e,hz]) (by decide)
    rw[e1,e2]
    exact rMake_none l c m hm hl A cA Q n qc hn hn1 x0 x1 sl sg w hA RQ hr (by omega) hz
   ·have hk:findZ l c.s=(atC l c:Nat):=by unfold atC;omega
    obtain⟨f,hf⟩:∃f,l[atC l c]?=some f:=⟨_,J4 (atC_lt hz)⟩
    have hca:castsAt l c=castsB f.k f.l c.g.k c.g.l:=by simp[castsAt,hf]
    cases hv:castsB f.k f.l c.g.k c.g.l
    ·obtain⟨e1,e2⟩:=mk_err (l:=l) (c:=c) (e:=80) (by simp[stepE,hr,e,hz,hca,hv]) (by decide)
     rw[e1,e2]
     exact rMake_recasts_no l c m hm hl A cA Q n qc hn hn1 x0 x1 sl sg w hA RQ e hr _ hk f hf hv
    ·have hT:tabC l c=⟨l,l.modify (atC l c) (fun x:Fd=>(⟨x.s,c.g.k,c.g.l⟩:Fd)),kM m⟩:=by simp[tabC,newF,newM,e,hm]
     have hF:newF l c=l.modify (atC l c) (fun x:Fd=>(⟨x.s,c.g.k,c.g.l⟩:Fd)):=by simp[newF,e]
     have hm1:=rMake_recasts_yes l c m hm hl A cA Q n qc hn hn1 x0 x1 sl sg w hA RQ e hr _ hk f hf hv _ rfl
     rw[←hT,←hF] at hm1
     obtain⟨e1,e2⟩:=mk_fin (l:=l) (c:=c) (by simp[stepE,hr,e,hz,hca,hv]) rfl
     rw[←e1,←e2]
     exact hm1
  ·cases hv:permB c.q m
   ·obtain⟨e1,e2⟩:=mk_err (l:=l) (c:=c) (e:=80) (by simp[stepE,hr,e,hm,hv]) (by decide)
    rw[e1,e2]
    exact rMake_orders_no l c m hm hl A cA Q n qc hn hn1 x0 x1 sl sg w hA RQ e hr hv
   ·have hT:tabC l c=⟨l,c.q.map fun x=>(l[x.toNat]?).getD Fd.z,c.q.map fun x=>⟨x,Vl.z⟩⟩:=by simp[tabC,newF,newM,e]
    have hF:newF l c=c.q.map fun x=>(l[x.toNat]?).getD Fd.z:=by simp[newF,e]
    have hm1:=rMake_orders_yes l c m hm hl A cA Q n qc hn hn1 x0 x1 sl sg w hA RQ e hr hv _ rfl
    rw[←hT,←hF] at hm1
    obtain⟨e1,e2⟩:=mk_fin (l:=l) (c:=c) (by simp[stepE,hr,e,hm,hv]) rfl
    rw[←e1,←e2]
    exact hm1
 ·obtain⟨e1,e2⟩:=mk_err (l:=l) (c:=c) (e:=80) (by simp[stepE,hr,hop]) (by decide)
  rw[e1,e2]
  rcases(by omega:c.op<1∨5<c.op) with h|h
  ·exact rMake_low l c m hm hl A cA Q n qc hn hn1 x0 x1 sl sg w hA RQ hr h
  ·exact rMake_high l c m hm hl A cA Q n qc hn hn1 x0 x1 sl sg w hA RQ hr h
end
end Go.Proofs.YteembinfgbapgaaGreat
