/- Merged out of: Nk Nl Nm. -/
import Derived.Test.YteembinfgbapgaaGreatC00
import Derived.Test.YteembinfgbapgaaGreatC18
import Derived.Maps.Keyed
import Derived.Carry
set_option linter.unusedSimpArgs false
set_option linter.unusedVariables false
set_option maxRecDepth 100000
set_option maxHeartbeats 8000000
namespace Go.Proofs.YteembinfgbapgaaGreat
section
open Go.RowKit Go.Lib
theorem own_some1 {w:World} {base n:Nat} {T:TypeId} {v:Value} {q:List Int} (h:w.ownsRow base T 1 v n (cellsI q)) {k:Nat} {x:Int} (hk:q[k]?=some x):∃ad c,v=.slice (some ad) n c∧w.cell? (ad.add k)=some (.int .i64 x):=by
 obtain⟨A,c,rfl,_,_,hr⟩:=own_rd h
 have:(cellsI q)[k]?=some (.int .i64 x):=by simp[cellsI,hk]
 obtain⟨ad,rfl,hc⟩:=hr.at this
 exact⟨ad,c,rfl,hc⟩
theorem orders_no (l:List Fd) (c:Ch) (m:Nat) (hm:l.length=m) (h16:m≤16) (B:Option Addr) (d:Nat) (C2:Option Addr) (e2 f2:Nat) (C3:Option Addr) (e3 f3:Nat) (Q:Option Addr) (n qc:Nat) (hn:c.q.length=n) (hn1:n≤17592186044415) (hqc:n≤qc) (w:World) (R1:Rd w B (cellsF l)) (RQ:Rd w Q (cellsI c.q)) (r2 r3:Option Nat) (P:Nat→Prop) (hP1:∀ad,B=some ad→P ad.block) (hPn:∀g,w.heap.size≤g→P g) (hq:permB c.q m=false):
 Calls Tryz.prog 140 #[.agg #[.slice B m d,.slice C2 e2 f2,.slice C3 e3 f3],.agg #[.int .i64 c.op,.string c.s,.string c.g.s,.int .i64 c.g.k,.int .i64 c.g.l,.int .i64 c.d.k,.int .u64 c.d.b,.string c.d.t,.slice Q n qc]] w fun e w'=>StepP r2 r3 P Tb.z 80 w e w':=by
 have bb1:=below_new (w:=w) (.cells #[.slice B m d,.slice C2 e2 f2,.slice C3 e3 f3] 96)
 have bb2:=below_new (w:=w.alloc (.cells #[.slice B m d,.slice C2 e2 f2,.slice C3 e3 f3] 96)) (.cells #[.int .i64 c.op,.string c.s,.string c.g.s,.int .i64 c.g.k,.int .i64 c.g.l,.int .i64 c.d.k,.int .u64 c.d.b,.string c.d.t,.slice Q n qc] 76)
 have bb3:=below_new (w:=(w.alloc (.cells #[.slice B m d,.slice C2 e2 f2,.slice C3 e3 f3] 96)).alloc (.cells #[.int .i64 c.op,.string c.s,.string c.g.s,.int .i64 c.g.k,.int .i64 c.g.l,.int .i64 c.d.k,.int .u64 c.d.b,.string c.d.t,.slice Q n qc] 76)) (.cells #[.slice none 0 0,.slice none 0 0,.slice none 0 0] 96)
 have T1:=((OBox.new w [.slice B m d,.slice C2 e2 f2,.slice C3 e3 f3] 96).below bb2).below bb3
 have C1:CBox _ _ c (.slice Q n qc) 76:=(OBox.new (w.alloc (.cells #[.slice B m d,.slice C2 e2 f2,.slice C3 e3 f3] 96)) (chL c (.slice Q n qc)) 76).below bb3
 have N1:=OBox.new ((w.alloc (.cells #[.slice B m d,.slice C2 e2 f2,.slice C3 e3 f3] 96)).alloc (.cells #[.int .i64 c.op,.string c.s,.string c.g.s,.int .i64 c.g.k,.int .i64 c.g.l,.int .i64 c.d.k,.int .u64 c.d.b,.string c.d.t,.slice Q n qc] 76)) [.slice none 0 0,.slice none 0 0,.slice none 0 0] 96
 have HB:=below_seq (below_seq bb1 bb2) bb3
 rw[Jq] at C1
 rw[Jq,Jq] at N1
 obtain⟨i1,i2,i3,j1,j2,j3⟩:=T1.f3
 obtain⟨n1,n2,n3,o1,o2,o3⟩:=N1.f3
 obtain⟨a0,a1,a2,a3,a4,a5,a6,a7,a8⟩:=C1.c9
 have RQ1:=RQ.below HB
 have HM:=J0 hm
 have HN:=J0 hn
 have HQ:Hid (¬(n=m∧∀k:Nat,k<n→(c.q.mergeSort fun x y=>decide (x≤y))[k]?=some (k:Int))):=J0 (fun h=>by
  have:=(sorted_rng (q:=c.q) (m:=m)).2 (by rw[hn];exact h)
  rw[hq] at this;cases this)
 clear hm hn bb1 bb2 bb3 hq hP1 hPn
 go_enter Tryz.func140,Tryz.ntmps140
 go_wp2_with (go_at_call 164;refine(CloneI_m Q qc n c.q HN.out _ RQ1 hn1 hqc).mono ?_)
 rintro e W1 ⟨S,sc,rfl,own1,hb⟩
 replace HB:=HB.trans (hb.mono HB.size)
 replace T1:=T1.below hb
 replace C1:=C1.below hb
 replace N1:=N1.below hb
 have szc:=N1.lt
 have lt1:=own_lt own1
 have bs1:∀g,(Value.slice S n sc).ownBlock=some g→w.heap.size+2<g:=fun g hg=>by
  have:=own_base own1 g hg;simp at this;omega
 clear hb i1 i2 i3 j1 j2 j3 n1 n2 n3 o1 o2 o3 a0 a1 a2 a3 a4 a5 a6 a7 a8 RQ1
 obtain⟨i1,i2,i3,j1,j2,j3⟩:=T1.f3
 obtain⟨a0,a1,a2,a3,a4,a5,a6,a7,a8⟩:=C1.c9
 go_wp2_with (go_at_call 165;refine(SortI_m _ n c.q HN.out _ _ own1 (by omega)).mono ?_)
 rintro e W2 ⟨rfl,own2,gr⟩
 have HB2:=HB.grown gr HB.size (fun g hg=>by have:=bs1 g hg;omega)
 have T2:=T1.grown gr (by intro e;have:=bs1 _ e.symm;omega)
 have C2':CBox W2 _ c (.slice Q n qc) 76:=OBox.grown C1 gr (by intro e;have:=bs1 _ e.symm;omega)
 have N2:=N1.grown gr (by intro e;have:=bs1 _ e.symm;omega)
 clear T1 C1 N1 HB own1 gr i1 i2 i3 j1 j2 j3 a0 a1 a2 a3 a4 a5 a6 a7 a8
 obtain⟨ss,hss⟩:∃ss,(c.q.mergeSort fun x y=>decide (x≤y))=ss:=⟨_,rfl⟩
 have hsl:ss.length=n:=by rw[←hss,List.length_mergeSort,HN.out]
 rw[hss] at own2 HQ
 clear hss
 have HSL:=J0 hsl
 clear hsl
 have O:=OBox.new W2 [.slice B m d,.slice none 0 0,.slice none 0 0] 96
 have nb:=below_new (w:=W2) (.cells #[.slice B m d,.slice none 0 0,.slice none 0 0] 96)
 obtain⟨i1,i2,i3,j1,j2,j3⟩:=T2.f3
 replace T2:=T2.below nb
 have C3':=C2'.below nb
 have N3:=N2.below nb
 have own3:=own_below own2 nb
 have HB3:=HB2.trans (nb.mono HB2.size)
 clear nb C2' N2 own2 HB2
 obtain⟨p1,p2,p3,q1,q2,q3⟩:=T2.f3
 obtain⟨n1,n2,n3,o1,o2,o3⟩:=N3.f3
 obtain⟨a0,a1,a2,a3,a4,a5,a6,a7,a8⟩:=C3'.c9
 go_wp2
 go_loopw [8,9,22] (fun _ _ i wr=>∃k:Nat,k≤n∧i=.int .i64 k∧wr=W2.alloc (.cells #[.slice B m d,.slice none 0 0,.slice none 0 0] 96)∧Hid (∀j:Nat,j<k→ss[j]?=some (j:Int))∧Hid (k=0∨n=m)) (fun _ _ i _=>n - (intOf i).toNat)
 case atStart=>exact⟨0,by omega,rfl,rfl,J0 (fun j hj=>by omega),J0 (.inl rfl)⟩
 case round=>
  obtain⟨k,hk,rfl,rfl,hall,h0⟩:=hrel
  by_cases hlt:k<n
  ·obtain⟨x,hx⟩:∃x,ss[k]?=some x:=⟨_,J4 (by rw[HSL.out];exact hlt)⟩
   obtain⟨ad,sc',e1,hc⟩:=own_some1 own3 hx
   cases e1
   have hi0:(0:Int)≤(k:Int):=by omega
   have hi1:(k:Int)<(n:Int):=by omega
   by_cases hxk:x=(k:Int)
   ·have y1:(x != (k:Int))=false:=by simp[hxk]
    by_cases hnm:n=m
    ·have y2:((n:Int) != (m:Int))=false:=by simp[hnm]
     have hall2:Hid (∀j:Nat,j<k+1→ss[j]?=some (j:Int)):=J0 (fun j hj=>by
      rcases(by omega:j<k∨j=k) with h|rfl
      ·exact hall.out j h
      ·rw[hx,hxk])
     have h02:Hid (k+1=0∨n=m):=J0 (.inr hnm)
     clear hxk hnm hall h0 hx
     go_wp2
     go_roundw
     case rel=>exact⟨k+1,by omega,by go_num,by trivial,hall2,h02⟩
     case measure=>simp[intOf];omega
    ·have y2:((n:Int) != (m:Int))=true:=by simp;omega
     clear hxk hnm hall h0 hx
     go_wp2
     refine bodyPost_ret (v:=.tuple #[.agg #[.slice B m d,.slice C2 e2 f2,.slice C3 e3 f3],.int .i64 80]) (by simp[results,Tryz.results140,go_sem, *];done) rfl ⟨_,_,_,_,_,_,_,_,_,rfl,fun h=>absurd h (by decide),Only.of ?_⟩
     exact((HB3.setCell (by show w.heap.size≤w.heap.size+2;omega) _).setCell (by show w.heap.size≤w.heap.size+2;omega) _).setCell (by show w.heap.size≤w.heap.size+2;omega) _
   ·have y1:(x != (k:Int))=true:=by simp[hxk]
    clear hxk hall h0 hx
    go_wp2
    refine bodyPost_ret (v:=.tuple #[.agg #[.slice B m d,.slice C2 e2 f2,.slice C3 e3 f3],.int .i64 80]) (by simp[results,Tryz.results140,go_sem, *];done) rfl ⟨_,_,_,_,_,_,_,_,_,rfl,fun h=>absurd h (by decide),Only.of ?_⟩
    exact((HB3.setCell (by show w.heap.size≤w.heap.size+2;omega) _).setCell (by show w.heap.size≤w.heap.size+2;omega) _).setCell (by show w.heap.size≤w.heap.size+2;omega) _
  ·obtain rfl:k=n:=by omega
   have hnm:¬k=m:=fun e=>HQ.out ⟨e,hall.out⟩
   obtain rfl:k=0:=by
    rcases h0.out with h|h
    ·exact h
    ·exact absurd h hnm
   have y2:((0:Int) != (m:Int))=true:=by simp;omega
   clear hall h0 hlt HQ
   go_wp2
   go_loopw [11,43] (fun _ i wr=>i=.int .i64 0∧wr=W2.alloc (.cells #[.slice B m d,.slice none 0 0,.slice none 0 0] 96)) (fun _ _ _=>0)
   case atStart=>exact⟨rfl,rfl⟩
   case round=>
    obtain⟨rfl,rfl⟩:=hrel
    go_wp2
    refine bodyPost_ret (v:=.tuple #[.agg #[.slice B m d,.slice C2 e2 f2,.slice C3 e3 f3],.int .i64 80]) (by simp[results,Tryz.results140,go_sem, *];done) rfl ⟨_,_,_,_,_,_,_,_,_,rfl,fun h=>absurd h (by decide),Only.of ?_⟩
    exact((HB3.setCell (by show w.heap.size≤w.heap.size+2;omega) _).setCell (by show w.heap.size≤w.heap.size+2;omega) _).setCell (by show w.heap.size≤w.heap.size+2;omega) _
theorem orders_yes (l:List Fd) (c:Ch) (m:Nat) (hm:l.length=m) (h16:m≤16) (B:Option Addr) (d:Nat) (C2:Option Addr) (e2 f2:Nat) (C3:Option Addr) (e3 f3:Nat) (Q:Option Addr) (n qc:Nat) (hn:c.q.length=n) (hn1:n≤17592186044415) (hqc:n≤qc) (w:World) (R1:Rd w B (cellsF l)) (RQ:Rd w Q (cellsI c.q)) (r2 r3:Option Nat) (P:Nat→Prop) (hP1:∀ad,B=some ad→P ad.block) (hPn:∀g,w.heap.size≤g→P g) (hq:permB c.q m=true):
 Calls Tryz.prog 140 #[.agg #[.slice B m d,.slice C2 e2 f2,.slice C3 e3 f3],.agg #[.int .i64 c.op,.string c.s,.string c.g.s,.int .i64 c.g.k,.int .i64 c.g.l,.int .i64 c.d.k,.int .u64 c.d.b,.string c.d.t,.slice Q n qc]] w fun e w'=>StepP r2 r3 P ⟨l,c.q.map fun x=>(l[x.toNat]?).getD Fd.z,c.q.map fun x=>⟨x,Vl.z⟩⟩ 0 w e w':=by
 have bb1:=below_new (w:=w) (.cells #[.slice B m d,.slice C2 e2 f2,.slice C3 e3 f3] 96)
 have bb2:=below_new (w:=w.alloc (.cells #[.slice B m d,.slice C2 e2 f2,.slice C3 e3 f3] 96)) (.cells #[.int .i64 c.op,.string c.s,.string c.g.s,.int .i64 c.g.k,.int .i64 c.g.l,.int .i64 c.d.k,.int .u64 c.d.b,.string c.d.t,.slice Q n qc] 76)
 have bb3:=below_new (w:=(w.alloc (.cells #[.slice B m d,.slice C2 e2 f2,.slice C3 e3 f3] 96)).alloc (.cells #[.int .i64 c.op,.string c.s,.string c.g.s,.int .i64 c.g.k,.int .i64 c.g.l,.int .i64 c.d.k,.int .u64 c.d.b,.string c.d.t,.slice Q n qc] 76)) (.cells #[.slice none 0 0,.slice none 0 0,.slice none 0 0] 96)
 have T1:=((OBox.new w [.slice B m d,.slice C2 e2 f2,.slice C3 e3 f3] 96).below bb2).below bb3
 have C1:CBox _ _ c (.slice Q n qc) 76:=(OBox.new (w.alloc (.cells #[.slice B m d,.slice C2 e2 f2,.slice C3 e3 f3] 96)) (chL c (.slice Q n qc)) 76).below bb3
 have N1:=OBox.new ((w.alloc (.cells #[.slice B m d,.slice C2 e2 f2,.slice C3 e3 f3] 96)).alloc (.cells #[.int .i64 c.op,.string c.s,.string c.g.s,.int .i64 c.g.k,.int .i64 c.g.l,.int .i64 c.d.k,.int .u64 c.d.b,.string c.d.t,.slice Q n qc] 76)) [.slice none 0 0,.slice none 0 0,.slice none 0 0] 96
 have HB:=below_seq (below_seq bb1 bb2) bb3
 rw[Jq] at C1
 rw[Jq,Jq] at N1
 obtain⟨i1,i2,i3,j1,j2,j3⟩:=T1.f3
 obtain⟨n1,n2,n3,o1,o2,o3⟩:=N1.f3
 obtain⟨a0,a1,a2,a3,a4,a5,a6,a7,a8⟩:=C1.c9
 have RQ1:=RQ.below HB
 have HM:=J0 hm
 have HN:=J0 hn
 have HQ:Hid (∀k:Nat,k<n→(c.q.mergeSort fun x y=>decide (x≤y))[k]?=some (k:Int)):=J0 (fun k hk=>((sorted_rng (q:=c.q) (m:=m)).1 hq).2 k (by omega))
 have HX:Hid (∀x∈c.q,0≤x∧x<m):=J0 (fun x hx=>perm_mem hq hx)
 obtain rfl:n=m:=by rw[←hn];exact perm_len hq
 have HP1:=J0 hP1
 have HPN:=J0 hPn
 obtain⟨iF,hiF,hzF0,hzF1,hzF2⟩:=info_parts infoFd
 obtain⟨iM,hiM,hzM0,hzM1,hzM2⟩:=info_parts infoMv
 clear hm hn bb1 bb2 bb3 hq hP1 hPn
 go_enter Tryz.func140,Tryz.ntmps140
 go_wp2_with (go_at_call 164;refine(CloneI_m Q qc n c.q HN.out _ RQ1 hn1 hqc).mono ?_)
 rintro e W1 ⟨S,sc,rfl,own1,hb⟩
 replace HB:=HB.trans (hb.mono HB.size)
 replace T1:=T1.below hb
 replace C1:=C1.below hb
 replace N1:=N1.below hb
 have szc:=N1.lt
 have lt1:=own_lt own1
 have bs1:∀g,(Value.slice S n sc).ownBlock=some g→w.heap.size+2<g:=fun g hg=>by
  have:=own_base own1 g hg;simp at this;omega
 clear hb i1 i2 i3 j1 j2 j3 n1 n2 n3 o1 o2 o3 a0 a1 a2 a3 a4 a5 a6 a7 a8 RQ1
 obtain⟨i1,i2,i3,j1,j2,j3⟩:=T1.f3
 obtain⟨a0,a1,a2,a3,a4,a5,a6,a7,a8⟩:=C1.c9
 go_wp2_with (go_at_call 165;refine(SortI_m _ n c.q HN.out _ _ own1 (by omega)).mono ?_)
 rintro e W2 ⟨rfl,own2,gr⟩
 have HB2:=HB.grown gr HB.size (fun g hg=>by have:=bs1 g hg;omega)
 have T2:=T1.grown gr (by intro e;have:=bs1 _ e.symm;omega)
 have C2':CBox W2 _ c (.slice Q n qc) 76:=OBox.grown C1 gr (by intro e;have:=bs1 _ e.symm;omega)
 have N2:=N1.grown gr (by intro e;have:=bs1 _ e.symm;omega)
 clear T1 C1 N1 HB own1 gr i1 i2 i3 j1 j2 j3 a0 a1 a2 a3 a4 a5 a6 a7 a8
 obtain⟨ss,hss⟩:∃ss,(c.q.mergeSort fun x y=>decide (x≤y))=ss:=⟨_,rfl⟩
 have hsl:ss.length=n:=by rw[←hss,List.length_mergeSort,HN.out]
 rw[hss] at own2 HQ
 clear hss
 have HSL:=J0 hsl
 clear hsl
 have sz2:w.heap.size+2<W2.heap.size:=N2.lt
 have O:=OBox.new W2 [.slice B n d,.slice none 0 0,.slice none 0 0] 96
 have nb:=below_new (w:=W2) (.cells #[.slice B n d,.slice none 0 0,.slice none 0 0] 96)
 obtain⟨i1,i2,i3,j1,j2,j3⟩:=T2.f3
 replace T2:=T2.below nb
 have C3':=C2'.below nb
 have N3:=N2.below nb
 have own3:=own_below own2 nb
 have HB3:=HB2.trans (nb.mono HB2.size)
 clear nb C2' N2 own2 HB2
 obtain⟨p1,p2,p3,q1,q2,q3⟩:=T2.f3
 obtain⟨a0,a1,a2,a3,a4,a5,a6,a7,a8⟩:=C3'.c9
 go_wp2
 go_loopw [8,9,22] (fun _ _ i wr=>∃k:Nat,k≤n∧i=.int .i64 k∧wr=W2.alloc (.cells #[.slice B n d,.slice none 0 0,.slice none 0 0] 96)) (fun _ _ i _=>n - (intOf i).toNat)
 case atStart=>exact⟨0,by omega,rfl,rfl⟩
 case round=>
  obtain⟨k,hk,rfl,rfl⟩:=hrel
  by_cases hlt:k<n
  ·obtain⟨ad,sc',y1,hc⟩:=own_some1 own3 (HQ.out k hlt)
   cases y1
   have hi0:(0:Int)≤(k:Int):=by omega
   have hi1:(k:Int)<(n:Int):=by omega
   have y1:((k:Int) != (k:Int))=false:=by simp
   have y2:((n:Int) != (n:Int))=false:=by simp
   go_wp2
   go_roundw
   case rel=>exact⟨k+1,by omega,by go_num,by trivial⟩
   case measure=>simp[intOf];omega
  ·obtain rfl:k=n:=by omega
   clear hlt HQ own3
   go_wp2
   have O0:=O
   have N0:=N3
   have C0:=C3'
   have T0:=T2
   have HB0:=HB3
   clear O N3 C3' T2 HB3 i1 i2 i3 j1 j2 j3 p1 p2 p3 q1 q2 q3 a0 a1 a2 a3 a4 a5 a6 a7 a8 hk
   go_loopw [11,43] (fun _ i wr=>∃(j:Nat) (vF vM:Value),j≤k∧i=.int .i64 j∧wr.ownsRow (W2.heap.size+1) 68 3 vF j (cellsF ((c.q.take j).map fun x=>(l[x.toNat]?).getD Fd.z))∧wr.ownsRow (W2.heap.size+1) 137 4 vM j (cellsM ((c.q.take j).map fun x=>⟨x,Vl.z⟩))∧Hid (∀g,vF.ownBlock=some g→vM.ownBlock≠some g)∧
    OBox wr W2.heap.size [.slice B k d,vF,vM] 96∧OBox wr (w.heap.size+2) [.slice none 0 0,.slice none 0 0,.slice none 0 0] 96∧CBox wr (w.heap.size+1) c (.slice Q k qc) 76∧OBox wr w.heap.size [.slice B k d,.slice C2 e2 f2,.slice C3 e3 f3] 96∧Below w.heap.size w wr) (fun _ i _=>k - (intOf i).toNat)
   case atStart=>exact⟨0,_,_,by omega,rfl,own_nil _ _ _ _,own_nil _ _ _ _,J0 (fun g hg=>by simp[Value.ownBlock] at hg),O0,N0,C0,T0,HB0⟩
   case round=>
    obtain⟨j,vF,vM,hj,rfl,ownF,ownM,hap,O,N,C,T,HB⟩:=hrel
    clear O0 N0 C0 T0 HB0
    have RQr:=RQ.below HB
    have Rr:=R1.below HB
    by_cases hlt:j<k
    ·obtain⟨x,hx⟩:∃x,c.q[j]?=some x:=⟨_,J4 (by rw[HN.out];exact hlt)⟩
     obtain⟨x0,x1⟩:=HX.out x (J7 hx)
     obtain⟨f,hf⟩:∃f,l[x.toNat]?=some f:=⟨_,J4 (by rw[HM.out];omega)⟩
     have hq0:(cellsI c.q)[j]?=some (.int .i64 x):=by simp[cellsI,hx]
     obtain⟨qd,rfl,hqc'⟩:=RQr.at hq0
     obtain⟨ad,rfl,g0,g1,g2⟩:=Rr.fld hf
     have hi0:(0:Int)≤(j:Int):=by omega
     have hi1:(j:Int)<(k:Int):=by omega
     have HF:Hid ((c.q.take (j+1)).map (fun x=>(l[x.toNat]?).getD Fd.z)=(c.q.take j).map (fun x=>(l[x.toNat]?).getD Fd.z)++[f]):=J0 (by rw[Vq,hx];simp[hf])
     have HMv:Hid ((c.q.take (j+1)).map (fun x=>(⟨x,Vl.z⟩:Mv))=(c.q.take j).map (fun x=>⟨x,Vl.z⟩)++[⟨x,Vl.z⟩]):=J0 (by rw[Vq,hx];simp)
     clear hx hf hq0
     obtain⟨i1,i2,i3,j1,j2,j3⟩:=O.f3
     obtain⟨a0,a1,a2,a3,a4,a5,a6,a7,a8⟩:=C.c9
     obtain⟨p1,p2,p3,q1,q2,q3⟩:=T.f3
     have hx1:x<(k:Int):=x1
     have nf:=below_new (w:=wr.drew) (.cells #[.string f.s,.int .i64 f.k,.int .i64 f.l] 68)
     have ownF1:(wr.drew.alloc (.cells #[.string f.s,.int .i64 f.k,.int .i64 f.l] 68)).ownsRow _ _ _ vF j _:=own_below (w:=wr.drew) ownF nf
     have ownM1:(wr.drew.alloc (.cells #[.string f.s,.int .i64 f.k,.int .i64 f.l] 68)).ownsRow _ _ _ vM j _:=own_below (w:=wr.drew) ownM nf
     have lF:=own_lt ownF
     have lM:=own_lt ownM
     have bF:=own_base ownF
     have bM:=own_base ownM
     have On:=OBox.below (w:=wr.drew) O nf
     have Nn:=OBox.below (w:=wr.drew) N nf
     have Cn:=OBox.below (w:=wr.drew) C nf
     have Tn:=OBox.below (w:=wr.drew) T nf
     have HBn:=(Jv HB).trans (nf.mono HB.size)
     have hsz:W2.heap.size<wr.heap.size:=O.lt
     have hbz:W2.heap.size+1≤(wr.drew.alloc (.cells #[.string f.s,.int .i64 f.k,.int .i64 f.l] 68)).heap.size:=by have:=nf.size;have e:wr.drew.heap.size=wr.heap.size:=rfl;omega
     have hone:∀u∈[Value.string f.s,.int .i64 f.k,.int .i64 f.l],u.oneCell'=true:=by intro u hu;simp at hu;rcases hu with rfl|rfl|rfl <;> rfl
     have mixed:Tryz.prog.follows .mixedOrders=true:=by kernel_rfl
     have hb63:j+1≤maxLen:=by simp only[maxLen];omega
     clear O N C T HB ownF ownM nf
     go_wp2_with fail
     go_region_law_o (refine step_append_own rfl (.tmp 48) (.tmp 54) 27 rfl (W2.heap.size+1) 68 iF (.agg #[.string ⟨#[]⟩,.int .i64 0,.int .i64 0]) 3 32 Tryz.underlying27 hiF hzF0 hzF1 hzF2 rfl (by decide) vF j _ (by simp[Act.eval,Act.put]) ownF1 ⟨wr.heap.size,0,none⟩ 1 1 [.string f.s,.int .i64 f.k,.int .i64 f.l] (by simp[Act.eval,Act.put]) rfl (news3 wr.drew _ _ _ _) hone hb63 (by omega) hbz ?_;intro vF' W5 ownF5 gr5 hat5;have O5:=On.grown gr5 (by intro e;have:=bF _ e.symm;omega);have N5:=Nn.grown gr5 (by intro e;have:=bF _ e.symm;omega);have C5:CBox W5 (w.heap.size+1) c (.slice (some qd) k qc) 76:=OBox.grown Cn gr5 (by intro e;have:=bF _ e.symm;omega);have T5:=Tn.grown gr5 (by intro e;have:=bF _ e.symm;omega);have ownM5:=own_grown ownM1 gr5 (by intro g hg e;exact hap.out g e.symm hg);have HB5:=HBn.grown gr5 (by have:=HBn.size;omega) (fun g hg=>by have:=bF g hg;omega);have hap5:Hid (∀g,vF'.ownBlock=some g→vM.ownBlock≠some g):=J0 (fun g hg hm=>by rcases hat5 with h|h;exact hap.out g (by rw[←h];exact hg) hm;rw[hg] at h;have h:=Jj h;have:=lM g hm;simp at h;omega);obtain⟨F5,c5,rfl,_,_,_⟩:=own_rd ownF5;have z5:W2.heap.size<W5.heap.size:=O5.lt;have bF5:∀g,(Value.slice F5 (j+1) c5).ownBlock=some g→W2.heap.size+1≤g:=own_base ownF5;clear gr5 hat5 On Nn Cn Tn ownF1 ownM1 HBn i1 i2 i3 j1 j2 j3 a0 a1 a2 a3 a4 a5 a6 a7 a8 p1 p2 p3 q1 q2 q3;obtain⟨i1,i2,i3,j1,j2,j3⟩:=O5.f3)
     all_goals
      have O6:=obox_set O5 1 (.slice F5 (j+1) c5)
      have N6:OBox (W5.setCell ⟨W2.heap.size,1,none⟩ (.slice F5 (j+1) c5)) (w.heap.size+2) _ 96:=(J5 _ _ _ _ (by show w.heap.size+2≠W2.heap.size;omega)).trans N5
      have C6:CBox (W5.setCell ⟨W2.heap.size,1,none⟩ (.slice F5 (j+1) c5)) (w.heap.size+1) c (.slice (some qd) k qc) 76:=(J5 _ _ _ _ (by show w.heap.size+1≠W2.heap.size;omega)).trans C5
      have T6:OBox (W5.setCell ⟨W2.heap.size,1,none⟩ (.slice F5 (j+1) c5)) w.heap.size _ 96:=(J5 _ _ _ _ (by show w.heap.size≠W2.heap.size;omega)).trans T5
      have ownF6:=own_keep (w1:=W5.setCell ⟨W2.heap.size,1,none⟩ (.slice F5 (j+1) c5)) ownF5 (fun g hg=>J5 _ _ _ _ (by have:=bF5 g hg;show g≠W2.heap.size;omega))
      have ownM6:=own_keep (w1:=W5.setCell ⟨W2.heap.size,1,none⟩ (.slice F5 (j+1) c5)) ownM5 (fun g hg=>J5 _ _ _ _ (by have:=bM g hg;show g≠W2.heap.size;omega))
      have HB6:=HB5.setCell (p:=⟨W2.heap.size,1,none⟩) (by show w.heap.size≤W2.heap.size;omega) (.slice F5 (j+1) c5)
      have z6:Hid (W5.heap.size=(W5.setCell ⟨W2.heap.size,1,none⟩ (.slice F5 (j+1) c5)).heap.size):=J0 (by simp)
      have nm:=below_new (w:=W5.setCell ⟨W2.heap.size,1,none⟩ (.slice F5 (j+1) c5)) (.cells #[.int .i64 x,.int .i64 0,.int .u64 0,.string ⟨#[]⟩] 137)
      have lF6:=own_lt ownF6
      have lM6:=own_lt ownM6
      obtain⟨p1,p2,p3,q1,q2,q3⟩:=O6.f3
      obtain⟨s1,s2,s3,u1,u2,u3⟩:=(O6.below nm).f3
      clear i1 i2 i3 j1 j2 j3 O5 N5 C5 T5 ownM5 ownF5 HB5
      go_wp2_with (at_builtin;refine wpList_append_own_at _ rfl _ _ 94 rfl (W2.heap.size+1) 137 iM (.agg #[.int .i64 0,.int .i64 0,.int .u64 0,.string ⟨#[]⟩]) 4 40 Tryz.underlying94 hiM hzM0 hzM1 hzM2 rfl (by decide) _ _ _ rfl (own_below ownM6 nm) ⟨W5.heap.size,0,none⟩ 1 1 [.int .i64 x,.int .i64 0,.int .u64 0,.string ⟨#[]⟩] rfl rfl ?c1 ?c2 ?c3 ?c4 ?c5 ?_)
      case c1=>rw[z6.out];exact news4 _ _ _ _ _ _
      case c2=>intro u hu;simp at hu;rcases hu with rfl|rfl|rfl|rfl <;> rfl
      case c3=>exact hb63
      case c4=>omega
      case c5=>have:=nm.size;have:=z6.out;omega
      intro vM' W7 ownM7 gr7 _ hat7
      have O7:=(O6.below nm).grown gr7 (by intro e;have:=bM _ e.symm;omega)
      have N7:=(OBox.below N6 nm).grown gr7 (by intro e;have:=bM _ e.symm;omega)
      have C7:CBox W7 (w.heap.size+1) c (.slice (some qd) k qc) 76:=OBox.grown (C6.below nm) gr7 (by intro e;have:=bM _ e.symm;omega)
      have T7:=(OBox.below T6 nm).grown gr7 (by intro e;have:=bM _ e.symm;omega)
      have ownF7:=own_grown (own_below ownF6 nm) gr7 (by intro g hg e;exact hap5.out g hg e.symm)
      have HB7:=(HB6.trans (nm.mono HB6.size)).grown gr7 (by have:=HB6.size;have:=nm.size;omega) (fun g hg=>by have:=bM g hg;omega)
      have hap7:Hid (∀g,(Value.slice F5 (j+1) c5).ownBlock=some g→vM'.ownBlock≠some g):=J0 (fun g hg hm=>by
       rcases hat7 with h|h
       ·exact hap5.out g hg (by rw[←h];exact hm)
       ·rw[hm] at h;have h:=Jj h;have:=lF6 g hg;(try simp at h);(try simp at this);omega)
      have bM7:∀g,vM'.ownBlock=some g→W2.heap.size+1≤g:=own_base ownM7
      obtain⟨M7,c7,rfl,_,_,_⟩:=own_rd ownM7
      clear p1 p2 p3 q1 q2 q3 s1 s2 s3 u1 u2 u3 O6 N6 C6 T6 ownM6 ownF6 HB6 nm gr7 hat7
      obtain⟨i1,i2,i3,j1,j2,j3⟩:=O7.f3
      go_wp2
      go_roundw
      case rel=>
       refine⟨j+1,_,_,by omega,by go_num,?_,?_,hap7,obox_set O7 2 _,?_,?_,?_,HB7.setCell (by show w.heap.size≤W2.heap.size;omega) _⟩
       ·exact own_eq (own_keep ownF7 (fun g hg=>J5 _ _ _ _ (by have:=bF5 g hg;show g≠W2.heap.size;omega))) rfl (by rw[HF.out,cellsF_append];(try simp only[List.map_take]);rfl)
       ·exact own_eq (own_keep ownM7 (fun g hg=>J5 _ _ _ _ (by have:=bM7 g hg;show g≠W2.heap.size;omega))) rfl (by rw[HMv.out,cellsM_append];(try simp only[List.map_take]);rfl)
       ·exact(J5 _ _ _ _ (by show w.heap.size+2≠W2.heap.size;omega)).trans N7
       ·exact(J5 _ _ _ _ (by show w.heap.size+1≠W2.heap.size;omega)).trans C7
       ·exact(J5 _ _ _ _ (by show w.heap.size≠W2.heap.size;omega)).trans T7
      case measure=>simp[intOf];omega
    ·obtain rfl:j=k:=by omega
     have bF:=own_base ownF
     have bM:=own_base ownM
     obtain⟨F5,c5,rfl,_,_,_⟩:=own_rd ownF
     obtain⟨M5,e5,rfl,_,_,_⟩:=own_rd ownM
     obtain⟨i1,i2,i3,j1,j2,j3⟩:=O.f3
     obtain⟨p1,p2,p3,q1,q2,q3⟩:=T.f3
     obtain⟨n1,n2,n3,o1,o2,o3⟩:=N.f3
     have y2:((j:Int) != (j:Int))=false:=by simp
     have hall:c.q.take j=c.q:=Vz (by rw[HN.out];exact J9 _)
     rw[hall] at ownF ownM
     clear hall
     go_wp2
     refine bodyPost_ret (v:=.tuple #[.agg #[.slice B j d,.slice F5 j c5,.slice M5 j e5],.int .i64 0]) (by simp[results,Tryz.results140,go_sem, *];done) rfl ⟨_,_,_,_,_,_,_,_,_,rfl,fun _=>?_,Only.of ?_⟩
     ·refine own_TV (t:=⟨l,c.q.map fun x=>(l[x.toNat]?).getD Fd.z,c.q.map fun x=>⟨x,Vl.z⟩⟩) HM.out ?_ HP1.out (own_keep ownF fun g hg=>?_) (by simp[HN.out]) (fun g hg=>HPN.out g (by have:=bF g hg;omega)) (own_keep ownM fun g hg=>?_) (by simp[HN.out]) (fun g hg=>HPN.out g (by have:=bM g hg;omega))
      ·exact R1.below (((HB.setCell (by show w.heap.size≤w.heap.size+2;omega) _).setCell (by show w.heap.size≤w.heap.size+2;omega) _).setCell (by show w.heap.size≤w.heap.size+2;omega) _)
      ·have h:=bF g hg
       exact(J5 _ _ _ _ (by show g≠w.heap.size+2;omega)).trans ((J5 _ _ _ _ (by show g≠w.heap.size+2;omega)).trans (J5 _ _ _ _ (by show g≠w.heap.size+2;omega)))
      ·have h:=bM g hg
       exact(J5 _ _ _ _ (by show g≠w.heap.size+2;omega)).trans ((J5 _ _ _ _ (by show g≠w.heap.size+2;omega)).trans (J5 _ _ _ _ (by show g≠w.heap.size+2;omega)))
     ·exact((HB.setCell (by show w.heap.size≤w.heap.size+2;omega) _).setCell (by show w.heap.size≤w.heap.size+2;omega) _).setCell (by show w.heap.size≤w.heap.size+2;omega) _
end
section
open Go.RowKit Go.Lib Go.Maps
def MBk (w:World) (b:Nat) (es:List MapEntry) (clock:Nat):Prop:=w.heap[b]?=some (.map es.toArray clock)
theorem MBk.grown {w w':World} {b:Nat} {es:List MapEntry} {clock:Nat} {row:Option Nat} (h:MBk w b es clock) (hg:w.grownBy w' row) (hn:some b≠row):MBk w' b es clock:=(hg.block b (Qk.1 h).1 hn).trans h
theorem MBk.below {w w':World} {b:Nat} {es:List MapEntry} {clock:Nat} (h:MBk w b es clock) (hb:Below w.heap.size w w'):MBk w' b es clock:=(hb.block b (Qk.1 h).1).trans h
section
variable {P:Program} {t k e:TypeId}
def ent (key val:Value) (c:Nat):MapEntry:={ key:=key,val:=val,born:=c }
theorem map_insert (K:Keyed P k) (ht:P.underlying t=some (.map k e)) {w:World} {b:Nat} {es:List MapEntry} {clock:Nat} (hb:MBk w b es clock) (hes:∀x∈es,∃l,keyOf P k x.key=some l) {key val:Value} {l:Lit} (hk:keyOf P k key=some l) (hn:∀x∈es,x.key≠key):
 ∃w',(Instr.mapUpdate t (.map (some b)) key val).run P w=.ok () w'∧MBk w' b (es++[ent key val clock]) (clock+1)∧w.grownBy w' (some b)∧w'.heap.size=w.heap.size:=by
 have hlt:b<w.heap.size:=(Qk.1 hb).1
 have hfind:(Instr.findKey k key es).run P w=.ok none w:=by
  rcases K.find w hk es hes with ⟨h,_⟩|⟨j,x,_,h2,h3⟩
  ·exact h
  ·exact absurd h3 (hn x (J7 h2))
 refine⟨{ w with heap:=w.heap.setIfInBounds b (.map (es++[ent key val clock]).toArray (clock+1)) },?_,?_,?_,by simp⟩
 ·simp[Instr.mapUpdate,run_underlying ht,MapKept.run_getObj_map hb,K.check w false hk,hfind,MapKept.run_setObj_map _ hb,Result.andThen,ent]
 ·simp[MBk,hlt]
 ·exact⟨rfl,rfl,rfl,by simp,fun j hj hne=>by
   show(w.heap.setIfInBounds b _)[j]?=_
   rw[Array.getElem?_setIfInBounds_ne (by rintro rfl;exact hne rfl)]⟩
theorem map_some (K:Keyed P k) (ht:P.underlying t=some (.map k e)) {w:World} {b:Nat} {es:List MapEntry} {clock:Nat} (hb:MBk w b es clock) (hes:∀x∈es,∃l,keyOf P k x.key=some l) {key val:Value} {l:Lit} (hk:keyOf P k key=some l) (hv:∃x∈es,x.key=key) (hval:∀x∈es,x.key=key→x.val=val) (c:Bool):
 (Instr.lookup t (.map (some b)) key c).run P w=.ok (if c then .tuple #[val,.bool true] else val) w:=by
 obtain⟨j,x,hfind,h2,h3⟩:∃j x,(Instr.findKey k key es).run P w=.ok (some (j,x.val)) w∧es[j]?=some x∧x.key=key:=by
  rcases K.find w hk es hes with ⟨_,h⟩|h
  ·obtain⟨x,h1,h2⟩:=hv;exact absurd h2 (h x h1)
  ·exact h
 rw[hval x (J7 h2) h3] at hfind
 cases c <;> simp[Instr.lookup,run_underlying ht,MapKept.run_getObj_map hb,K.check w _ hk,hfind,Result.andThen]
theorem map_none (K:Keyed P k) (ht:P.underlying t=some (.map k e)) {w:World} {b:Nat} {es:List MapEntry} {clock:Nat} (hb:MBk w b es clock) (hes:∀x∈es,∃l,keyOf P k x.key=some l) {key:Value} {l:Lit} (hk:keyOf P k key=some l) (hn:∀x∈es,x.key≠key) {z:Value} (hz:(zeroValue e).run P w=.ok z w) (c:Bool):
 (Instr.lookup t (.map (some b)) key c).run P w=.ok (if c then .tuple #[z,.bool false] else z) w:=by
 have hfind:(Instr.findKey k key es).run P w=.ok none w:=by
  rcases K.find w hk es hes with ⟨h,_⟩|⟨j,x,_,h2,h3⟩
  ·exact h
  ·exact absurd h3 (hn x (J7 h2))
 cases c <;> simp[Instr.lookup,run_underlying ht,MapKept.run_getObj_map hb,K.check w _ hk,hfind,hz,Result.andThen]
theorem key_int (hk:P.underlying k=some (.int .i64)) {x:Int} (h0:-9223372036854775808≤x) (h1:x≤9223372036854775807):keyOf P k (.int .i64 x)=some (.int .i64 x):=by
 have hw:(Lit.int .i64 x).wf=true:=by
  have e0:IntKind.i64.min=-9223372036854775808:=by decide
  have e1:IntKind.i64.max=9223372036854775807:=by decide
  simp[Lit.wf,e0,e1];omega
 simp[keyOf,hk,mapKey,hw]
end
theorem make_map (w:World):(Instr.makeMap 206 none).run Tryz.prog w=.ok (.map (some w.heap.size)) (w.alloc (.map #[] 0)):=run_makeMap _ _
theorem keyed5:Keyed Tryz.prog 3:=int_keyed Tryz.underlying3
theorem key5 {x:Int} (h0:-9223372036854775808≤x) (h1:x≤9223372036854775807):keyOf Tryz.prog 3 (.int .i64 x)=some (.int .i64 x):=key_int Tryz.underlying3 h0 h1
theorem keys5 {es:List MapEntry} {ks:List Int} (h:es.map (·.key)=ks.map (Value.int .i64)) (hk:∀x∈ks,-9223372036854775808≤x∧x≤9223372036854775807):∀x∈es,∃l,keyOf Tryz.prog 3 x.key=some l:=by
 intro x hx
 have:x.key∈es.map (·.key):=List.mem_map_of_mem hx
 rw[h] at this
 obtain⟨n,hn,e⟩:=X5.1 this
 rw[←e]
 exact⟨_,key5 (hk n hn).1 (hk n hn).2⟩
theorem keys_ne {es:List MapEntry} {ks:List Int} (h:es.map (·.key)=ks.map (Value.int .i64)) {k:Int} (hk:k ∉ ks):∀x∈es,x.key≠.int .i64 k:=by
 intro x hx e
 have:x.key∈es.map (·.key):=List.mem_map_of_mem hx
 rw[h] at this
 obtain⟨n,hn,e2⟩:=X5.1 this
 rw[e] at e2
 cases e2
 exact hk hn
theorem ins5 {w:World} {b:Nat} {es:List MapEntry} {clock:Nat} (hb:MBk w b es clock) (ks:List Int) (hks:es.map (·.key)=ks.map (Value.int .i64)) (h1:∀x∈ks,-9223372036854775808≤x∧x≤9223372036854775807) (k:Int) (hk:k ∉ ks) (h0:-9223372036854775808≤k∧k≤9223372036854775807) (v:Value):
 ∃w',(Instr.mapUpdate 206 (.map (some b)) (.int .i64 k) v).run Tryz.prog w=.ok () w'∧MBk w' b (es++[ent (.int .i64 k) v clock]) (clock+1)∧w.grownBy w' (some b)∧w'.heap.size=w.heap.size:=
 map_insert keyed5 Tryz.underlying206 hb (keys5 hks h1) (key5 h0.1 h0.2) (keys_ne hks hk)
theorem ways_made (V:World):∃V4 V6 V8 V10 V11:World,
 (Instr.mapUpdate 206 (.map (some V.heap.size)) (.int .i64 1) (.func (.func 135) #[] #[])).run Tryz.prog (V.alloc (.map #[] 0))=.ok () V4∧
 (Instr.mapUpdate 206 (.map (some V.heap.size)) (.int .i64 2) (.func (.func 161) #[] #[.pointer (some ⟨V4.heap.size,0,none⟩)])).run Tryz.prog (V4.alloc (.cells #[.func (.func 137) #[] #[]] 205))=.ok () V6∧
 (Instr.mapUpdate 206 (.map (some V.heap.size)) (.int .i64 3) (.func (.func 161) #[] #[.pointer (some ⟨V6.heap.size,0,none⟩)])).run Tryz.prog (V6.alloc (.cells #[.func (.func 138) #[] #[]] 205))=.ok () V8∧
 (Instr.mapUpdate 206 (.map (some V.heap.size)) (.int .i64 4) (.func (.func 161) #[] #[.pointer (some ⟨V8.heap.size,0,none⟩)])).run Tryz.prog (V8.alloc (.cells #[.func (.func 139) #[] #[]] 205))=.ok () V10∧
 (Instr.mapUpdate 206 (.map (some V.heap.size)) (.int .i64 5) (.func (.func 140) #[] #[])).run Tryz.prog V10=.ok () V11∧
 MBk V11 V.heap.size [ent (.int .i64 1) (.func (.func 135) #[] #[]) 0,ent (.int .i64 2) (.func (.func 161) #[] #[.pointer (some ⟨V4.heap.size,0,none⟩)]) 1,ent (.int .i64 3) (.func (.func 161) #[] #[.pointer (some ⟨V6.heap.size,0,none⟩)]) 2,ent (.int .i64 4) (.func (.func 161) #[] #[.pointer (some ⟨V8.heap.size,0,none⟩)]) 3,ent (.int .i64 5) (.func (.func 140) #[] #[]) 4] 5∧V11.cell? ⟨V4.heap.size,0,none⟩=some (.func (.func 137) #[] #[])∧V11.cell? ⟨V6.heap.size,0,none⟩=some (.func (.func 138) #[] #[])∧V11.cell? ⟨V8.heap.size,0,none⟩=some (.func (.func 139) #[] #[])∧Below V.heap.size V V11:=by
 have B0:=below_new (w:=V) (.map #[] 0)
 have M0:MBk (V.alloc (.map #[] 0)) V.heap.size [] 0:=World.alloc_heap_new V _
 obtain⟨V4,r4,M4,g4,z4⟩:=ins5 M0 [] rfl (by simp) 1 (by simp) (by omega) (.func (.func 135) #[] #[])
 have y4:V.heap.size<V4.heap.size:=by rw[z4];simp
 have B4:=B0.grown g4 (by simp) (fun g hg=>by have hh:=Jj hg;omega)
 have M5:=M4.below (below_new (.cells #[.func (.func 137) #[] #[]] 205))
 have c5:=cell_new V4 #[.func (.func 137) #[] #[]] 205 0 _ rfl
 obtain⟨V6,r6,M6,g6,z6⟩:=ins5 M5 [1] rfl (by simp) 2 (by simp) (by omega) (.func (.func 161) #[] #[.pointer (some ⟨V4.heap.size,0,none⟩)])
 have y6:V4.heap.size<V6.heap.size:=by rw[z6];simp
 have B6:=(B4.alloc B4.size (.cells #[.func (.func 137) #[] #[]] 205)).grown g6 (by simp;omega) (fun g hg=>by have hh:=Jj hg;omega)
 have c6:=(World.cell?_of_block (a:=⟨V4.heap.size,0,none⟩) (g6.block _ (by simp) (by intro e;have hh:=Jj e;(try simp at hh);omega))).trans c5
 have M7:=M6.below (below_new (.cells #[.func (.func 138) #[] #[]] 205))
 have d7:=cell_new V6 #[.func (.func 138) #[] #[]] 205 0 _ rfl
 have c7:=cell_below (B:=0) (below_new (.cells #[.func (.func 138) #[] #[]] 205)) c6
 obtain⟨V8,r8,M8,g8,z8⟩:=ins5 M7 [1,2] rfl (by simp) 3 (by simp) (by omega) (.func (.func 161) #[] #[.pointer (some ⟨V6.heap.size,0,none⟩)])
 have y8:V6.heap.size<V8.heap.size:=by rw[z8];simp
 have B8:=(B6.alloc B6.size (.cells #[.func (.func 138) #[] #[]] 205)).grown g8 (by simp;omega) (fun g hg=>by have hh:=Jj hg;omega)
 have c8:=(World.cell?_of_block (a:=⟨V4.heap.size,0,none⟩) (g8.block _ (by simp;omega) (by intro e;have hh:=Jj e;(try simp at hh);omega))).trans c7
 have d8:=(World.cell?_of_block (a:=⟨V6.heap.size,0,none⟩) (g8.block _ (by simp) (by intro e;have hh:=Jj e;(try simp at hh);omega))).trans d7
 have M9:=M8.below (below_new (.cells #[.func (.func 139) #[] #[]] 205))
 have e9:=cell_new V8 #[.func (.func 139) #[] #[]] 205 0 _ rfl
 have c9:=cell_below (B:=0) (below_new (.cells #[.func (.func 139) #[] #[]] 205)) c8
 have d9:=cell_below (B:=0) (below_new (.cells #[.func (.func 139) #[] #[]] 205)) d8
 obtain⟨V10,r10,M10,g10,z10⟩:=ins5 M9 [1,2,3] rfl (by simp) 4 (by simp) (by omega) (.func (.func 161) #[] #[.pointer (some ⟨V8.heap.size,0,none⟩)])
 have y10:V8.heap.size<V10.heap.size:=by rw[z10];simp
 have B10:=(B8.alloc B8.size (.cells #[.func (.func 139) #[] #[]] 205)).grown g10 (by simp;omega) (fun g hg=>by have hh:=Jj hg;omega)
 have c10:=(World.cell?_of_block (a:=⟨V4.heap.size,0,none⟩) (g10.block _ (by simp;omega) (by intro e;have hh:=Jj e;(try simp at hh);omega))).trans c9
 have d10:=(World.cell?_of_block (a:=⟨V6.heap.size,0,none⟩) (g10.block _ (by simp;omega) (by intro e;have hh:=Jj e;(try simp at hh);omega))).trans d9
 have e10:=(World.cell?_of_block (a:=⟨V8.heap.size,0,none⟩) (g10.block _ (by simp) (by intro e;have hh:=Jj e;(try simp at hh);omega))).trans e9
 obtain⟨V11,r11,M11,g11,z11⟩:=ins5 M10 [1,2,3,4] rfl (by simp) 5 (by simp) (by omega) (.func (.func 140) #[] #[])
 have B11:=B10.grown g11 (by omega) (fun g hg=>by have hh:=Jj hg;omega)
 have c11:=(World.cell?_of_block (a:=⟨V4.heap.size,0,none⟩) (g11.block _ (by show V4.heap.size<V10.heap.size;omega) (by intro e;have hh:=Jj e;(try simp at hh);omega))).trans c10
 have d11:=(World.cell?_of_block (a:=⟨V6.heap.size,0,none⟩) (g11.block _ (by show V6.heap.size<V10.heap.size;omega) (by intro e;have hh:=Jj e;(try simp at hh);omega))).trans d10
 have e11:=(World.cell?_of_block (a:=⟨V8.heap.size,0,none⟩) (g11.block _ (by show V8.heap.size<V10.heap.size;omega) (by intro e;have hh:=Jj e;(try simp at hh);omega))).trans e10
 exact⟨V4,V6,V8,V10,V11,r4,r6,r8,r10,r11,M11,c11,d11,e11,B11⟩
end
end Go.Proofs.YteembinfgbapgaaGreat
