/- Merged out of: Nh. -/
import Derived.Test.YteembinfgbapgaaGreatC00
import Derived.Test.YteembinfgbapgaaGreatC16
import Derived.BigRegion
set_option linter.unusedSimpArgs false
set_option linter.unusedVariables false
set_option maxRecDepth 100000
set_option maxHeartbeats 8000000
namespace Go.Proofs.YteembinfgbapgaaGreat
section
open Go.RowKit Go.Lib
theorem set_same {α:Type} {xs:List α} {j:Nat} {v:α} (h:xs[j]?=some v):xs.set j v=xs:=by
 apply Xv
 intro i
 rw[List.getElem?_set]
 split
 ·rename_i e;subst e
  split
  ·exact h.symm
  ·rename_i hl;rw[Xy (by omega)] at h;cases h
 ·rfl
theorem cellsF_name {l:List Fd} {k:Nat} {f:Fd} (hf:l[k]?=some f) (s:ByteArray):cellsF (l.set k ⟨s,f.k,f.l⟩)=(cellsF l).set (k * 3) (.string s):=by
 obtain⟨_,h1,h2⟩:=cellsF_get l k f hf
 rw[cellsF_set l k f _ hf,set_same (xs:=(cellsF l).set (k * 3) (.string s)) (j:=k * 3+1) (by rw[X6 (by omega)];exact h1),set_same (by rw[X6 (by omega)];exact h2)]
theorem cellsF_kind {l:List Fd} {k:Nat} {f:Fd} (hf:l[k]?=some f) (kd ln:Int):cellsF (l.set k ⟨f.s,kd,ln⟩)=((cellsF l).set (k * 3+1) (.int .i64 kd)).set (k * 3+2) (.int .i64 ln):=by
 obtain⟨h0,_,_⟩:=cellsF_get l k f hf
 rw[cellsF_set l k f _ hf,set_same (xs:=cellsF l) (j:=k * 3) h0]
theorem own_rd_blk {w:World} {base g n c:Nat} {T:TypeId} {K:Nat} {xs:List Value} (h:w.ownsRow base T K (.slice (some ⟨g,0,none⟩) n c) n xs):Rd w (some ⟨g,0,none⟩) xs:=by
 obtain⟨A,c',e,_,_,hr⟩:=own_rd h
 cases e
 exact hr
theorem Rd.fldL {w:World} {g:Nat} {fs:List Fd} (h:Rd w (some ⟨g,0,none⟩) (cellsF fs)) {k:Nat} {f:Fd} (hf:fs[k]?=some f):w.cell? ⟨g,k * 3,none⟩=some (.string f.s)∧w.cell? ⟨g,k * 3+1,none⟩=some (.int .i64 f.k)∧w.cell? ⟨g,k * 3+2,none⟩=some (.int .i64 f.l)∧
 w.cell? ⟨g,k * 3+(0+1),none⟩=some (.int .i64 f.k)∧w.cell? ⟨g,k * 3+(1+1),none⟩=some (.int .i64 f.l):=by
 obtain⟨g0,g1,g2⟩:=cellsF_get fs k f hf
 have key:∀j u,(cellsF fs)[j]?=some u→w.cell? ⟨g,j,none⟩=some u:=fun j u hj=>by
  obtain⟨ad,e,hc⟩:=h (by rintro e;rw[e] at hj;simp at hj)
  cases e
  have:=hc j u hj
  rw[Addr.add_lit,Nat.zero_add] at this
  exact this
 exact⟨key _ _ g0,key _ _ g1,key _ _ g2,key _ _ g1,key _ _ g2⟩
theorem renames_m (l:List Fd) (c:Ch) (m:Nat) (hm:l.length=m) (h16:m≤16) (B:Option Addr) (d b1 b2:Nat) (v2 v3 qv:Value) (w:World) (h1:b1≤b2) (h2:b2≤w.heap.size) (R1:RdB b1 w B (cellsF l)) (own2:w.ownsRow b1 68 3 v2 m (cellsF l)) (lt2:OwnLt b2 v2) (own3:w.ownsRow b2 137 4 v3 m (cellsM (kM m))) (P:Nat→Prop) (hP1:∀ad,B=some ad→P ad.block) (hP2:∀g,v2.ownBlock=some g→P g) (hP3:∀g,v3.ownBlock=some g→P g) (hPn:∀g,w.heap.size≤g→P g) (k:Nat) (f:Fd) (hf:l[k]?=some f):
 Calls Tryz.prog 138 #[.agg #[.slice B m d,v2,v3],.agg #[.int .i64 c.op,.string c.s,.string c.g.s,.int .i64 c.g.k,.int .i64 c.g.l,.int .i64 c.d.k,.int .u64 c.d.b,.string c.d.t,qv],.int .i64 k] w fun e w'=>StepP v2.ownBlock v3.ownBlock P ⟨l,l.set k ⟨c.g.s,f.k,f.l⟩,kM m⟩ 0 w e w':=by
 have hk:k<m:=by rw[←hm];exact(J6.1 hf).1
 obtain⟨g2,d2,rfl,gb2,gz2,hd2,hmx2,rd2⟩:=own_blk own2 (by omega)
 obtain⟨g3,d3,rfl,gb3,gz3,hd3,hmx3,rd3⟩:=own_blk own3 (by omega)
 have g23:g2<b2:=lt2 g2 rfl
 have bb1:=below_new (w:=w) (.cells #[.slice B m d,.slice (some ⟨g2,0,none⟩) m d2,.slice (some ⟨g3,0,none⟩) m d3] 96)
 have bb2:=below_new (w:=w.alloc (.cells #[.slice B m d,.slice (some ⟨g2,0,none⟩) m d2,.slice (some ⟨g3,0,none⟩) m d3] 96)) (.cells #[.int .i64 c.op,.string c.s,.string c.g.s,.int .i64 c.g.k,.int .i64 c.g.l,.int .i64 c.d.k,.int .u64 c.d.b,.string c.d.t,qv] 76)
 have bb3:=below_new (w:=(w.alloc (.cells #[.slice B m d,.slice (some ⟨g2,0,none⟩) m d2,.slice (some ⟨g3,0,none⟩) m d3] 96)).alloc (.cells #[.int .i64 c.op,.string c.s,.string c.g.s,.int .i64 c.g.k,.int .i64 c.g.l,.int .i64 c.d.k,.int .u64 c.d.b,.string c.d.t,qv] 76)) (.cells #[.slice none 0 0,.slice none 0 0,.slice none 0 0] 96)
 have T1:=((OBox.new w [.slice B m d,.slice (some ⟨g2,0,none⟩) m d2,.slice (some ⟨g3,0,none⟩) m d3] 96).below bb2).below bb3
 have C1:CBox _ _ c qv 76:=(OBox.new (w.alloc (.cells #[.slice B m d,.slice (some ⟨g2,0,none⟩) m d2,.slice (some ⟨g3,0,none⟩) m d3] 96)) (chL c qv) 76).below bb3
 have N1:=OBox.new ((w.alloc (.cells #[.slice B m d,.slice (some ⟨g2,0,none⟩) m d2,.slice (some ⟨g3,0,none⟩) m d3] 96)).alloc (.cells #[.int .i64 c.op,.string c.s,.string c.g.s,.int .i64 c.g.k,.int .i64 c.g.l,.int .i64 c.d.k,.int .u64 c.d.b,.string c.d.t,qv] 76)) [.slice none 0 0,.slice none 0 0,.slice none 0 0] 96
 have HB:=below_seq (below_seq bb1 bb2) bb3
 rw[Jq] at C1
 rw[Jq,Jq] at N1
 obtain⟨i1,i2,i3,j1,j2,j3⟩:=T1.f3
 obtain⟨n1,n2,n3,o1,o2,o3⟩:=N1.f3
 obtain⟨a0,a1,a2,a3,a4,a5,a6,a7,a8⟩:=C1.c9
 have HM:=J0 hm
 have HP1:=J0 hP1
 have HP2:=J0 hP2
 have HP3:=J0 hP3
 have HPN:=J0 hPn
 clear hm bb1 bb2 bb3 hP1 hP2 hP3 hPn
 have ow2:=own_below own2 HB
 have ow3:=own_below own3 HB
 have R2:=R1.below (HB.mono (Q7 h1 h2))
 have zz:=N1.lt
 obtain⟨cf0,cf1,cf2⟩:=cellsF_get l k f hf
 have gn1:g2≠w.heap.size:=by omega
 have gn2:g2≠w.heap.size+2:=by omega
 obtain⟨_,_,e1,_,_,_,_,rdx⟩:=own_blk ow2 (by omega)
 cases e1
 obtain⟨k0,f0⟩:=rdx _ _ cf0
 have hi0:(0:Int)≤(k:Int):=by omega
 have hi1:(k:Int)<(m:Int):=by omega
 have ow2':=own_set ow2 (k * 3) (.string c.g.s)
 have T2:=T1.grown (grown_of_set g2 (k * 3) (.string c.g.s)) (by intro e;have:=Jj e;omega)
 have N2:=N1.grown (grown_of_set g2 (k * 3) (.string c.g.s)) (by intro e;have:=Jj e;omega)
 have ow3':=own_grown ow3 (grown_of_set g2 (k * 3) (.string c.g.s)) (by intro g hg e;have e1:g3=g:=Jj hg;have e2:=Jj e;omega)
 have R3:=R2.grown (grown_of_set g2 (k * 3) (.string c.g.s)) (by omega) (fun g hg=>by have hh:=Jj hg;omega)
 have HB2:Only (some g2) (some g3) w _:=(Only.of HB).grown (grown_of_set g2 (k * 3) (.string c.g.s)) (.inl rfl)
 obtain⟨p1,p2,p3,q1,q2,q3⟩:=T2.f3
 obtain⟨s1,s2,s3,u1,u2,u3⟩:=N2.f3
 have HF:=J0 hf
 clear own2 own3 R1 rd2 rd3 ow2 ow3 R2 hf cf0 cf1 cf2 rdx
 go_enter Tryz.func138,Tryz.ntmps138
 go_wp2
 refine bodyPost_ret (v:=.tuple #[.agg #[.slice B m d,.slice (some ⟨g2,0,none⟩) m d2,.slice (some ⟨g3,0,none⟩) m d3],.int .i64 0]) (by simp[results,Tryz.results138,go_sem, *];done) rfl ⟨_,_,_,_,_,_,_,_,_,rfl,fun _=>?_,?_⟩
 ·refine own_TV (t:=⟨l,l.set k ⟨c.g.s,f.k,f.l⟩,kM m⟩) HM.out (RdB.rd (R3.below ?_)) HP1.out (own_eq (own_keep ow2' fun g hg=>?_) rfl (cellsF_name HF.out c.g.s).symm) (by show(l.set k _).length=m;rw[List.length_set,HM.out]) (fun g hg=>HP2.out g hg) (own_keep ow3' fun g hg=>?_) (kM_length m) (fun g hg=>HP3.out g hg)
  ·exact(((Jy b1 _).setCell (by show b1≤w.heap.size+2;omega) _).setCell (by show b1≤w.heap.size+2;omega) _).setCell (by show b1≤w.heap.size+2;omega) _
  ·have e1:g2=g:=Jj hg
   exact(J5 _ _ _ _ (by show g≠w.heap.size+2;omega)).trans ((J5 _ _ _ _ (by show g≠w.heap.size+2;omega)).trans (J5 _ _ _ _ (by show g≠w.heap.size+2;omega)))
  ·have e1:g3=g:=Jj hg
   exact(J5 _ _ _ _ (by show g≠w.heap.size+2;omega)).trans ((J5 _ _ _ _ (by show g≠w.heap.size+2;omega)).trans (J5 _ _ _ _ (by show g≠w.heap.size+2;omega)))
 ·exact((HB2.setCell (by show w.heap.size≤w.heap.size+2;omega) _).setCell (by show w.heap.size≤w.heap.size+2;omega) _).setCell (by show w.heap.size≤w.heap.size+2;omega) _
theorem recasts_no (l:List Fd) (c:Ch) (m:Nat) (hm:l.length=m) (h16:m≤16) (B:Option Addr) (d b1 b2:Nat) (v2 v3 qv:Value) (w:World) (h1:b1≤b2) (h2:b2≤w.heap.size) (R1:RdB b1 w B (cellsF l)) (own2:w.ownsRow b1 68 3 v2 m (cellsF l)) (lt2:OwnLt b2 v2) (own3:w.ownsRow b2 137 4 v3 m (cellsM (kM m))) (P:Nat→Prop) (hP1:∀ad,B=some ad→P ad.block) (hP2:∀g,v2.ownBlock=some g→P g) (hP3:∀g,v3.ownBlock=some g→P g) (hPn:∀g,w.heap.size≤g→P g) (k:Nat) (f:Fd) (hf:l[k]?=some f) (hr:castsB f.k f.l c.g.k c.g.l=false):
 Calls Tryz.prog 139 #[.agg #[.slice B m d,v2,v3],.agg #[.int .i64 c.op,.string c.s,.string c.g.s,.int .i64 c.g.k,.int .i64 c.g.l,.int .i64 c.d.k,.int .u64 c.d.b,.string c.d.t,qv],.int .i64 k] w fun e w'=>StepP v2.ownBlock v3.ownBlock P Tb.z 80 w e w':=by
 have hk:k<m:=by rw[←hm];exact(J6.1 hf).1
 obtain⟨g2,d2,rfl,gb2,gz2,hd2,hmx2,rd2⟩:=own_blk own2 (by omega)
 obtain⟨g3,d3,rfl,gb3,gz3,hd3,hmx3,rd3⟩:=own_blk own3 (by omega)
 have g23:g2<b2:=lt2 g2 rfl
 have bb1:=below_new (w:=w) (.cells #[.slice B m d,.slice (some ⟨g2,0,none⟩) m d2,.slice (some ⟨g3,0,none⟩) m d3] 96)
 have bb2:=below_new (w:=w.alloc (.cells #[.slice B m d,.slice (some ⟨g2,0,none⟩) m d2,.slice (some ⟨g3,0,none⟩) m d3] 96)) (.cells #[.int .i64 c.op,.string c.s,.string c.g.s,.int .i64 c.g.k,.int .i64 c.g.l,.int .i64 c.d.k,.int .u64 c.d.b,.string c.d.t,qv] 76)
 have bb3:=below_new (w:=(w.alloc (.cells #[.slice B m d,.slice (some ⟨g2,0,none⟩) m d2,.slice (some ⟨g3,0,none⟩) m d3] 96)).alloc (.cells #[.int .i64 c.op,.string c.s,.string c.g.s,.int .i64 c.g.k,.int .i64 c.g.l,.int .i64 c.d.k,.int .u64 c.d.b,.string c.d.t,qv] 76)) (.cells #[.slice none 0 0,.slice none 0 0,.slice none 0 0] 96)
 have T1:=((OBox.new w [.slice B m d,.slice (some ⟨g2,0,none⟩) m d2,.slice (some ⟨g3,0,none⟩) m d3] 96).below bb2).below bb3
 have C1:CBox _ _ c qv 76:=(OBox.new (w.alloc (.cells #[.slice B m d,.slice (some ⟨g2,0,none⟩) m d2,.slice (some ⟨g3,0,none⟩) m d3] 96)) (chL c qv) 76).below bb3
 have N1:=OBox.new ((w.alloc (.cells #[.slice B m d,.slice (some ⟨g2,0,none⟩) m d2,.slice (some ⟨g3,0,none⟩) m d3] 96)).alloc (.cells #[.int .i64 c.op,.string c.s,.string c.g.s,.int .i64 c.g.k,.int .i64 c.g.l,.int .i64 c.d.k,.int .u64 c.d.b,.string c.d.t,qv] 76)) [.slice none 0 0,.slice none 0 0,.slice none 0 0] 96
 have HB:=below_seq (below_seq bb1 bb2) bb3
 rw[Jq] at C1
 rw[Jq,Jq] at N1
 obtain⟨i1,i2,i3,j1,j2,j3⟩:=T1.f3
 obtain⟨n1,n2,n3,o1,o2,o3⟩:=N1.f3
 obtain⟨a0,a1,a2,a3,a4,a5,a6,a7,a8⟩:=C1.c9
 have HM:=J0 hm
 have HP1:=J0 hP1
 have HP2:=J0 hP2
 have HP3:=J0 hP3
 have HPN:=J0 hPn
 clear hm bb1 bb2 bb3 hP1 hP2 hP3 hPn
 have RF:Rd _ (some ⟨g2,0,none⟩) (cellsF l):=(own_rd_blk own2).below HB
 have HF:=J0 hf
 have HR:=J0 hr
 have hi0:(0:Int)≤(k:Int):=by omega
 have hi1:(k:Int)<(m:Int):=by omega
 clear own2 own3 R1 rd2 rd3 hf hr
 go_enter Tryz.func139,Tryz.ntmps139
 go_upto_region 1 with fail
 refine RW.start (fun w'=>Below w.heap.size w w'∧OBox w' w.heap.size [.slice B m d,.slice (some ⟨g2,0,none⟩) m d2,.slice (some ⟨g3,0,none⟩) m d3] 96∧CBox w' (w.heap.size+1) c qv 76∧OBox w' (w.heap.size+2) [.slice none 0 0,.slice none 0 0,.slice none 0 0] 96∧Rd w' (some ⟨g2,0,none⟩) (cellsF l)) (by kernel_rfl) (by kernel_rfl) ⟨HB.drew,T1,C1,N1,RF⟩ ?_
 clear HB T1 C1 N1 RF i1 i2 i3 j1 j2 j3 n1 n2 n3 o1 o2 o3 a0 a1 a2 a3 a4 a5 a6 a7 a8
 repeat (first
  |(refine' RW.val (by rfl) ?_ ?_;rotate_left;(focus (intro w' hS;obtain⟨HB,T1,C1,N1,RF⟩:=hS;obtain⟨i1,i2,i3,j1,j2,j3⟩:=T1.f3;obtain⟨a0,a1,a2,a3,a4,a5,a6,a7,a8⟩:=C1.c9;obtain⟨k0,k1,k2,k3,k4⟩:=RF.fldL HF.out;go_simp;rfl));simp only[Act.put,J1,J3,J2])
  |(refine RW.off (by rfl) ?_;simp only[Act.put,J1,J3,J2])
  |(refine' RW.call (by rfl) ?_ ?_ ?_
    rotate_left 3
    (focus (intro w' hS;obtain⟨HB,T1,C1,N1,RF⟩:=hS;obtain⟨i1,i2,i3,j1,j2,j3⟩:=T1.f3;obtain⟨a0,a1,a2,a3,a4,a5,a6,a7,a8⟩:=C1.c9;obtain⟨k0,k1,k2,k3,k4⟩:=RF.fldL HF.out;go_simp;exact⟨rfl,rfl⟩))
    (focus
      intro w' hS
      obtain⟨HB,T1,C1,N1,RF⟩:=hS;obtain⟨i1,i2,i3,j1,j2,j3⟩:=T1.f3;obtain⟨a0,a1,a2,a3,a4,a5,a6,a7,a8⟩:=C1.c9;obtain⟨k0,k1,k2,k3,k4⟩:=RF.fldL HF.out
      first
       |(refine(Casts_is f.s c.g.s f.k f.l c.g.k c.g.l false HR.out _).mono ?_;rintro e w1 ⟨rfl,hb⟩;exact⟨rfl,⟨(below_seq HB hb),(T1.below hb),(C1.below hb),(N1.below hb),(RF.below hb)⟩⟩))
    simp only[Act.put,J1,J3,J2]))
 refine RW.done (fun w' hS=>?_)
 obtain⟨HB,T1,C1,N1,RF⟩:=hS;obtain⟨i1,i2,i3,j1,j2,j3⟩:=T1.f3;obtain⟨a0,a1,a2,a3,a4,a5,a6,a7,a8⟩:=C1.c9;obtain⟨k0,k1,k2,k3,k4⟩:=RF.fldL HF.out
 obtain⟨i1,i2,i3,j1,j2,j3⟩:=T1.f3
 obtain⟨n1,n2,n3,o1,o2,o3⟩:=N1.f3
 go_wp2
 refine bodyPost_ret (v:=.tuple #[.agg #[.slice B m d,.slice (some ⟨g2,0,none⟩) m d2,.slice (some ⟨g3,0,none⟩) m d3],.int .i64 80]) (by simp[results,Tryz.results139,go_sem, *];done) rfl ⟨_,_,_,_,_,_,_,_,_,rfl,fun h=>absurd h (by decide),Only.of ?_⟩
 (repeat (first|exact HB|refine J8 ?_ (by dsimp only;omega) _|refine Jk ?_ (by have hs_:=HB.size;first|(simp;done)|(simp;omega)|omega) _|apply Jv))
theorem recasts_yes (l:List Fd) (c:Ch) (m:Nat) (hm:l.length=m) (h16:m≤16) (B:Option Addr) (d b1 b2:Nat) (v2 v3 qv:Value) (w:World) (h1:b1≤b2) (h2:b2≤w.heap.size) (R1:RdB b1 w B (cellsF l)) (own2:w.ownsRow b1 68 3 v2 m (cellsF l)) (lt2:OwnLt b2 v2) (own3:w.ownsRow b2 137 4 v3 m (cellsM (kM m))) (P:Nat→Prop) (hP1:∀ad,B=some ad→P ad.block) (hP2:∀g,v2.ownBlock=some g→P g) (hP3:∀g,v3.ownBlock=some g→P g) (hPn:∀g,w.heap.size≤g→P g) (k:Nat) (f:Fd) (hf:l[k]?=some f) (hr:castsB f.k f.l c.g.k c.g.l=true):
 Calls Tryz.prog 139 #[.agg #[.slice B m d,v2,v3],.agg #[.int .i64 c.op,.string c.s,.string c.g.s,.int .i64 c.g.k,.int .i64 c.g.l,.int .i64 c.d.k,.int .u64 c.d.b,.string c.d.t,qv],.int .i64 k] w fun e w'=>StepP v2.ownBlock v3.ownBlock P ⟨l,l.set k ⟨f.s,c.g.k,c.g.l⟩,kM m⟩ 0 w e w':=by
 have hk:k<m:=by rw[←hm];exact(J6.1 hf).1
 obtain⟨g2,d2,rfl,gb2,gz2,hd2,hmx2,rd2⟩:=own_blk own2 (by omega)
 obtain⟨g3,d3,rfl,gb3,gz3,hd3,hmx3,rd3⟩:=own_blk own3 (by omega)
 have g23:g2<b2:=lt2 g2 rfl
 have bb1:=below_new (w:=w) (.cells #[.slice B m d,.slice (some ⟨g2,0,none⟩) m d2,.slice (some ⟨g3,0,none⟩) m d3] 96)
 have bb2:=below_new (w:=w.alloc (.cells #[.slice B m d,.slice (some ⟨g2,0,none⟩) m d2,.slice (some ⟨g3,0,none⟩) m d3] 96)) (.cells #[.int .i64 c.op,.string c.s,.string c.g.s,.int .i64 c.g.k,.int .i64 c.g.l,.int .i64 c.d.k,.int .u64 c.d.b,.string c.d.t,qv] 76)
 have bb3:=below_new (w:=(w.alloc (.cells #[.slice B m d,.slice (some ⟨g2,0,none⟩) m d2,.slice (some ⟨g3,0,none⟩) m d3] 96)).alloc (.cells #[.int .i64 c.op,.string c.s,.string c.g.s,.int .i64 c.g.k,.int .i64 c.g.l,.int .i64 c.d.k,.int .u64 c.d.b,.string c.d.t,qv] 76)) (.cells #[.slice none 0 0,.slice none 0 0,.slice none 0 0] 96)
 have T1:=((OBox.new w [.slice B m d,.slice (some ⟨g2,0,none⟩) m d2,.slice (some ⟨g3,0,none⟩) m d3] 96).below bb2).below bb3
 have C1:CBox _ _ c qv 76:=(OBox.new (w.alloc (.cells #[.slice B m d,.slice (some ⟨g2,0,none⟩) m d2,.slice (some ⟨g3,0,none⟩) m d3] 96)) (chL c qv) 76).below bb3
 have N1:=OBox.new ((w.alloc (.cells #[.slice B m d,.slice (some ⟨g2,0,none⟩) m d2,.slice (some ⟨g3,0,none⟩) m d3] 96)).alloc (.cells #[.int .i64 c.op,.string c.s,.string c.g.s,.int .i64 c.g.k,.int .i64 c.g.l,.int .i64 c.d.k,.int .u64 c.d.b,.string c.d.t,qv] 76)) [.slice none 0 0,.slice none 0 0,.slice none 0 0] 96
 have HB:=below_seq (below_seq bb1 bb2) bb3
 rw[Jq] at C1
 rw[Jq,Jq] at N1
 obtain⟨i1,i2,i3,j1,j2,j3⟩:=T1.f3
 obtain⟨n1,n2,n3,o1,o2,o3⟩:=N1.f3
 obtain⟨a0,a1,a2,a3,a4,a5,a6,a7,a8⟩:=C1.c9
 have HM:=J0 hm
 have HP1:=J0 hP1
 have HP2:=J0 hP2
 have HP3:=J0 hP3
 have HPN:=J0 hPn
 clear hm bb1 bb2 bb3 hP1 hP2 hP3 hPn
 have RF:Rd _ (some ⟨g2,0,none⟩) (cellsF l):=(own_rd_blk own2).below HB
 have HF:=J0 hf
 have HR:=J0 hr
 have hi0:(0:Int)≤(k:Int):=by omega
 have hi1:(k:Int)<(m:Int):=by omega
 clear rd2 rd3 hf hr
 go_enter Tryz.func139,Tryz.ntmps139
 go_upto_region 1 with fail
 refine RW.start (fun w'=>Below w.heap.size w w'∧OBox w' w.heap.size [.slice B m d,.slice (some ⟨g2,0,none⟩) m d2,.slice (some ⟨g3,0,none⟩) m d3] 96∧CBox w' (w.heap.size+1) c qv 76∧OBox w' (w.heap.size+2) [.slice none 0 0,.slice none 0 0,.slice none 0 0] 96∧Rd w' (some ⟨g2,0,none⟩) (cellsF l)) (by kernel_rfl) (by kernel_rfl) ⟨HB.drew,T1,C1,N1,RF⟩ ?_
 clear HB T1 C1 N1 RF i1 i2 i3 j1 j2 j3 n1 n2 n3 o1 o2 o3 a0 a1 a2 a3 a4 a5 a6 a7 a8
 repeat (first
  |(refine' RW.val (by rfl) ?_ ?_;rotate_left;(focus (intro w' hS;obtain⟨HB,T1,C1,N1,RF⟩:=hS;obtain⟨i1,i2,i3,j1,j2,j3⟩:=T1.f3;obtain⟨a0,a1,a2,a3,a4,a5,a6,a7,a8⟩:=C1.c9;obtain⟨k0,k1,k2,k3,k4⟩:=RF.fldL HF.out;go_simp;rfl));simp only[Act.put,J1,J3,J2])
  |(refine RW.off (by rfl) ?_;simp only[Act.put,J1,J3,J2])
  |(refine' RW.call (by rfl) ?_ ?_ ?_
    rotate_left 3
    (focus (intro w' hS;obtain⟨HB,T1,C1,N1,RF⟩:=hS;obtain⟨i1,i2,i3,j1,j2,j3⟩:=T1.f3;obtain⟨a0,a1,a2,a3,a4,a5,a6,a7,a8⟩:=C1.c9;obtain⟨k0,k1,k2,k3,k4⟩:=RF.fldL HF.out;go_simp;exact⟨rfl,rfl⟩))
    (focus
      intro w' hS
      obtain⟨HB,T1,C1,N1,RF⟩:=hS;obtain⟨i1,i2,i3,j1,j2,j3⟩:=T1.f3;obtain⟨a0,a1,a2,a3,a4,a5,a6,a7,a8⟩:=C1.c9;obtain⟨k0,k1,k2,k3,k4⟩:=RF.fldL HF.out
      first
       |(refine(Casts_is f.s c.g.s f.k f.l c.g.k c.g.l true HR.out _).mono ?_;rintro e w1 ⟨rfl,hb⟩;exact⟨rfl,⟨(below_seq HB hb),(T1.below hb),(C1.below hb),(N1.below hb),(RF.below hb)⟩⟩))
    simp only[Act.put,J1,J3,J2]))
 refine RW.done (fun w' hS=>?_)
 obtain⟨HB,T1,C1,N1,RF⟩:=hS;obtain⟨i1,i2,i3,j1,j2,j3⟩:=T1.f3;obtain⟨a0,a1,a2,a3,a4,a5,a6,a7,a8⟩:=C1.c9;obtain⟨k0,k1,k2,k3,k4⟩:=RF.fldL HF.out
 go_upto_region 3 with fail
 have ow2:=own_below own2 HB
 have ow3:=own_below own3 HB
 have R2:=R1.below (HB.mono (Q7 h1 h2))
 have zz:=N1.lt
 obtain⟨cf0,cf1,cf2⟩:=cellsF_get l k f HF.out
 have gn1:g2≠w.heap.size:=by omega
 have gn2:g2≠w.heap.size+1:=by omega
 obtain⟨_,_,e1,_,_,_,_,rdx⟩:=own_blk ow2 (by omega)
 cases e1
 obtain⟨k1,f1⟩:=rdx _ _ cf1
 obtain⟨k2,f2⟩:=rdx _ _ cf2
 obtain⟨i1,i2,i3,j1,j2,j3⟩:=T1.f3
 obtain⟨a0,a1,a2,a3,a4,a5,a6,a7,a8⟩:=C1.c9
 clear own2 own3 R1 RF rdx cf0 cf1 cf2
 go_region
 have GR:w'.grownBy ((w'.setCell ⟨g2,k * 3+1,none⟩ (.int .i64 c.g.k)).setCell ⟨g2,k * 3+2,none⟩ (.int .i64 c.g.l)).drew (some g2):=⟨rfl,rfl,rfl,by simp[World.setCell],fun j hj hne=>(J5 _ _ _ _ (by rintro rfl;exact hne rfl)).trans (J5 _ _ _ _ (by rintro rfl;exact hne rfl))⟩
 have ow2':((w'.setCell ⟨g2,k * 3+1,none⟩ (.int .i64 c.g.k)).setCell ⟨g2,k * 3+2,none⟩ (.int .i64 c.g.l)).drew.ownsRow b1 68 3 (.slice (some ⟨g2,0,none⟩) m d2) m (((cellsF l).set (k * 3+1) (.int .i64 c.g.k)).set (k * 3+2) (.int .i64 c.g.l)):=own_set (own_set ow2 _ _) _ _
 have T2:=T1.grown GR (by intro e;have:=Jj e;omega)
 have N2:=N1.grown GR (by intro e;have:=Jj e;omega)
 have ow3':=own_grown ow3 GR (by intro g hg e;have e1:g3=g:=Jj hg;have e2:=Jj e;omega)
 have R3:=R2.grown GR (by omega) (fun g hg=>by have hh:=Jj hg;omega)
 have HB2:Only (some g2) (some g3) w _:=(Only.of HB).grown GR (.inl rfl)
 clear GR ow2 ow3 R2 HB T1 N1 C1 i1 i2 i3 j1 j2 j3 a0 a1 a2 a3 a4 a5 a6 a7 a8 k1 k2 f1 f2
 obtain⟨p1,p2,p3,q1,q2,q3⟩:=T2.f3
 obtain⟨s1,s2,s3,u1,u2,u3⟩:=N2.f3
 generalize ((w'.setCell ⟨g2,k * 3+1,none⟩ (.int .i64 c.g.k)).setCell ⟨g2,k * 3+2,none⟩ (.int .i64 c.g.l)).drew=W5 at *
 go_wp2
 refine bodyPost_ret (v:=.tuple #[.agg #[.slice B m d,.slice (some ⟨g2,0,none⟩) m d2,.slice (some ⟨g3,0,none⟩) m d3],.int .i64 0]) (by simp[results,Tryz.results139,go_sem, *];done) rfl ⟨_,_,_,_,_,_,_,_,_,rfl,fun _=>?_,?_⟩
 ·refine own_TV (t:=⟨l,l.set k ⟨f.s,c.g.k,c.g.l⟩,kM m⟩) HM.out (RdB.rd (R3.below ?_)) HP1.out (own_eq (own_keep ow2' fun g hg=>?_) rfl (cellsF_kind HF.out c.g.k c.g.l).symm) (by show(l.set k _).length=m;rw[List.length_set,HM.out]) (fun g hg=>HP2.out g hg) (own_keep ow3' fun g hg=>?_) (kM_length m) (fun g hg=>HP3.out g hg)
  ·exact(((Jy b1 _).setCell (by show b1≤w.heap.size+2;omega) _).setCell (by show b1≤w.heap.size+2;omega) _).setCell (by show b1≤w.heap.size+2;omega) _
  ·have e1:g2=g:=Jj hg
   exact(J5 _ _ _ _ (by show g≠w.heap.size+2;omega)).trans ((J5 _ _ _ _ (by show g≠w.heap.size+2;omega)).trans (J5 _ _ _ _ (by show g≠w.heap.size+2;omega)))
  ·have e1:g3=g:=Jj hg
   exact(J5 _ _ _ _ (by show g≠w.heap.size+2;omega)).trans ((J5 _ _ _ _ (by show g≠w.heap.size+2;omega)).trans (J5 _ _ _ _ (by show g≠w.heap.size+2;omega)))
 ·exact((HB2.setCell (by show w.heap.size≤w.heap.size+2;omega) _).setCell (by show w.heap.size≤w.heap.size+2;omega) _).setCell (by show w.heap.size≤w.heap.size+2;omega) _
end
end Go.Proofs.YteembinfgbapgaaGreat
