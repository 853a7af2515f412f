/- Merged out of: Nh Ni Ns Nj Nk Nl Nm Nn. -/
import Derived.Test.YteembinfgbapgaaGreatE00
import Derived.Test.YteembinfgbapgaaGreatE05
import Derived.BigRegion
import Derived.Shelf.SortM.Plain
import Derived.Shelf.SortM.SortNone
import Derived.Test.YteembinfgbapgaaGreatProg
import Derived.Sort.OwnSortedInts
import Derived.Deep.RegionLawGrows
import Derived.Maps.Keyed
import Derived.Carry
set_option linter.unusedSimpArgs false
set_option linter.unusedVariables false
set_option maxRecDepth 100000
set_option maxHeartbeats 8000000
namespace Go.Proofs.YteembinfgbapgaaGreat
section
open Go.RowKit Go.Lib
theorem oU {α:Type} {xs:List α} {j:Nat} {v:α} (h:xs[j]?=some v):xs.set j v=xs:=by
 apply Xk
 intro i
 rw[List.getElem?_set]
 split
 ·rename_i e;subst e
  split
  ·exact h.symm
  ·rename_i hl;rw[Xv (by omega)] at h;cases h
 ·rfl
theorem sq {l:List Fd} {k:Nat} {f:Fd} (hf:l[k]?=some f) (s:EP):aC (l.set k ⟨s,f.k,f.l⟩)=(aC l).set (k * 3) (.string s):=by
 obtain⟨_,h1,h2⟩:=dK l k f hf
 rw[ju l k f _ hf,oU (xs:=(aC l).set (k * 3) (.string s)) (j:=k * 3+1) (by rw[Vz (by omega)];exact h1),oU (by rw[Vz (by omega)];exact h2)]
theorem sm {l:List Fd} {k:Nat} {f:Fd} (hf:l[k]?=some f) (kd ln:Int):aC (l.set k ⟨f.s,kd,ln⟩)=((aC l).set (k * 3+1) (.int .i64 kd)).set (k * 3+2) (.int .i64 ln):=by
 obtain⟨h0,_,_⟩:=dK l k f hf
 rw[ju l k f _ hf,oU (xs:=aC l) (j:=k * 3) h0]
theorem iW {w:EQ} {base g n c:Nat} {T:ES} {K:Nat} {xs:EO} (h:w.ownsRow base T K (.slice (some ⟨g,0,none⟩) n c) n xs):Rd w (some ⟨g,0,none⟩) xs:=by
 obtain⟨A,c',e,_,_,hr⟩:=aL h
 cases e
 exact hr
theorem Rd.fldL {w:EQ} {g:Nat} {fs:List Fd} (h:Rd w (some ⟨g,0,none⟩) (aC fs)) {k:Nat} {f:Fd} (hf:fs[k]?=some f):w.cell? ⟨g,k * 3,none⟩=some (.string f.s)/\w.cell? ⟨g,k * 3+1,none⟩=some (.int .i64 f.k)/\w.cell? ⟨g,k * 3+2,none⟩=some (.int .i64 f.l)/\
 w.cell? ⟨g,k * 3+(0+1),none⟩=some (.int .i64 f.k)/\w.cell? ⟨g,k * 3+(1+1),none⟩=some (.int .i64 f.l):=by
 obtain⟨g0,g1,g2⟩:=dK fs k f hf
 have key:∀j u,(aC fs)[j]?=some u->w.cell? ⟨g,j,none⟩=some u:=fun j u hj=>by
  obtain⟨ad,e,hc⟩:=h (by rintro e;rw[e] at hj;simp at hj)
  cases e
  have:=hc j u hj
  rw[Addr.add_lit,Nat.zero_add] at this
  exact this
 exact⟨key _ _ g0,key _ _ g1,key _ _ g2,key _ _ g1,key _ _ g2⟩
theorem yO (l:List Fd) (c:Ch) (m:Nat) (hm:l.length=m) (h16:m<=16) (B:EL) (d b1 b2:Nat) (v2 v3 qv:ER) (w:EQ) (h1:b1<=b2) (h2:b2<=w.heap.size) (R1:gm b1 w B (aC l)) (own2:w.ownsRow b1 68 3 v2 m (aC l)) (lt2:cO b2 v2) (own3:w.ownsRow b2 137 4 v3 m (aJ (kM m))) (P:Nat->Prop) (hP1:∀ad,B=some ad->P ad.block) (hP2:∀g,v2.ownBlock=some g->P g) (hP3:∀g,v3.ownBlock=some g->P g) (hPn:∀g,w.heap.size<=g->P g) (k:Nat) (f:Fd) (hf:l[k]?=some f):
 Calls Tryz.prog 138 #[.agg #[.slice B m d,v2,v3],.agg #[.int .i64 c.op,.string c.s,.string c.g.s,.int .i64 c.g.k,.int .i64 c.g.l,.int .i64 c.d.k,.int .u64 c.d.b,.string c.d.t,qv],.int .i64 k] w fun e w'=>dZ v2.ownBlock v3.ownBlock P ⟨l,l.set k ⟨c.g.s,f.k,f.l⟩,kM m⟩ 0 w e w':=by
 have hk:k<m:=by rw[<-hm];exact(J6.1 hf).1
 obtain⟨g2,d2,rfl,gb2,gz2,hd2,hmx2,rd2⟩:=ce own2 (by omega)
 obtain⟨g3,d3,rfl,gb3,gz3,hd3,hmx3,rd3⟩:=ce own3 (by omega)
 have g23:g2<b2:=lt2 g2 rfl
 obtain⟨T1,C1,N1,HB⟩:=cQ (.slice B m d) (.slice (some ⟨g2,0,none⟩) m d2) (.slice (some ⟨g3,0,none⟩) m d3) c qv w
 obtain⟨i1,i2,i3,j1,j2,j3⟩:=T1.f3
 obtain⟨n1,n2,n3,o1,o2,o3⟩:=N1.f3
 obtain⟨a0,a1,a2,a3,a4,a5,a6,a7,a8⟩:=C1.c9
 have HM:=J0 hm
 have HP1:=J0 hP1
 have HP2:=J0 hP2
 have HP3:=J0 hP3
 have HPN:=J0 hPn
 clear hm hP1 hP2 hP3 hPn
 have ow2:=aG own2 HB
 have ow3:=aG own3 HB
 have R2:=R1.below (HB.mono (Q7 h1 h2))
 have zz:=N1.lt
 obtain⟨cf0,cf1,cf2⟩:=dK l k f hf
 have gn1:g2≠w.heap.size:=by omega
 have gn2:g2≠w.heap.size+2:=by omega
 obtain⟨_,_,e1,_,_,_,_,rdx⟩:=ce ow2 (by omega)
 cases e1
 obtain⟨k0,f0⟩:=rdx _ _ cf0
 have hi0:(0:Int)<=(k:Int):=by omega
 have hi1:(k:Int)<(m:Int):=by omega
 have ow2':=ew ow2 (k * 3) (.string c.g.s)
 have T2:=T1.grown (ep g2 (k * 3) (.string c.g.s)) (by intro e;have:=Jj e;omega)
 have N2:=N1.grown (ep g2 (k * 3) (.string c.g.s)) (by intro e;have:=Jj e;omega)
 have ow3':=cY ow3 (ep g2 (k * 3) (.string c.g.s)) (by intro g hg e;have e1:g3=g:=Jj hg;have e2:=Jj e;omega)
 have R3:=R2.grown (ep g2 (k * 3) (.string c.g.s)) (by omega) (fun g hg=>by have hh:=Jj hg;omega)
 have HB2:aO (some g2) (some g3) w _:=(aO.of HB).grown (ep g2 (k * 3) (.string c.g.s)) (.inl rfl)
 obtain⟨p1,p2,p3,q1,q2,q3⟩:=T2.f3
 obtain⟨s1,s2,s3,u1,u2,u3⟩:=N2.f3
 have HF:=J0 hf
 clear own2 own3 R1 rd2 rd3 ow2 ow3 R2 hf cf0 cf1 cf2 rdx
 go_enter Tryz.func138,Tryz.ntmps138
 go_wp2
 refine Xx (v:=.tuple #[.agg #[.slice B m d,.slice (some ⟨g2,0,none⟩) m d2,.slice (some ⟨g3,0,none⟩) m d3],.int .i64 0]) (by simp[results,Tryz.results138,go_sem, *];done) rfl ⟨_,_,_,_,_,_,_,_,_,rfl,fun _=>?_,?_⟩
 ·refine nr (t:=⟨l,l.set k ⟨c.g.s,f.k,f.l⟩,kM m⟩) HM.out (gm.rd (R3.below ?_)) HP1.out (ag (aN ow2' fun g hg=>?_) rfl (sq HF.out c.g.s).symm) (by show(l.set k _).length=m;rw[List.length_set,HM.out]) (fun g hg=>HP2.out g hg) (aN ow3' fun g hg=>?_) (aP m) (fun g hg=>HP3.out g hg)
  ·exact(((Jy b1 _).setCell (by show b1<=w.heap.size+2;omega) _).setCell (by show b1<=w.heap.size+2;omega) _).setCell (by show b1<=w.heap.size+2;omega) _
  ·have e1:g2=g:=Jj hg
   exact(J5 _ _ _ _ (by show g≠w.heap.size+2;omega)).trans ((J5 _ _ _ _ (by show g≠w.heap.size+2;omega)).trans (J5 _ _ _ _ (by show g≠w.heap.size+2;omega)))
  ·have e1:g3=g:=Jj hg
   exact(J5 _ _ _ _ (by show g≠w.heap.size+2;omega)).trans ((J5 _ _ _ _ (by show g≠w.heap.size+2;omega)).trans (J5 _ _ _ _ (by show g≠w.heap.size+2;omega)))
 ·exact((HB2.setCell (by show w.heap.size<=w.heap.size+2;omega) _).setCell (by show w.heap.size<=w.heap.size+2;omega) _).setCell (by show w.heap.size<=w.heap.size+2;omega) _
theorem vn (l:List Fd) (c:Ch) (m:Nat) (hm:l.length=m) (h16:m<=16) (B:EL) (d b1 b2:Nat) (v2 v3 qv:ER) (w:EQ) (h1:b1<=b2) (h2:b2<=w.heap.size) (R1:gm b1 w B (aC l)) (own2:w.ownsRow b1 68 3 v2 m (aC l)) (lt2:cO b2 v2) (own3:w.ownsRow b2 137 4 v3 m (aJ (kM m))) (P:Nat->Prop) (hP1:∀ad,B=some ad->P ad.block) (hP2:∀g,v2.ownBlock=some g->P g) (hP3:∀g,v3.ownBlock=some g->P g) (hPn:∀g,w.heap.size<=g->P g) (k:Nat) (f:Fd) (hf:l[k]?=some f) (hr:aU f.k f.l c.g.k c.g.l=false):
 Calls Tryz.prog 139 #[.agg #[.slice B m d,v2,v3],.agg #[.int .i64 c.op,.string c.s,.string c.g.s,.int .i64 c.g.k,.int .i64 c.g.l,.int .i64 c.d.k,.int .u64 c.d.b,.string c.d.t,qv],.int .i64 k] w fun e w'=>dZ v2.ownBlock v3.ownBlock P Tb.z 80 w e w':=by
 have hk:k<m:=by rw[<-hm];exact(J6.1 hf).1
 obtain⟨g2,d2,rfl,gb2,gz2,hd2,hmx2,rd2⟩:=ce own2 (by omega)
 obtain⟨g3,d3,rfl,gb3,gz3,hd3,hmx3,rd3⟩:=ce own3 (by omega)
 have g23:g2<b2:=lt2 g2 rfl
 obtain⟨T1,C1,N1,HB⟩:=cQ (.slice B m d) (.slice (some ⟨g2,0,none⟩) m d2) (.slice (some ⟨g3,0,none⟩) m d3) c qv w
 obtain⟨i1,i2,i3,j1,j2,j3⟩:=T1.f3
 obtain⟨n1,n2,n3,o1,o2,o3⟩:=N1.f3
 obtain⟨a0,a1,a2,a3,a4,a5,a6,a7,a8⟩:=C1.c9
 have HM:=J0 hm
 have HP1:=J0 hP1
 have HP2:=J0 hP2
 have HP3:=J0 hP3
 have HPN:=J0 hPn
 clear hm hP1 hP2 hP3 hPn
 have RF:Rd _ (some ⟨g2,0,none⟩) (aC l):=(iW own2).below HB
 have HF:=J0 hf
 have HR:=J0 hr
 have hi0:(0:Int)<=(k:Int):=by omega
 have hi1:(k:Int)<(m:Int):=by omega
 clear own2 own3 R1 rd2 rd3 hf hr
 go_enter Tryz.func139,Tryz.ntmps139
 go_upto_region 1 with fail
 refine RW.start (fun w'=>Below w.heap.size w w'/\aD w' w.heap.size [.slice B m d,.slice (some ⟨g2,0,none⟩) m d2,.slice (some ⟨g3,0,none⟩) m d3] 96/\cx w' (w.heap.size+1) c qv 76/\aD w' (w.heap.size+2) [.slice none 0 0,.slice none 0 0,.slice none 0 0] 96/\Rd w' (some ⟨g2,0,none⟩) (aC l)) (by kernel_rfl) (by kernel_rfl) ⟨HB.drew,T1,C1,N1,RF⟩ ?_
 clear HB T1 C1 N1 RF i1 i2 i3 j1 j2 j3 n1 n2 n3 o1 o2 o3 a0 a1 a2 a3 a4 a5 a6 a7 a8
 repeat (first
  |(refine' RW.val (by rfl) ?_ ?_;rotate_left;(focus (intro w' hS;obtain⟨HB,T1,C1,N1,RF⟩:=hS;obtain⟨i1,i2,i3,j1,j2,j3⟩:=T1.f3;obtain⟨a0,a1,a2,a3,a4,a5,a6,a7,a8⟩:=C1.c9;obtain⟨k0,k1,k2,k3,k4⟩:=RF.fldL HF.out;go_simp;rfl));simp only[Act.put,J1,J3,J2])
  |(refine RW.off (by rfl) ?_;simp only[Act.put,J1,J3,J2])
  |(refine' RW.call (by rfl) ?_ ?_ ?_
    rotate_left 3
    (focus (intro w' hS;obtain⟨HB,T1,C1,N1,RF⟩:=hS;obtain⟨i1,i2,i3,j1,j2,j3⟩:=T1.f3;obtain⟨a0,a1,a2,a3,a4,a5,a6,a7,a8⟩:=C1.c9;obtain⟨k0,k1,k2,k3,k4⟩:=RF.fldL HF.out;go_simp;exact⟨rfl,rfl⟩))
    (focus
      intro w' hS
      obtain⟨HB,T1,C1,N1,RF⟩:=hS;obtain⟨i1,i2,i3,j1,j2,j3⟩:=T1.f3;obtain⟨a0,a1,a2,a3,a4,a5,a6,a7,a8⟩:=C1.c9;obtain⟨k0,k1,k2,k3,k4⟩:=RF.fldL HF.out
      first
       |(refine(dX f.s c.g.s f.k f.l c.g.k c.g.l false HR.out _).mono ?_;rintro e w1 ⟨rfl,hb⟩;exact⟨rfl,⟨(aB HB hb),(T1.below hb),(C1.below hb),(N1.below hb),(RF.below hb)⟩⟩))
    simp only[Act.put,J1,J3,J2]))
 refine RW.done (fun w' hS=>?_)
 obtain⟨HB,T1,C1,N1,RF⟩:=hS;obtain⟨i1,i2,i3,j1,j2,j3⟩:=T1.f3;obtain⟨a0,a1,a2,a3,a4,a5,a6,a7,a8⟩:=C1.c9;obtain⟨k0,k1,k2,k3,k4⟩:=RF.fldL HF.out
 obtain⟨i1,i2,i3,j1,j2,j3⟩:=T1.f3
 obtain⟨n1,n2,n3,o1,o2,o3⟩:=N1.f3
 go_wp2
 refine Xx (v:=.tuple #[.agg #[.slice B m d,.slice (some ⟨g2,0,none⟩) m d2,.slice (some ⟨g3,0,none⟩) m d3],.int .i64 80]) (by simp[results,Tryz.results139,go_sem, *];done) rfl ⟨_,_,_,_,_,_,_,_,_,rfl,fun h=>absurd h (by decide),aO.of ?_⟩
 (repeat (first|exact HB|refine J8 ?_ (by dsimp only;omega) _|refine Jk ?_ (by have:=HB.size;(try simp) <;> omega) _|apply Jv))
theorem uG (l:List Fd) (c:Ch) (m:Nat) (hm:l.length=m) (h16:m<=16) (B:EL) (d b1 b2:Nat) (v2 v3 qv:ER) (w:EQ) (h1:b1<=b2) (h2:b2<=w.heap.size) (R1:gm b1 w B (aC l)) (own2:w.ownsRow b1 68 3 v2 m (aC l)) (lt2:cO b2 v2) (own3:w.ownsRow b2 137 4 v3 m (aJ (kM m))) (P:Nat->Prop) (hP1:∀ad,B=some ad->P ad.block) (hP2:∀g,v2.ownBlock=some g->P g) (hP3:∀g,v3.ownBlock=some g->P g) (hPn:∀g,w.heap.size<=g->P g) (k:Nat) (f:Fd) (hf:l[k]?=some f) (hr:aU f.k f.l c.g.k c.g.l=true):
 Calls Tryz.prog 139 #[.agg #[.slice B m d,v2,v3],.agg #[.int .i64 c.op,.string c.s,.string c.g.s,.int .i64 c.g.k,.int .i64 c.g.l,.int .i64 c.d.k,.int .u64 c.d.b,.string c.d.t,qv],.int .i64 k] w fun e w'=>dZ v2.ownBlock v3.ownBlock P ⟨l,l.set k ⟨f.s,c.g.k,c.g.l⟩,kM m⟩ 0 w e w':=by
 have hk:k<m:=by rw[<-hm];exact(J6.1 hf).1
 obtain⟨g2,d2,rfl,gb2,gz2,hd2,hmx2,rd2⟩:=ce own2 (by omega)
 obtain⟨g3,d3,rfl,gb3,gz3,hd3,hmx3,rd3⟩:=ce own3 (by omega)
 have g23:g2<b2:=lt2 g2 rfl
 obtain⟨T1,C1,N1,HB⟩:=cQ (.slice B m d) (.slice (some ⟨g2,0,none⟩) m d2) (.slice (some ⟨g3,0,none⟩) m d3) c qv w
 obtain⟨i1,i2,i3,j1,j2,j3⟩:=T1.f3
 obtain⟨n1,n2,n3,o1,o2,o3⟩:=N1.f3
 obtain⟨a0,a1,a2,a3,a4,a5,a6,a7,a8⟩:=C1.c9
 have HM:=J0 hm
 have HP1:=J0 hP1
 have HP2:=J0 hP2
 have HP3:=J0 hP3
 have HPN:=J0 hPn
 clear hm hP1 hP2 hP3 hPn
 have RF:Rd _ (some ⟨g2,0,none⟩) (aC l):=(iW own2).below HB
 have HF:=J0 hf
 have HR:=J0 hr
 have hi0:(0:Int)<=(k:Int):=by omega
 have hi1:(k:Int)<(m:Int):=by omega
 clear rd2 rd3 hf hr
 go_enter Tryz.func139,Tryz.ntmps139
 go_upto_region 1 with fail
 refine RW.start (fun w'=>Below w.heap.size w w'/\aD w' w.heap.size [.slice B m d,.slice (some ⟨g2,0,none⟩) m d2,.slice (some ⟨g3,0,none⟩) m d3] 96/\cx w' (w.heap.size+1) c qv 76/\aD w' (w.heap.size+2) [.slice none 0 0,.slice none 0 0,.slice none 0 0] 96/\Rd w' (some ⟨g2,0,none⟩) (aC l)) (by kernel_rfl) (by kernel_rfl) ⟨HB.drew,T1,C1,N1,RF⟩ ?_
 clear HB T1 C1 N1 RF i1 i2 i3 j1 j2 j3 n1 n2 n3 o1 o2 o3 a0 a1 a2 a3 a4 a5 a6 a7 a8
 repeat (first
  |(refine' RW.val (by rfl) ?_ ?_;rotate_left;(focus (intro w' hS;obtain⟨HB,T1,C1,N1,RF⟩:=hS;obtain⟨i1,i2,i3,j1,j2,j3⟩:=T1.f3;obtain⟨a0,a1,a2,a3,a4,a5,a6,a7,a8⟩:=C1.c9;obtain⟨k0,k1,k2,k3,k4⟩:=RF.fldL HF.out;go_simp;rfl));simp only[Act.put,J1,J3,J2])
  |(refine RW.off (by rfl) ?_;simp only[Act.put,J1,J3,J2])
  |(refine' RW.call (by rfl) ?_ ?_ ?_
    rotate_left 3
    (focus (intro w' hS;obtain⟨HB,T1,C1,N1,RF⟩:=hS;obtain⟨i1,i2,i3,j1,j2,j3⟩:=T1.f3;obtain⟨a0,a1,a2,a3,a4,a5,a6,a7,a8⟩:=C1.c9;obtain⟨k0,k1,k2,k3,k4⟩:=RF.fldL HF.out;go_simp;exact⟨rfl,rfl⟩))
    (focus
      intro w' hS
      obtain⟨HB,T1,C1,N1,RF⟩:=hS;obtain⟨i1,i2,i3,j1,j2,j3⟩:=T1.f3;obtain⟨a0,a1,a2,a3,a4,a5,a6,a7,a8⟩:=C1.c9;obtain⟨k0,k1,k2,k3,k4⟩:=RF.fldL HF.out
      first
       |(refine(dX f.s c.g.s f.k f.l c.g.k c.g.l true HR.out _).mono ?_;rintro e w1 ⟨rfl,hb⟩;exact⟨rfl,⟨(aB HB hb),(T1.below hb),(C1.below hb),(N1.below hb),(RF.below hb)⟩⟩))
    simp only[Act.put,J1,J3,J2]))
 refine RW.done (fun w' hS=>?_)
 obtain⟨HB,T1,C1,N1,RF⟩:=hS;obtain⟨i1,i2,i3,j1,j2,j3⟩:=T1.f3;obtain⟨a0,a1,a2,a3,a4,a5,a6,a7,a8⟩:=C1.c9;obtain⟨k0,k1,k2,k3,k4⟩:=RF.fldL HF.out
 go_upto_region 3 with fail
 have ow2:=aG own2 HB
 have ow3:=aG own3 HB
 have R2:=R1.below (HB.mono (Q7 h1 h2))
 have zz:=N1.lt
 obtain⟨cf0,cf1,cf2⟩:=dK l k f HF.out
 have gn1:g2≠w.heap.size:=by omega
 have gn2:g2≠w.heap.size+1:=by omega
 obtain⟨_,_,e1,_,_,_,_,rdx⟩:=ce ow2 (by omega)
 cases e1
 obtain⟨k1,f1⟩:=rdx _ _ cf1
 obtain⟨k2,f2⟩:=rdx _ _ cf2
 obtain⟨i1,i2,i3,j1,j2,j3⟩:=T1.f3
 obtain⟨a0,a1,a2,a3,a4,a5,a6,a7,a8⟩:=C1.c9
 clear own2 own3 R1 RF rdx cf0 cf1 cf2
 go_region
 have GR:w'.grownBy ((w'.setCell ⟨g2,k * 3+1,none⟩ (.int .i64 c.g.k)).setCell ⟨g2,k * 3+2,none⟩ (.int .i64 c.g.l)).drew (some g2):=⟨rfl,rfl,rfl,by simp[World.setCell],fun j hj hne=>(J5 _ _ _ _ (by rintro rfl;exact hne rfl)).trans (J5 _ _ _ _ (by rintro rfl;exact hne rfl))⟩
 have ow2':((w'.setCell ⟨g2,k * 3+1,none⟩ (.int .i64 c.g.k)).setCell ⟨g2,k * 3+2,none⟩ (.int .i64 c.g.l)).drew.ownsRow b1 68 3 (.slice (some ⟨g2,0,none⟩) m d2) m (((aC l).set (k * 3+1) (.int .i64 c.g.k)).set (k * 3+2) (.int .i64 c.g.l)):=ew (ew ow2 _ _) _ _
 have T2:=T1.grown GR (by intro e;have:=Jj e;omega)
 have N2:=N1.grown GR (by intro e;have:=Jj e;omega)
 have ow3':=cY ow3 GR (by intro g hg e;have e1:g3=g:=Jj hg;have e2:=Jj e;omega)
 have R3:=R2.grown GR (by omega) (fun g hg=>by have hh:=Jj hg;omega)
 have HB2:aO (some g2) (some g3) w _:=(aO.of HB).grown GR (.inl rfl)
 clear GR ow2 ow3 R2 HB T1 N1 C1 i1 i2 i3 j1 j2 j3 a0 a1 a2 a3 a4 a5 a6 a7 a8 k1 k2 f1 f2
 obtain⟨p1,p2,p3,q1,q2,q3⟩:=T2.f3
 obtain⟨s1,s2,s3,u1,u2,u3⟩:=N2.f3
 generalize ((w'.setCell ⟨g2,k * 3+1,none⟩ (.int .i64 c.g.k)).setCell ⟨g2,k * 3+2,none⟩ (.int .i64 c.g.l)).drew=W5 at *
 go_wp2
 refine Xx (v:=.tuple #[.agg #[.slice B m d,.slice (some ⟨g2,0,none⟩) m d2,.slice (some ⟨g3,0,none⟩) m d3],.int .i64 0]) (by simp[results,Tryz.results139,go_sem, *];done) rfl ⟨_,_,_,_,_,_,_,_,_,rfl,fun _=>?_,?_⟩
 ·refine nr (t:=⟨l,l.set k ⟨f.s,c.g.k,c.g.l⟩,kM m⟩) HM.out (gm.rd (R3.below ?_)) HP1.out (ag (aN ow2' fun g hg=>?_) rfl (sm HF.out c.g.k c.g.l).symm) (by show(l.set k _).length=m;rw[List.length_set,HM.out]) (fun g hg=>HP2.out g hg) (aN ow3' fun g hg=>?_) (aP m) (fun g hg=>HP3.out g hg)
  ·exact(((Jy b1 _).setCell (by show b1<=w.heap.size+2;omega) _).setCell (by show b1<=w.heap.size+2;omega) _).setCell (by show b1<=w.heap.size+2;omega) _
  ·have e1:g2=g:=Jj hg
   exact(J5 _ _ _ _ (by show g≠w.heap.size+2;omega)).trans ((J5 _ _ _ _ (by show g≠w.heap.size+2;omega)).trans (J5 _ _ _ _ (by show g≠w.heap.size+2;omega)))
  ·have e1:g3=g:=Jj hg
   exact(J5 _ _ _ _ (by show g≠w.heap.size+2;omega)).trans ((J5 _ _ _ _ (by show g≠w.heap.size+2;omega)).trans (J5 _ _ _ _ (by show g≠w.heap.size+2;omega)))
 ·exact((HB2.setCell (by show w.heap.size<=w.heap.size+2;omega) _).setCell (by show w.heap.size<=w.heap.size+2;omega) _).setCell (by show w.heap.size<=w.heap.size+2;omega) _
theorem kE (fn:Fn) (first cap:Array ER) (w:EQ):Calls Tryz.prog 136 #[.func fn first cap] w fun e w'=>e=.returned (.func (.func 161) #[] #[.pointer (some ⟨w.heap.size,0,none⟩)])/\w'=w.alloc (.cells #[.func fn first cap] 205):=by
 have hmf:∀(fn:Fn) (first cap:Array ER) (w:EQ),(Instr.makeFunc fn first cap).run Tryz.prog w=.ok (.func fn first cap) w:=fun _ _ _ _=>rfl
 go_enter Tryz.func136,Tryz.ntmps136
 go_wp2
 go_ret
 exact⟨rfl,rfl⟩
theorem zx (l:List Fd) (c:Ch) (m:Nat) (hm:l.length=m) (h16:m<=16) (B:EL) (d b1 b2:Nat) (v2 v3 qv:ER) (w:EQ) (h1:b1<=b2) (h2:b2<=w.heap.size) (R1:gm b1 w B (aC l)) (own2:w.ownsRow b1 68 3 v2 m (aC l)) (lt2:cO b2 v2) (own3:w.ownsRow b2 137 4 v3 m (aJ (kM m))) (P:Nat->Prop) (hP1:∀ad,B=some ad->P ad.block) (hP2:∀g,v2.ownBlock=some g->P g) (hP3:∀g,v3.ownBlock=some g->P g) (hPn:∀g,w.heap.size<=g->P g) (bp:Nat) (F:ER) (hfn:w.cell? ⟨bp,0,none⟩=some F) (hz:aW l c.s<0):
 Calls Tryz.prog 161 #[.agg #[.slice B m d,v2,v3],.agg #[.int .i64 c.op,.string c.s,.string c.g.s,.int .i64 c.g.k,.int .i64 c.g.l,.int .i64 c.d.k,.int .u64 c.d.b,.string c.d.t,qv],.pointer (some ⟨bp,0,none⟩)] w fun e w'=>dZ v2.ownBlock v3.ownBlock P Tb.z 61 w e w':=by
 obtain⟨z,hzz⟩:∃z,aW l c.s=z:=⟨_,rfl⟩
 rw[hzz] at hz
 have hd:decide (z<0)=true:=by simpa using hz
 obtain⟨B2,d2,rfl,hd2,hmx2,rd2⟩:=aL own2
 obtain⟨B3,d3,rfl,hd3,hmx3,rd3⟩:=aL own3
 obtain⟨T1,C1,N1,HB⟩:=cQ (.slice B m d) (.slice B2 m d2) (.slice B3 m d3) c qv w
 obtain⟨i1,i2,i3,j1,j2,j3⟩:=T1.f3
 obtain⟨n1,n2,n3,o1,o2,o3⟩:=N1.f3
 obtain⟨a0,a1,a2,a3,a4,a5,a6,a7,a8⟩:=C1.c9
 have HM:=J0 hm
 have HP1:=J0 hP1
 have HP2:=J0 hP2
 have HP3:=J0 hP3
 have HPN:=J0 hPn
 clear hm hP1 hP2 hP3 hPn
 have HZ:=J0 hzz
 have RO:=R1.rd.below HB
 clear hzz hz own2 own3 R1 rd2 rd3
 go_enter Tryz.func161,Tryz.ntmps161
 go_wp2_with (go_at_call 96;refine(mr B d m l HM.out c.s z HZ.out _ RO (by omega)).mono ?_;rintro e wM ⟨rfl,hb⟩;replace HB:=HB.trans (hb.mono HB.size);replace T1:=T1.below hb;replace C1:=C1.below hb;replace N1:=N1.below hb;clear hb i1 i2 i3 j1 j2 j3 n1 n2 n3 o1 o2 o3 a0 a1 a2 a3 a4 a5 a6 a7 a8;obtain⟨i1,i2,i3,j1,j2,j3⟩:=T1.f3;obtain⟨n1,n2,n3,o1,o2,o3⟩:=N1.f3;obtain⟨a0,a1,a2,a3,a4,a5,a6,a7,a8⟩:=C1.c9;have hfn2:=aE (B:=0) HB hfn)
 refine Xx (v:=.tuple #[.agg #[.slice B m d,.slice B2 m d2,.slice B3 m d3],.int .i64 61]) (by simp[results,Tryz.results161,go_sem, *];done) rfl ⟨_,_,_,_,_,_,_,_,_,rfl,fun h=>absurd h (by decide),aO.of ?_⟩
 (repeat (first|exact HB|refine J8 ?_ (by dsimp only;omega) _|refine Jk ?_ (by have:=HB.size;(try simp) <;> omega) _|apply Jv))
theorem tX (l:List Fd) (c:Ch) (m:Nat) (hm:l.length=m) (h16:m<=16) (B:EL) (d b1 b2:Nat) (v2 v3 qv:ER) (w:EQ) (h1:b1<=b2) (h2:b2<=w.heap.size) (R1:gm b1 w B (aC l)) (own2:w.ownsRow b1 68 3 v2 m (aC l)) (lt2:cO b2 v2) (own3:w.ownsRow b2 137 4 v3 m (aJ (kM m))) (P:Nat->Prop) (hP1:∀ad,B=some ad->P ad.block) (hP2:∀g,v2.ownBlock=some g->P g) (hP3:∀g,v3.ownBlock=some g->P g) (hPn:∀g,w.heap.size<=g->P g) (bp:Nat) (hfn:w.cell? ⟨bp,0,none⟩=some (.func (.func 137) #[] #[])) (k:Nat) (hz:aW l c.s=k)  :
 Calls Tryz.prog 161 #[.agg #[.slice B m d,v2,v3],.agg #[.int .i64 c.op,.string c.s,.string c.g.s,.int .i64 c.g.k,.int .i64 c.g.l,.int .i64 c.d.k,.int .u64 c.d.b,.string c.d.t,qv],.pointer (some ⟨bp,0,none⟩)] w fun e w'=>dZ v2.ownBlock v3.ownBlock P ⟨l,l.eraseIdx k,(kM m).eraseIdx k⟩ 0 w e w':=by
 have hk:k<m:=by have:=eE l c.s;omega
 obtain⟨B2,d2,rfl,hd2,hmx2,rd2⟩:=aL own2
 obtain⟨B3,d3,rfl,hd3,hmx3,rd3⟩:=aL own3
 obtain⟨T1,C1,N1,HB⟩:=cQ (.slice B m d) (.slice B2 m d2) (.slice B3 m d3) c qv w
 obtain⟨i1,i2,i3,j1,j2,j3⟩:=T1.f3
 obtain⟨n1,n2,n3,o1,o2,o3⟩:=N1.f3
 obtain⟨a0,a1,a2,a3,a4,a5,a6,a7,a8⟩:=C1.c9
 have HM:=J0 hm
 have HP1:=J0 hP1
 have HP2:=J0 hP2
 have HP3:=J0 hP3
 have HPN:=J0 hPn
 clear hm hP1 hP2 hP3 hPn
 have HZ:=J0 hz
 have RO:=R1.rd.below HB
 have l3:=aY own3
 have hbl:Hid (∀ad,B=some ad->ad.block<w.heap.size):=J0 (fun ad e=>by
  obtain⟨ad',e',hlt,_⟩:=R1 (by intro e;have:=congrArg List.length e;rw[eC,HM.out] at this;simp at this;omega)
  rw[e] at e';cases e';omega)
 have hnn:decide ((k:Int)<0)=false:=by simp
 clear hz rd2 rd3
 go_enter Tryz.func161,Tryz.ntmps161
 go_wp2_with (first
  |(go_at_call 96;refine(mr B d m l HM.out c.s k HZ.out _ RO (by omega)).mono ?_;rintro e wM ⟨rfl,hb⟩;replace HB:=HB.trans (hb.mono HB.size);replace T1:=T1.below hb;replace C1:=C1.below hb;replace N1:=N1.below hb;clear hb i1 i2 i3 j1 j2 j3 n1 n2 n3 o1 o2 o3 a0 a1 a2 a3 a4 a5 a6 a7 a8;obtain⟨i1,i2,i3,j1,j2,j3⟩:=T1.f3;obtain⟨n1,n2,n3,o1,o2,o3⟩:=N1.f3;obtain⟨a0,a1,a2,a3,a4,a5,a6,a7,a8⟩:=C1.c9;have hfn2:=aE (B:=0) HB hfn)
  |(go_at_call 137;refine(Bs l c m HM.out h16 B d b1 b2 _ _ qv wM h1 (by have:=HB.size;omega) (R1.below (HB.mono (Q7 h1 h2))) (aG own2 HB) lt2 (aG own3 HB) (fun g=>(P g/\g<w.heap.size)\/wM.heap.size<=g) (fun ad e=>.inl ⟨HP1.out ad e,hbl.out ad e⟩) (fun g hg=>.inl ⟨HP2.out g hg,by have:=lt2 g hg;omega⟩) (fun g hg=>.inl ⟨HP3.out g hg,l3 g hg⟩) (fun g hg=>.inr hg) k hk).mono ?_))
 rintro e W5 ⟨X0,y0,z0,X1,y1,z1,X2,y2,z2,rfl,hTV,hO⟩
 have HT:=J0 hTV
 clear hTV
 have zz:=N1.lt
 have N5:=N1.only hO (by intro e;have:=lt2 _ e.symm;omega) (by intro e;have:=l3 _ e.symm;omega)
 clear i1 i2 i3 j1 j2 j3 n1 n2 n3 o1 o2 o3 a0 a1 a2 a3 a4 a5 a6 a7 a8
 obtain⟨n1,n2,n3,o1,o2,o3⟩:=N5.f3
 go_wp2
 refine Xx (v:=.tuple #[.agg #[.slice X0 y0 z0,.slice X1 y1 z1,.slice X2 y2 z2],.int .i64 0]) (by simp[results,Tryz.results161,go_sem, *];done) rfl ⟨_,_,_,_,_,_,_,_,_,rfl,fun h=>?_,?_⟩
 ·refine((HT.out (by first|exact h|trivial)).keep (fun g hg=>?_)).mono (fun g hg=>?_)
  ·have hne:g≠w.heap.size+2:=by rcases hg with hg|hg <;> omega
   exact(J5 _ _ _ _ hne).trans ((J5 _ _ _ _ hne).trans (J5 _ _ _ _ hne))
  ·rcases hg with hg|hg
   ·exact hg.1
   ·exact HPN.out g (by omega)
 ·exact((((aO.of HB).then hO).setCell (by show w.heap.size<=w.heap.size+2;omega) _).setCell (by show w.heap.size<=w.heap.size+2;omega) _).setCell (by show w.heap.size<=w.heap.size+2;omega) _
theorem pI (l:List Fd) (c:Ch) (m:Nat) (hm:l.length=m) (h16:m<=16) (B:EL) (d b1 b2:Nat) (v2 v3 qv:ER) (w:EQ) (h1:b1<=b2) (h2:b2<=w.heap.size) (R1:gm b1 w B (aC l)) (own2:w.ownsRow b1 68 3 v2 m (aC l)) (lt2:cO b2 v2) (own3:w.ownsRow b2 137 4 v3 m (aJ (kM m))) (P:Nat->Prop) (hP1:∀ad,B=some ad->P ad.block) (hP2:∀g,v2.ownBlock=some g->P g) (hP3:∀g,v3.ownBlock=some g->P g) (hPn:∀g,w.heap.size<=g->P g) (bp:Nat) (hfn:w.cell? ⟨bp,0,none⟩=some (.func (.func 138) #[] #[])) (k:Nat) (hz:aW l c.s=k) (f:Fd) (hf:l[k]?=some f):
 Calls Tryz.prog 161 #[.agg #[.slice B m d,v2,v3],.agg #[.int .i64 c.op,.string c.s,.string c.g.s,.int .i64 c.g.k,.int .i64 c.g.l,.int .i64 c.d.k,.int .u64 c.d.b,.string c.d.t,qv],.pointer (some ⟨bp,0,none⟩)] w fun e w'=>dZ v2.ownBlock v3.ownBlock P ⟨l,l.set k ⟨c.g.s,f.k,f.l⟩,kM m⟩ 0 w e w':=by
 have hk:k<m:=by have:=eE l c.s;omega
 obtain⟨B2,d2,rfl,hd2,hmx2,rd2⟩:=aL own2
 obtain⟨B3,d3,rfl,hd3,hmx3,rd3⟩:=aL own3
 obtain⟨T1,C1,N1,HB⟩:=cQ (.slice B m d) (.slice B2 m d2) (.slice B3 m d3) c qv w
 obtain⟨i1,i2,i3,j1,j2,j3⟩:=T1.f3
 obtain⟨n1,n2,n3,o1,o2,o3⟩:=N1.f3
 obtain⟨a0,a1,a2,a3,a4,a5,a6,a7,a8⟩:=C1.c9
 have HM:=J0 hm
 have HP1:=J0 hP1
 have HP2:=J0 hP2
 have HP3:=J0 hP3
 have HPN:=J0 hPn
 clear hm hP1 hP2 hP3 hPn
 have HZ:=J0 hz
 have RO:=R1.rd.below HB
 have l3:=aY own3
 have hbl:Hid (∀ad,B=some ad->ad.block<w.heap.size):=J0 (fun ad e=>by
  obtain⟨ad',e',hlt,_⟩:=R1 (by intro e;have:=congrArg List.length e;rw[eC,HM.out] at this;simp at this;omega)
  rw[e] at e';cases e';omega)
 have hnn:decide ((k:Int)<0)=false:=by simp
 clear hz rd2 rd3
 go_enter Tryz.func161,Tryz.ntmps161
 go_wp2_with (first
  |(go_at_call 96;refine(mr B d m l HM.out c.s k HZ.out _ RO (by omega)).mono ?_;rintro e wM ⟨rfl,hb⟩;replace HB:=HB.trans (hb.mono HB.size);replace T1:=T1.below hb;replace C1:=C1.below hb;replace N1:=N1.below hb;clear hb i1 i2 i3 j1 j2 j3 n1 n2 n3 o1 o2 o3 a0 a1 a2 a3 a4 a5 a6 a7 a8;obtain⟨i1,i2,i3,j1,j2,j3⟩:=T1.f3;obtain⟨n1,n2,n3,o1,o2,o3⟩:=N1.f3;obtain⟨a0,a1,a2,a3,a4,a5,a6,a7,a8⟩:=C1.c9;have hfn2:=aE (B:=0) HB hfn)
  |(go_at_call 138;refine(yO l c m HM.out h16 B d b1 b2 _ _ qv wM h1 (by have:=HB.size;omega) (R1.below (HB.mono (Q7 h1 h2))) (aG own2 HB) lt2 (aG own3 HB) (fun g=>(P g/\g<w.heap.size)\/wM.heap.size<=g) (fun ad e=>.inl ⟨HP1.out ad e,hbl.out ad e⟩) (fun g hg=>.inl ⟨HP2.out g hg,by have:=lt2 g hg;omega⟩) (fun g hg=>.inl ⟨HP3.out g hg,l3 g hg⟩) (fun g hg=>.inr hg) k f hf).mono ?_))
 rintro e W5 ⟨X0,y0,z0,X1,y1,z1,X2,y2,z2,rfl,hTV,hO⟩
 have HT:=J0 hTV
 clear hTV
 have zz:=N1.lt
 have N5:=N1.only hO (by intro e;have:=lt2 _ e.symm;omega) (by intro e;have:=l3 _ e.symm;omega)
 clear i1 i2 i3 j1 j2 j3 n1 n2 n3 o1 o2 o3 a0 a1 a2 a3 a4 a5 a6 a7 a8
 obtain⟨n1,n2,n3,o1,o2,o3⟩:=N5.f3
 go_wp2
 refine Xx (v:=.tuple #[.agg #[.slice X0 y0 z0,.slice X1 y1 z1,.slice X2 y2 z2],.int .i64 0]) (by simp[results,Tryz.results161,go_sem, *];done) rfl ⟨_,_,_,_,_,_,_,_,_,rfl,fun h=>?_,?_⟩
 ·refine((HT.out (by first|exact h|trivial)).keep (fun g hg=>?_)).mono (fun g hg=>?_)
  ·have hne:g≠w.heap.size+2:=by rcases hg with hg|hg <;> omega
   exact(J5 _ _ _ _ hne).trans ((J5 _ _ _ _ hne).trans (J5 _ _ _ _ hne))
  ·rcases hg with hg|hg
   ·exact hg.1
   ·exact HPN.out g (by omega)
 ·exact((((aO.of HB).then hO).setCell (by show w.heap.size<=w.heap.size+2;omega) _).setCell (by show w.heap.size<=w.heap.size+2;omega) _).setCell (by show w.heap.size<=w.heap.size+2;omega) _
theorem kg (l:List Fd) (c:Ch) (m:Nat) (hm:l.length=m) (h16:m<=16) (B:EL) (d b1 b2:Nat) (v2 v3 qv:ER) (w:EQ) (h1:b1<=b2) (h2:b2<=w.heap.size) (R1:gm b1 w B (aC l)) (own2:w.ownsRow b1 68 3 v2 m (aC l)) (lt2:cO b2 v2) (own3:w.ownsRow b2 137 4 v3 m (aJ (kM m))) (P:Nat->Prop) (hP1:∀ad,B=some ad->P ad.block) (hP2:∀g,v2.ownBlock=some g->P g) (hP3:∀g,v3.ownBlock=some g->P g) (hPn:∀g,w.heap.size<=g->P g) (bp:Nat) (hfn:w.cell? ⟨bp,0,none⟩=some (.func (.func 139) #[] #[])) (k:Nat) (hz:aW l c.s=k) (f:Fd) (hf:l[k]?=some f) (hr:aU f.k f.l c.g.k c.g.l=true):
 Calls Tryz.prog 161 #[.agg #[.slice B m d,v2,v3],.agg #[.int .i64 c.op,.string c.s,.string c.g.s,.int .i64 c.g.k,.int .i64 c.g.l,.int .i64 c.d.k,.int .u64 c.d.b,.string c.d.t,qv],.pointer (some ⟨bp,0,none⟩)] w fun e w'=>dZ v2.ownBlock v3.ownBlock P ⟨l,l.set k ⟨f.s,c.g.k,c.g.l⟩,kM m⟩ 0 w e w':=by
 have hk:k<m:=by have:=eE l c.s;omega
 obtain⟨B2,d2,rfl,hd2,hmx2,rd2⟩:=aL own2
 obtain⟨B3,d3,rfl,hd3,hmx3,rd3⟩:=aL own3
 obtain⟨T1,C1,N1,HB⟩:=cQ (.slice B m d) (.slice B2 m d2) (.slice B3 m d3) c qv w
 obtain⟨i1,i2,i3,j1,j2,j3⟩:=T1.f3
 obtain⟨n1,n2,n3,o1,o2,o3⟩:=N1.f3
 obtain⟨a0,a1,a2,a3,a4,a5,a6,a7,a8⟩:=C1.c9
 have HM:=J0 hm
 have HP1:=J0 hP1
 have HP2:=J0 hP2
 have HP3:=J0 hP3
 have HPN:=J0 hPn
 clear hm hP1 hP2 hP3 hPn
 have HZ:=J0 hz
 have RO:=R1.rd.below HB
 have l3:=aY own3
 have hbl:Hid (∀ad,B=some ad->ad.block<w.heap.size):=J0 (fun ad e=>by
  obtain⟨ad',e',hlt,_⟩:=R1 (by intro e;have:=congrArg List.length e;rw[eC,HM.out] at this;simp at this;omega)
  rw[e] at e';cases e';omega)
 have hnn:decide ((k:Int)<0)=false:=by simp
 clear hz rd2 rd3
 go_enter Tryz.func161,Tryz.ntmps161
 go_wp2_with (first
  |(go_at_call 96;refine(mr B d m l HM.out c.s k HZ.out _ RO (by omega)).mono ?_;rintro e wM ⟨rfl,hb⟩;replace HB:=HB.trans (hb.mono HB.size);replace T1:=T1.below hb;replace C1:=C1.below hb;replace N1:=N1.below hb;clear hb i1 i2 i3 j1 j2 j3 n1 n2 n3 o1 o2 o3 a0 a1 a2 a3 a4 a5 a6 a7 a8;obtain⟨i1,i2,i3,j1,j2,j3⟩:=T1.f3;obtain⟨n1,n2,n3,o1,o2,o3⟩:=N1.f3;obtain⟨a0,a1,a2,a3,a4,a5,a6,a7,a8⟩:=C1.c9;have hfn2:=aE (B:=0) HB hfn)
  |(go_at_call 139;refine(uG l c m HM.out h16 B d b1 b2 _ _ qv wM h1 (by have:=HB.size;omega) (R1.below (HB.mono (Q7 h1 h2))) (aG own2 HB) lt2 (aG own3 HB) (fun g=>(P g/\g<w.heap.size)\/wM.heap.size<=g) (fun ad e=>.inl ⟨HP1.out ad e,hbl.out ad e⟩) (fun g hg=>.inl ⟨HP2.out g hg,by have:=lt2 g hg;omega⟩) (fun g hg=>.inl ⟨HP3.out g hg,l3 g hg⟩) (fun g hg=>.inr hg) k f hf hr).mono ?_))
 rintro e W5 ⟨X0,y0,z0,X1,y1,z1,X2,y2,z2,rfl,hTV,hO⟩
 have HT:=J0 hTV
 clear hTV
 have zz:=N1.lt
 have N5:=N1.only hO (by intro e;have:=lt2 _ e.symm;omega) (by intro e;have:=l3 _ e.symm;omega)
 clear i1 i2 i3 j1 j2 j3 n1 n2 n3 o1 o2 o3 a0 a1 a2 a3 a4 a5 a6 a7 a8
 obtain⟨n1,n2,n3,o1,o2,o3⟩:=N5.f3
 go_wp2
 refine Xx (v:=.tuple #[.agg #[.slice X0 y0 z0,.slice X1 y1 z1,.slice X2 y2 z2],.int .i64 0]) (by simp[results,Tryz.results161,go_sem, *];done) rfl ⟨_,_,_,_,_,_,_,_,_,rfl,fun h=>?_,?_⟩
 ·refine((HT.out (by first|exact h|trivial)).keep (fun g hg=>?_)).mono (fun g hg=>?_)
  ·have hne:g≠w.heap.size+2:=by rcases hg with hg|hg <;> omega
   exact(J5 _ _ _ _ hne).trans ((J5 _ _ _ _ hne).trans (J5 _ _ _ _ hne))
  ·rcases hg with hg|hg
   ·exact hg.1
   ·exact HPN.out g (by omega)
 ·exact((((aO.of HB).then hO).setCell (by show w.heap.size<=w.heap.size+2;omega) _).setCell (by show w.heap.size<=w.heap.size+2;omega) _).setCell (by show w.heap.size<=w.heap.size+2;omega) _
theorem lL (l:List Fd) (c:Ch) (m:Nat) (hm:l.length=m) (h16:m<=16) (B:EL) (d b1 b2:Nat) (v2 v3 qv:ER) (w:EQ) (h1:b1<=b2) (h2:b2<=w.heap.size) (R1:gm b1 w B (aC l)) (own2:w.ownsRow b1 68 3 v2 m (aC l)) (lt2:cO b2 v2) (own3:w.ownsRow b2 137 4 v3 m (aJ (kM m))) (P:Nat->Prop) (hP1:∀ad,B=some ad->P ad.block) (hP2:∀g,v2.ownBlock=some g->P g) (hP3:∀g,v3.ownBlock=some g->P g) (hPn:∀g,w.heap.size<=g->P g) (bp:Nat) (hfn:w.cell? ⟨bp,0,none⟩=some (.func (.func 139) #[] #[])) (k:Nat) (hz:aW l c.s=k) (f:Fd) (hf:l[k]?=some f) (hr:aU f.k f.l c.g.k c.g.l=false):
 Calls Tryz.prog 161 #[.agg #[.slice B m d,v2,v3],.agg #[.int .i64 c.op,.string c.s,.string c.g.s,.int .i64 c.g.k,.int .i64 c.g.l,.int .i64 c.d.k,.int .u64 c.d.b,.string c.d.t,qv],.pointer (some ⟨bp,0,none⟩)] w fun e w'=>dZ v2.ownBlock v3.ownBlock P Tb.z 80 w e w':=by
 have hk:k<m:=by have:=eE l c.s;omega
 obtain⟨B2,d2,rfl,hd2,hmx2,rd2⟩:=aL own2
 obtain⟨B3,d3,rfl,hd3,hmx3,rd3⟩:=aL own3
 obtain⟨T1,C1,N1,HB⟩:=cQ (.slice B m d) (.slice B2 m d2) (.slice B3 m d3) c qv w
 obtain⟨i1,i2,i3,j1,j2,j3⟩:=T1.f3
 obtain⟨n1,n2,n3,o1,o2,o3⟩:=N1.f3
 obtain⟨a0,a1,a2,a3,a4,a5,a6,a7,a8⟩:=C1.c9
 have HM:=J0 hm
 have HP1:=J0 hP1
 have HP2:=J0 hP2
 have HP3:=J0 hP3
 have HPN:=J0 hPn
 clear hm hP1 hP2 hP3 hPn
 have HZ:=J0 hz
 have RO:=R1.rd.below HB
 have l3:=aY own3
 have hbl:Hid (∀ad,B=some ad->ad.block<w.heap.size):=J0 (fun ad e=>by
  obtain⟨ad',e',hlt,_⟩:=R1 (by intro e;have:=congrArg List.length e;rw[eC,HM.out] at this;simp at this;omega)
  rw[e] at e';cases e';omega)
 have hnn:decide ((k:Int)<0)=false:=by simp
 clear hz rd2 rd3
 go_enter Tryz.func161,Tryz.ntmps161
 go_wp2_with (first
  |(go_at_call 96;refine(mr B d m l HM.out c.s k HZ.out _ RO (by omega)).mono ?_;rintro e wM ⟨rfl,hb⟩;replace HB:=HB.trans (hb.mono HB.size);replace T1:=T1.below hb;replace C1:=C1.below hb;replace N1:=N1.below hb;clear hb i1 i2 i3 j1 j2 j3 n1 n2 n3 o1 o2 o3 a0 a1 a2 a3 a4 a5 a6 a7 a8;obtain⟨i1,i2,i3,j1,j2,j3⟩:=T1.f3;obtain⟨n1,n2,n3,o1,o2,o3⟩:=N1.f3;obtain⟨a0,a1,a2,a3,a4,a5,a6,a7,a8⟩:=C1.c9;have hfn2:=aE (B:=0) HB hfn)
  |(go_at_call 139;refine(vn l c m HM.out h16 B d b1 b2 _ _ qv wM h1 (by have:=HB.size;omega) (R1.below (HB.mono (Q7 h1 h2))) (aG own2 HB) lt2 (aG own3 HB) (fun g=>(P g/\g<w.heap.size)\/wM.heap.size<=g) (fun ad e=>.inl ⟨HP1.out ad e,hbl.out ad e⟩) (fun g hg=>.inl ⟨HP2.out g hg,by have:=lt2 g hg;omega⟩) (fun g hg=>.inl ⟨HP3.out g hg,l3 g hg⟩) (fun g hg=>.inr hg) k f hf hr).mono ?_))
 rintro e W5 ⟨X0,y0,z0,X1,y1,z1,X2,y2,z2,rfl,hTV,hO⟩
 have HT:=J0 hTV
 clear hTV
 have zz:=N1.lt
 have N5:=N1.only hO (by intro e;have:=lt2 _ e.symm;omega) (by intro e;have:=l3 _ e.symm;omega)
 clear i1 i2 i3 j1 j2 j3 n1 n2 n3 o1 o2 o3 a0 a1 a2 a3 a4 a5 a6 a7 a8
 obtain⟨n1,n2,n3,o1,o2,o3⟩:=N5.f3
 go_wp2
 refine Xx (v:=.tuple #[.agg #[.slice X0 y0 z0,.slice X1 y1 z1,.slice X2 y2 z2],.int .i64 80]) (by simp[results,Tryz.results161,go_sem, *];done) rfl ⟨_,_,_,_,_,_,_,_,_,rfl,fun h=>?_,?_⟩
 ·exact absurd h (by decide)
 ·exact((((aO.of HB).then hO).setCell (by show w.heap.size<=w.heap.size+2;omega) _).setCell (by show w.heap.size<=w.heap.size+2;omega) _).setCell (by show w.heap.size<=w.heap.size+2;omega) _
end
end Go.Proofs.YteembinfgbapgaaGreat
namespace Go.Proofs
open Go.Shelf
def Tryz.laysSort_ren:Go.Shelf.Ren:=⟨fun|5=>165|8=>101|7=>175|19=>151|20=>152|10=>179|11=>180|12=>181|13=>182|14=>183|15=>184|16=>185|17=>186|18=>187|30=>188|31=>167|32=>168|33=>189|34=>190|35=>191|40=>192|n=>n,fun|23=>29|25=>3|3=>3|32=>180|22=>29|0=>0|44=>218|46=>69|4=>4|36=>210|35=>209|41=>215|5=>5|9=>9|53=>231|57=>235|63=>238|64=>239|n=>n,fun|n=>n⟩
theorem Tryz.laysSort:Go.Proofs.SlLaysM.n5 Tryz.prog Tryz.laysSort_ren:={
 mixed:=by kernel_rfl
 f5:=⟨Tryz.f165.name,by decide,Tryz.func165.trans (congrArg some (by kernel_rfl))⟩
 f7:=⟨Tryz.f175.name,by decide,Tryz.func175.trans (congrArg some (by kernel_rfl))⟩
 f8:=Tryz.func101.trans (congrArg some (by kernel_rfl))
 f10:=⟨Tryz.f179.name,by decide,Tryz.func179.trans (congrArg some (by kernel_rfl))⟩
 f11:=⟨Tryz.f180.name,by decide,Tryz.func180.trans (congrArg some (by kernel_rfl))⟩
 f12:=⟨Tryz.f181.name,by decide,Tryz.func181.trans (congrArg some (by kernel_rfl))⟩
 f13:=⟨Tryz.f182.name,by decide,Tryz.func182.trans (congrArg some (by kernel_rfl))⟩
 f14:=⟨Tryz.f183.name,by decide,Tryz.func183.trans (congrArg some (by kernel_rfl))⟩
 f15:=⟨Tryz.f184.name,by decide,Tryz.func184.trans (congrArg some (by kernel_rfl))⟩
 f16:=⟨Tryz.f185.name,by decide,Tryz.func185.trans (congrArg some (by kernel_rfl))⟩
 f17:=⟨Tryz.f186.name,by decide,Tryz.func186.trans (congrArg some (by kernel_rfl))⟩
 f18:=⟨Tryz.f187.name,by decide,Tryz.func187.trans (congrArg some (by kernel_rfl))⟩
 f19:=Tryz.func151.trans (congrArg some (by kernel_rfl))
 f20:=Tryz.func152.trans (congrArg some (by kernel_rfl))
 f30:=⟨Tryz.f188.name,by decide,Tryz.func188.trans (congrArg some (by kernel_rfl))⟩
 f31:=Tryz.func167.trans (congrArg some (by kernel_rfl))
 f32:=Tryz.func168.trans (congrArg some (by kernel_rfl))
 f33:=⟨Tryz.f189.name,by decide,Tryz.func189.trans (congrArg some (by kernel_rfl))⟩
 f34:=⟨Tryz.f190.name,by decide,Tryz.func190.trans (congrArg some (by kernel_rfl))⟩
 f35:=⟨Tryz.f191.name,by decide,Tryz.func191.trans (congrArg some (by kernel_rfl))⟩
 f40:=⟨Tryz.f192.name,by decide,Tryz.func192.trans (congrArg some (by kernel_rfl))⟩
 t0:=Tryz.underlying0
 a0:=Tryz.isAgg0
 z0:=Tryz.sizeOf0
 v0:=Tryz.zeroValue0
 t3:=Tryz.underlying3
 a3:=Tryz.isAgg3
 z3:=Tryz.sizeOf3
 v3:=Tryz.zeroValue3
 t4:=Tryz.underlying4
 a4:=Tryz.isAgg4
 z4:=Tryz.sizeOf4
 v4:=Tryz.zeroValue4
 t5:=Tryz.underlying5
 a5:=Tryz.isAgg5
 z5:=Tryz.sizeOf5
 v5:=Tryz.zeroValue5
 t9:=Tryz.underlying9
 a9:=Tryz.isAgg9
 z9:=Tryz.sizeOf9
 v9:=Tryz.zeroValue9
 t22:=Tryz.underlying29
 a22:=Tryz.isAgg29
 z22:=Tryz.sizeOf29
 v22:=Tryz.zeroValue29
 t23:=Tryz.underlying29
 a23:=Tryz.isAgg29
 z23:=Tryz.sizeOf29
 v23:=Tryz.zeroValue29
 t25:=Tryz.underlying3
 a25:=Tryz.isAgg3
 z25:=Tryz.sizeOf3
 v25:=Tryz.zeroValue3
 t32:=Tryz.underlying180
 a32:=Tryz.isAgg180
 z32:=Tryz.sizeOf180
 v32:=Tryz.zeroValue180
 t35:=Tryz.underlying209
 a35:=Tryz.isAgg209
 z35:=Tryz.sizeOf209
 v35:=Tryz.zeroValue209
 t36:=Tryz.underlying210
 a36:=Tryz.isAgg210
 z36:=Tryz.sizeOf210
 v36:=Tryz.zeroValue210
 t41:=Tryz.underlying215
 a41:=Tryz.isAgg215
 z41:=Tryz.sizeOf215
 v41:=Tryz.zeroValue215
 t44:=Tryz.underlying218
 a44:=Tryz.isAgg218
 z44:=Tryz.sizeOf218
 v44:=Tryz.zeroValue218
 t46:=Tryz.underlying69
 a46:=Tryz.isAgg69
 z46:=Tryz.sizeOf69
 v46:=Tryz.zeroValue69
 t53:=Tryz.underlying231
 a53:=Tryz.isAgg231
 z53:=Tryz.sizeOf231
 v53:=Tryz.zeroValue231
 t57:=Tryz.underlying235
 a57:=Tryz.isAgg235
 z57:=Tryz.sizeOf235
 v57:=Tryz.zeroValue235
 t63:=Tryz.underlying238
 a63:=Tryz.isAgg238
 z63:=Tryz.sizeOf238
 v63:=Tryz.zeroValue238
 t64:=Tryz.underlying239
 a64:=Tryz.isAgg239
 z64:=Tryz.sizeOf239
 v64:=Tryz.zeroValue239 }
end Go.Proofs
namespace Go.Proofs.YteembinfgbapgaaGreat
section
open Go.RowKit Go.Lib Go.Sort Go.Shelf
def aV (q:List Int):EO:=q.map (Value.int .i64)
theorem jk (q:List Int):(aV q).length=q.length:=by simp[aV]
theorem DT:(Tryz.prog.info? 3).map (fun i=>(i.zero,i.size,i.bytes))=some (some (.int .i64 0),1,8):=by kernel_rfl
theorem sB (A:EL) (c n:Nat) (q:List Int) (hn:q.length=n) (w:EQ) (hA:Rd w A (aV q)) (hl:n<=17592186044415) (hlc:n<=c):
 Calls Tryz.prog 164 #[.slice A n c] w fun e w'=>∃B d,e=.returned (.slice B n d)/\w'.ownsRow w.heap.size 3 1 (.slice B n d) n (aV q)/\Below w.heap.size w w':=by
 obtain⟨i0,hi,hz0,hz1,hz2⟩:=info_parts DT
 cases A with
 |none=>
  obtain rfl:q=[]:=by
   cases q with
   |nil=>rfl
   |cons x r=>obtain⟨ad,e,_⟩:=hA (by simp[aV]);cases e
  have heq:∀w:EQ,(binOp .eql 29 (.slice none n c) (.slice none 0 0)).run Tryz.prog w=.ok (.bool true) w:=fun w=>Lib.run_eql_slice_nil (P:=Tryz.prog) w 29 3 none n c 0 0 Tryz.underlying29
  obtain rfl:n=0:=hn.symm
  go_enter Tryz.func164,Tryz.ntmps164
  go_wp2
  go_ret
  exact⟨none,0,rfl,ai _ _ _ _,Jy _ _⟩
 |some ad=>
  have heq:∀w:EQ,(binOp .eql 29 (.slice (some ad) n c) (.slice none 0 0)).run Tryz.prog w=.ok (.bool false) w:=fun w=>Lib.run_eql_slice_nil (P:=Tryz.prog) w 29 3 (some ad) n c 0 0 Tryz.underlying29
  have hown:(w.alloc (.cells #[] 3)).ownsRow w.heap.size 3 1 (.slice (some ⟨w.heap.size,0,none⟩) 0 0) 0 []:=⟨rfl,.inr ⟨_,0,#[],rfl,J9 _,Y7 _ _,J9 _,X6 _,rfl,rfl⟩⟩
  have hA2:=hA.below (aA (.cells #[] 3))
  go_enter Tryz.func164,Tryz.ntmps164
  go_wp2_with (at_builtin;refine Y5 _ rfl _ _ 29 rfl w.heap.size 3 i0 (.int .i64 0) 1 8 Tryz.underlying29 hi hz0 hz1 hz2 rfl (by decide) _ _ _ rfl hown ad n c (aV q) rfl ?c0 ?c1 ?c2 ?c3 ?c4 ?c5 ?_)
  case c0=>rw[jk];omega
  case c1=>
   intro j u hj
   obtain⟨ad',e,h⟩:=hA2 (by rintro e;rw[e] at hj;simp at hj)
   cases e;exact h j u hj
  case c2=>
   intro u hu
   simp only[aV,Vy] at hu
   obtain⟨f,_,rfl⟩:=hu
   rfl
  case c3=>simp only[maxLen];omega
  case c4=>omega
  case c5=>simp
  intro v' w1 hown' hgrow _
  have hB:=(aA (w:=w) (.cells #[] 3)).grown hgrow (by simp) (fun q hq=>aF hown q hq)
  obtain⟨B,d,rfl,_,_,_⟩:=aL hown'
  clear hown hgrow
  go_wp2
  go_ret
  exact⟨B,d,by simp,by simpa using hown',hB⟩
theorem wJ (base n:Nat) (q:List Int) (hn:q.length=n) (v:ER) (w:EQ) (ho:w.ownsRow base 3 1 v n (aV q)) (hl:n<4611686018427387904):
 Calls Tryz.prog 165 #[v] w fun e w'=>e=.returned (.tuple #[])/\w'.ownsRow base 3 1 v n (aV (q.mergeSort fun x y=>decide (x<=y)))/\w.grownBy w' v.ownBlock:=by
 subst hn
 have ho':=ho
 rcases ho.2 with ⟨rfl,h0⟩|⟨g,cap,cur,rfl,hb,hg,hc,hm,hs,ht⟩
 ·obtain rfl:q=[]:=List.eq_nil_of_length_eq_zero h0
  refine(AnyM.slices_Sort_int_none Tryz.laysSort none 0 w).mono ?_
  rintro e w' ⟨rfl,rfl⟩
  exact⟨rfl,by simpa using ho',rfl,rfl,rfl,J9 _,fun _ _ _=>rfl⟩
 ·have hlt:g<w.heap.size:=(Qq.1 hg).1
  refine(AnyM.slices_Sort_int Tryz.laysSort g 0 cap q w (holds_of_blockI hg (by rw[Nat.mul_one] at ht;exact ht)) hlt (by omega)).mono ?_
  rintro e w' ⟨rfl,k,os,rfl⟩
  exact⟨rfl,ownsRow_sortedI (by rw[List.length_mergeSort]) hb hg hc hm hs,grownBy_sortedI _⟩
theorem ij {P:Program} {ops:Array Oper} {o:Oper} {a:Act} {w:EQ} {K:Act->EQ->Prop} {Q:Exit->Act->EQ->Prop} {E:Prop}
 (hg:o.guard=none) (s x:Operand) (t:ES) (hop:o.op=Op.call { callee:=Callee.builtin Builtin.append,args:=#[s,x],argTypes:=#[t,t] })
 (base:Nat) (e:ES) (i:TypeInfo) (z:ER) (size bytes:Nat) (h1:P.underlying t=some (.slice e)) (h2:P.info? e=some i) (h3:i.zero=some z) (h4:i.size=size) (h5:i.bytes=bytes) (h6:z.cells.size=size) (h7:0<size)
 (v:ER) (n:Nat) (xs:EO) (hs:a.eval s=v) (hown:w.ownsRow base e size v n xs)
 (ad:Addr) (m c:Nat) (news:EO) (hx:a.eval x=.slice (some ad) m c) (hn:news.length=m * size) (hc:∀j u,news[j]?=some u->w.cell? (ad.add j)=some u) (h1c:∀u∈news,u.oneCell'=true)
 (b1:n+m<=maxLen) (b2:(n+m) * bytes<=140737488355328) (hbase:base<=w.heap.size)
 (hK:∀v' w',w'.ownsRow base e size v' (n+m) (xs++news)->w.grownBy w' v.ownBlock->(v'.ownBlock=v.ownBlock\/v'.ownBlock=some w.heap.size)->K (a.put o.dst v') w'):
 if Region.wanted o (yielded ops a.tmps)=true then Oper.wp P o a w K Q else E:=by
 have hw:Region.wanted o (yielded ops a.tmps)=true:=by simp[Region.wanted,hg]
 rw[Xz hw]
 obtain⟨v',w',hrun,r2,r3,_,r5⟩:=run_append_own_at (P:=P) w base t o.type e i z size bytes h1 h2 h3 h4 h5 h6 h7 v n xs hown ad m c news hn hc h1c b1 b2 hbase
 unfold Oper.wp
 simp[execOp,hop,resolve,invoke,builtin,hs,hx,hrun,Result.andThen]
 exact hK v' w' r2 r3 r5
theorem wt {n k:Nat} (h:k<n):(uH n)[k]?=some (k:Int):=by simp[uH,h]
theorem oW {q:List Int} {m:Nat}:fD q m=true↔q.length=m/\∀k:Nat,k<q.length->(q.mergeSort fun x y=>decide (x<=y))[k]?=some (k:Int):=by
 have hp:=List.mergeSort_perm q (fun x y=>decide (x<=y))
 constructor
 ·intro h
  have hl:=kl h
  refine⟨hl,fun k hk=>?_⟩
  have h1:(q.mergeSort fun x y=>decide (x<=y)).Perm (uH m):=hp.trans (Yv h)
  have h2:(q.mergeSort fun x y=>decide (x<=y))=uH m:=by
   refine List.Perm.eq_of_pairwise (le:=fun x y:Int=>x<=y) (fun a b _ _ h1 h2=>by omega) ?_ ?_ h1
   ·have:=List.pairwise_mergeSort (le:=fun x y:Int=>decide (x<=y)) (fun a b c h1 h2=>by simp at *;omega) (fun a b=>by simp;omega) q
    exact this.imp (fun h=>by simpa using h)
   ·unfold uH
    rw[List.pairwise_map]
    exact List.pairwise_lt_range.imp (fun h=>by omega)
  rw[h2]
  exact wt (by omega)
 ·rintro ⟨hl,h⟩
  have h2:(q.mergeSort fun x y=>decide (x<=y))=uH m:=by
   apply Xk
   intro k
   by_cases hk:k<q.length
   ·rw[h k hk,wt (by omega)]
   ·rw[Xv (by rw[List.length_mergeSort];omega),Xv (by rw[oQ];omega)]
  exact Yx (hp.symm.trans (by rw[h2]))
end
section
open Go.RowKit Go.Lib
theorem qA {w:EQ} {base n:Nat} {T:ES} {v:ER} {q:List Int} (h:w.ownsRow base T 1 v n (aV q)) {k:Nat} {x:Int} (hk:q[k]?=some x):∃ad c,v=.slice (some ad) n c/\w.cell? (ad.add k)=some (.int .i64 x):=by
 obtain⟨A,c,rfl,_,_,hr⟩:=aL h
 have:(aV q)[k]?=some (.int .i64 x):=by simp[aV,hk]
 obtain⟨ad,rfl,hc⟩:=hr.at this
 exact⟨ad,c,rfl,hc⟩
theorem yB (l:List Fd) (c:Ch) (m:Nat) (hm:l.length=m) (h16:m<=16) (B:EL) (d:Nat) (C2:EL) (e2 f2:Nat) (C3:EL) (e3 f3:Nat) (Q:EL) (n qc:Nat) (hn:c.q.length=n) (hn1:n<=17592186044415) (hqc:n<=qc) (w:EQ) (R1:Rd w B (aC l)) (RQ:Rd w Q (aV c.q)) (r2 r3:Option Nat) (P:Nat->Prop) (hP1:∀ad,B=some ad->P ad.block) (hPn:∀g,w.heap.size<=g->P g) (hq:fD c.q m=false):
 Calls Tryz.prog 140 #[.agg #[.slice B m d,.slice C2 e2 f2,.slice C3 e3 f3],.agg #[.int .i64 c.op,.string c.s,.string c.g.s,.int .i64 c.g.k,.int .i64 c.g.l,.int .i64 c.d.k,.int .u64 c.d.b,.string c.d.t,.slice Q n qc]] w fun e w'=>dZ r2 r3 P Tb.z 80 w e w':=by
 obtain⟨T1,C1,N1,HB⟩:=cQ (.slice B m d) (.slice C2 e2 f2) (.slice C3 e3 f3) c (.slice Q n qc) w
 obtain⟨i1,i2,i3,j1,j2,j3⟩:=T1.f3
 obtain⟨n1,n2,n3,o1,o2,o3⟩:=N1.f3
 obtain⟨a0,a1,a2,a3,a4,a5,a6,a7,a8⟩:=C1.c9
 have RQ1:=RQ.below HB
 have HM:=J0 hm
 have HN:=J0 hn
 have HQ:Hid (¬(n=m/\∀k:Nat,k<n->(c.q.mergeSort fun x y=>decide (x<=y))[k]?=some (k:Int))):=J0 (fun h=>by
  have:=(oW (q:=c.q) (m:=m)).2 (by rw[hn];exact h)
  rw[hq] at this;cases this)
 clear hm hn hq hP1 hPn
 go_enter Tryz.func140,Tryz.ntmps140
 go_wp2_with (go_at_call 164;refine(sB Q qc n c.q HN.out _ RQ1 hn1 hqc).mono ?_)
 rintro e W1 ⟨S,sc,rfl,own1,hb⟩
 replace HB:=HB.trans (hb.mono HB.size)
 replace T1:=T1.below hb
 replace C1:=C1.below hb
 replace N1:=N1.below hb
 have szc:=N1.lt
 have lt1:=aY own1
 have bs1:∀g,(Value.slice S n sc).ownBlock=some g->w.heap.size+2<g:=fun g hg=>by
  have:=aF own1 g hg;simp at this;omega
 clear hb i1 i2 i3 j1 j2 j3 n1 n2 n3 o1 o2 o3 a0 a1 a2 a3 a4 a5 a6 a7 a8 RQ1
 obtain⟨i1,i2,i3,j1,j2,j3⟩:=T1.f3
 obtain⟨a0,a1,a2,a3,a4,a5,a6,a7,a8⟩:=C1.c9
 go_wp2_with (go_at_call 165;refine(wJ _ n c.q HN.out _ _ own1 (by omega)).mono ?_)
 rintro e W2 ⟨rfl,own2,gr⟩
 have HB2:=HB.grown gr HB.size (fun g hg=>by have:=bs1 g hg;omega)
 have T2:=T1.grown gr (by intro e;have:=bs1 _ e.symm;omega)
 have C2':cx W2 _ c (.slice Q n qc) 76:=aD.grown C1 gr (by intro e;have:=bs1 _ e.symm;omega)
 have N2:=N1.grown gr (by intro e;have:=bs1 _ e.symm;omega)
 clear T1 C1 N1 HB own1 gr i1 i2 i3 j1 j2 j3 a0 a1 a2 a3 a4 a5 a6 a7 a8
 obtain⟨ss,hss⟩:∃ss,(c.q.mergeSort fun x y=>decide (x<=y))=ss:=⟨_,rfl⟩
 have hsl:ss.length=n:=by rw[<-hss,List.length_mergeSort,HN.out]
 rw[hss] at own2 HQ
 clear hss
 have HSL:=J0 hsl
 clear hsl
 have O:=aD.new W2 [.slice B m d,.slice none 0 0,.slice none 0 0] 96
 have nb:=aA (w:=W2) (.cells #[.slice B m d,.slice none 0 0,.slice none 0 0] 96)
 obtain⟨i1,i2,i3,j1,j2,j3⟩:=T2.f3
 replace T2:=T2.below nb
 have C3':=C2'.below nb
 have N3:=N2.below nb
 have own3:=aG own2 nb
 have HB3:=HB2.trans (nb.mono HB2.size)
 clear nb C2' N2 own2 HB2
 obtain⟨p1,p2,p3,q1,q2,q3⟩:=T2.f3
 obtain⟨n1,n2,n3,o1,o2,o3⟩:=N3.f3
 obtain⟨a0,a1,a2,a3,a4,a5,a6,a7,a8⟩:=C3'.c9
 go_wp2
 go_loopw [8,9,22] (fun _ _ i wr=>∃k:Nat,k<=n/\i=.int .i64 k/\wr=W2.alloc (.cells #[.slice B m d,.slice none 0 0,.slice none 0 0] 96)/\Hid (∀j:Nat,j<k->ss[j]?=some (j:Int))/\Hid (k=0\/n=m)) (fun _ _ i _=>n - (intOf i).toNat)
 case atStart=>exact⟨0,by omega,rfl,rfl,J0 (fun j hj=>by omega),J0 (.inl rfl)⟩
 case round=>
  obtain⟨k,hk,rfl,rfl,hall,h0⟩:=hrel
  by_cases hlt:k<n
  ·obtain⟨x,hx⟩:∃x,ss[k]?=some x:=⟨_,J4 (by rw[HSL.out];exact hlt)⟩
   obtain⟨ad,sc',e1,hc⟩:=qA own3 hx
   cases e1
   have hi0:(0:Int)<=(k:Int):=by omega
   have hi1:(k:Int)<(n:Int):=by omega
   by_cases hxk:x=(k:Int)
   ·have y1:(x != (k:Int))=false:=by simp[hxk]
    by_cases hnm:n=m
    ·have y2:((n:Int) != (m:Int))=false:=by simp[hnm]
     have hall2:Hid (∀j:Nat,j<k+1->ss[j]?=some (j:Int)):=J0 (fun j hj=>by
      rcases(by omega:j<k\/j=k) with h|rfl
      ·exact hall.out j h
      ·rw[hx,hxk])
     have h02:Hid (k+1=0\/n=m):=J0 (.inr hnm)
     clear hxk hnm hall h0 hx
     go_wp2
     go_roundw
     case rel=>exact⟨k+1,by omega,by go_num,by trivial,hall2,h02⟩
     case measure=>simp[intOf];omega
    ·have y2:((n:Int) != (m:Int))=true:=by simp;omega
     clear hxk hnm hall h0 hx
     go_wp2
     refine Xx (v:=.tuple #[.agg #[.slice B m d,.slice C2 e2 f2,.slice C3 e3 f3],.int .i64 80]) (by simp[results,Tryz.results140,go_sem, *];done) rfl ⟨_,_,_,_,_,_,_,_,_,rfl,fun h=>absurd h (by decide),aO.of ?_⟩
     exact((HB3.setCell (by show w.heap.size<=w.heap.size+2;omega) _).setCell (by show w.heap.size<=w.heap.size+2;omega) _).setCell (by show w.heap.size<=w.heap.size+2;omega) _
   ·have y1:(x != (k:Int))=true:=by simp[hxk]
    clear hxk hall h0 hx
    go_wp2
    refine Xx (v:=.tuple #[.agg #[.slice B m d,.slice C2 e2 f2,.slice C3 e3 f3],.int .i64 80]) (by simp[results,Tryz.results140,go_sem, *];done) rfl ⟨_,_,_,_,_,_,_,_,_,rfl,fun h=>absurd h (by decide),aO.of ?_⟩
    exact((HB3.setCell (by show w.heap.size<=w.heap.size+2;omega) _).setCell (by show w.heap.size<=w.heap.size+2;omega) _).setCell (by show w.heap.size<=w.heap.size+2;omega) _
  ·obtain rfl:k=n:=by omega
   have hnm:¬k=m:=fun e=>HQ.out ⟨e,hall.out⟩
   obtain rfl:k=0:=by
    rcases h0.out with h|h
    ·exact h
    ·exact absurd h hnm
   have y2:((0:Int) != (m:Int))=true:=by simp;omega
   clear hall h0 hlt HQ
   go_wp2
   go_loopw [11,43] (fun _ i wr=>i=.int .i64 0/\wr=W2.alloc (.cells #[.slice B m d,.slice none 0 0,.slice none 0 0] 96)) (fun _ _ _=>0)
   case atStart=>exact⟨rfl,rfl⟩
   case round=>
    obtain⟨rfl,rfl⟩:=hrel
    go_wp2
    refine Xx (v:=.tuple #[.agg #[.slice B m d,.slice C2 e2 f2,.slice C3 e3 f3],.int .i64 80]) (by simp[results,Tryz.results140,go_sem, *];done) rfl ⟨_,_,_,_,_,_,_,_,_,rfl,fun h=>absurd h (by decide),aO.of ?_⟩
    exact((HB3.setCell (by show w.heap.size<=w.heap.size+2;omega) _).setCell (by show w.heap.size<=w.heap.size+2;omega) _).setCell (by show w.heap.size<=w.heap.size+2;omega) _
theorem vN (l:List Fd) (c:Ch) (m:Nat) (hm:l.length=m) (h16:m<=16) (B:EL) (d:Nat) (C2:EL) (e2 f2:Nat) (C3:EL) (e3 f3:Nat) (Q:EL) (n qc:Nat) (hn:c.q.length=n) (hn1:n<=17592186044415) (hqc:n<=qc) (w:EQ) (R1:Rd w B (aC l)) (RQ:Rd w Q (aV c.q)) (r2 r3:Option Nat) (P:Nat->Prop) (hP1:∀ad,B=some ad->P ad.block) (hPn:∀g,w.heap.size<=g->P g) (hq:fD c.q m=true):
 Calls Tryz.prog 140 #[.agg #[.slice B m d,.slice C2 e2 f2,.slice C3 e3 f3],.agg #[.int .i64 c.op,.string c.s,.string c.g.s,.int .i64 c.g.k,.int .i64 c.g.l,.int .i64 c.d.k,.int .u64 c.d.b,.string c.d.t,.slice Q n qc]] w fun e w'=>dZ r2 r3 P ⟨l,c.q.map fun x=>(l[x.toNat]?).getD Fd.z,c.q.map fun x=>⟨x,Vl.z⟩⟩ 0 w e w':=by
 obtain⟨T1,C1,N1,HB⟩:=cQ (.slice B m d) (.slice C2 e2 f2) (.slice C3 e3 f3) c (.slice Q n qc) w
 obtain⟨i1,i2,i3,j1,j2,j3⟩:=T1.f3
 obtain⟨n1,n2,n3,o1,o2,o3⟩:=N1.f3
 obtain⟨a0,a1,a2,a3,a4,a5,a6,a7,a8⟩:=C1.c9
 have RQ1:=RQ.below HB
 have HM:=J0 hm
 have HN:=J0 hn
 have HQ:Hid (∀k:Nat,k<n->(c.q.mergeSort fun x y=>decide (x<=y))[k]?=some (k:Int)):=J0 (fun k hk=>((oW (q:=c.q) (m:=m)).1 hq).2 k (by omega))
 have HX:Hid (∀x∈c.q,0<=x/\x<m):=J0 (fun x hx=>oC hq hx)
 obtain rfl:n=m:=by rw[<-hn];exact kl hq
 have HP1:=J0 hP1
 have HPN:=J0 hPn
 obtain⟨iF,hiF,hzF0,hzF1,hzF2⟩:=info_parts fI
 obtain⟨iM,hiM,hzM0,hzM1,hzM2⟩:=info_parts kB
 clear hm hn hq hP1 hPn
 go_enter Tryz.func140,Tryz.ntmps140
 go_wp2_with (go_at_call 164;refine(sB Q qc n c.q HN.out _ RQ1 hn1 hqc).mono ?_)
 rintro e W1 ⟨S,sc,rfl,own1,hb⟩
 replace HB:=HB.trans (hb.mono HB.size)
 replace T1:=T1.below hb
 replace C1:=C1.below hb
 replace N1:=N1.below hb
 have szc:=N1.lt
 have lt1:=aY own1
 have bs1:∀g,(Value.slice S n sc).ownBlock=some g->w.heap.size+2<g:=fun g hg=>by
  have:=aF own1 g hg;simp at this;omega
 clear hb i1 i2 i3 j1 j2 j3 n1 n2 n3 o1 o2 o3 a0 a1 a2 a3 a4 a5 a6 a7 a8 RQ1
 obtain⟨i1,i2,i3,j1,j2,j3⟩:=T1.f3
 obtain⟨a0,a1,a2,a3,a4,a5,a6,a7,a8⟩:=C1.c9
 go_wp2_with (go_at_call 165;refine(wJ _ n c.q HN.out _ _ own1 (by omega)).mono ?_)
 rintro e W2 ⟨rfl,own2,gr⟩
 have HB2:=HB.grown gr HB.size (fun g hg=>by have:=bs1 g hg;omega)
 have T2:=T1.grown gr (by intro e;have:=bs1 _ e.symm;omega)
 have C2':cx W2 _ c (.slice Q n qc) 76:=aD.grown C1 gr (by intro e;have:=bs1 _ e.symm;omega)
 have N2:=N1.grown gr (by intro e;have:=bs1 _ e.symm;omega)
 clear T1 C1 N1 HB own1 gr i1 i2 i3 j1 j2 j3 a0 a1 a2 a3 a4 a5 a6 a7 a8
 obtain⟨ss,hss⟩:∃ss,(c.q.mergeSort fun x y=>decide (x<=y))=ss:=⟨_,rfl⟩
 have hsl:ss.length=n:=by rw[<-hss,List.length_mergeSort,HN.out]
 rw[hss] at own2 HQ
 clear hss
 have HSL:=J0 hsl
 clear hsl
 have xA:w.heap.size+2<W2.heap.size:=N2.lt
 have O:=aD.new W2 [.slice B n d,.slice none 0 0,.slice none 0 0] 96
 have nb:=aA (w:=W2) (.cells #[.slice B n d,.slice none 0 0,.slice none 0 0] 96)
 obtain⟨i1,i2,i3,j1,j2,j3⟩:=T2.f3
 replace T2:=T2.below nb
 have C3':=C2'.below nb
 have N3:=N2.below nb
 have own3:=aG own2 nb
 have HB3:=HB2.trans (nb.mono HB2.size)
 clear nb C2' N2 own2 HB2
 obtain⟨p1,p2,p3,q1,q2,q3⟩:=T2.f3
 obtain⟨a0,a1,a2,a3,a4,a5,a6,a7,a8⟩:=C3'.c9
 go_wp2
 go_loopw [8,9,22] (fun _ _ i wr=>∃k:Nat,k<=n/\i=.int .i64 k/\wr=W2.alloc (.cells #[.slice B n d,.slice none 0 0,.slice none 0 0] 96)) (fun _ _ i _=>n - (intOf i).toNat)
 case atStart=>exact⟨0,by omega,rfl,rfl⟩
 case round=>
  obtain⟨k,hk,rfl,rfl⟩:=hrel
  by_cases hlt:k<n
  ·obtain⟨ad,sc',y1,hc⟩:=qA own3 (HQ.out k hlt)
   cases y1
   have hi0:(0:Int)<=(k:Int):=by omega
   have hi1:(k:Int)<(n:Int):=by omega
   have y1:((k:Int) != (k:Int))=false:=by simp
   have y2:((n:Int) != (n:Int))=false:=by simp
   go_wp2
   go_roundw
   case rel=>exact⟨k+1,by omega,by go_num,by trivial⟩
   case measure=>simp[intOf];omega
  ·obtain rfl:k=n:=by omega
   clear hlt HQ own3
   go_wp2
   have O0:=O
   have N0:=N3
   have C0:=C3'
   have T0:=T2
   have HB0:=HB3
   clear O N3 C3' T2 HB3 i1 i2 i3 j1 j2 j3 p1 p2 p3 q1 q2 q3 a0 a1 a2 a3 a4 a5 a6 a7 a8 hk
   go_loopw [11,43] (fun _ i wr=>∃(j:Nat) (vF vM:ER),j<=k/\i=.int .i64 j/\wr.ownsRow (W2.heap.size+1) 68 3 vF j (aC ((c.q.take j).map fun x=>(l[x.toNat]?).getD Fd.z))/\wr.ownsRow (W2.heap.size+1) 137 4 vM j (aJ ((c.q.take j).map fun x=>⟨x,Vl.z⟩))/\Hid (∀g,vF.ownBlock=some g->vM.ownBlock≠some g)/\
    aD wr W2.heap.size [.slice B k d,vF,vM] 96/\aD wr (w.heap.size+2) [.slice none 0 0,.slice none 0 0,.slice none 0 0] 96/\cx wr (w.heap.size+1) c (.slice Q k qc) 76/\aD wr w.heap.size [.slice B k d,.slice C2 e2 f2,.slice C3 e3 f3] 96/\Below w.heap.size w wr) (fun _ i _=>k - (intOf i).toNat)
   case atStart=>exact⟨0,_,_,by omega,rfl,ai _ _ _ _,ai _ _ _ _,J0 (fun g hg=>by simp[Value.ownBlock] at hg),O0,N0,C0,T0,HB0⟩
   case round=>
    obtain⟨j,vF,vM,hj,rfl,ownF,ownM,hap,O,N,C,T,HB⟩:=hrel
    clear O0 N0 C0 T0 HB0
    have RQr:=RQ.below HB
    have Rr:=R1.below HB
    by_cases hlt:j<k
    ·obtain⟨x,hx⟩:∃x,c.q[j]?=some x:=⟨_,J4 (by rw[HN.out];exact hlt)⟩
     obtain⟨x0,x1⟩:=HX.out x (J7 hx)
     obtain⟨f,hf⟩:∃f,l[x.toNat]?=some f:=⟨_,J4 (by rw[HM.out];omega)⟩
     have hq0:(aV c.q)[j]?=some (.int .i64 x):=by simp[aV,hx]
     obtain⟨qd,rfl,hqc'⟩:=RQr.at hq0
     obtain⟨ad,rfl,g0,g1,g2⟩:=Rr.fld hf
     have hi0:(0:Int)<=(j:Int):=by omega
     have hi1:(j:Int)<(k:Int):=by omega
     have HF:Hid ((c.q.take (j+1)).map (fun x=>(l[x.toNat]?).getD Fd.z)=(c.q.take j).map (fun x=>(l[x.toNat]?).getD Fd.z)++[f]):=J0 (by rw[Vv,hx];simp[hf])
     have HMv:Hid ((c.q.take (j+1)).map (fun x=>(⟨x,Vl.z⟩:Mv))=(c.q.take j).map (fun x=>⟨x,Vl.z⟩)++[⟨x,Vl.z⟩]):=J0 (by rw[Vv,hx];simp)
     clear hx hf hq0
     obtain⟨i1,i2,i3,j1,j2,j3⟩:=O.f3
     obtain⟨a0,a1,a2,a3,a4,a5,a6,a7,a8⟩:=C.c9
     obtain⟨p1,p2,p3,q1,q2,q3⟩:=T.f3
     have hx1:x<(k:Int):=x1
     have nf:=aA (w:=wr.drew) (.cells #[.string f.s,.int .i64 f.k,.int .i64 f.l] 68)
     have ownF1:(wr.drew.alloc (.cells #[.string f.s,.int .i64 f.k,.int .i64 f.l] 68)).ownsRow _ _ _ vF j _:=aG (w:=wr.drew) ownF nf
     have ownM1:(wr.drew.alloc (.cells #[.string f.s,.int .i64 f.k,.int .i64 f.l] 68)).ownsRow _ _ _ vM j _:=aG (w:=wr.drew) ownM nf
     have lF:=aY ownF
     have lM:=aY ownM
     have bF:=aF ownF
     have bM:=aF ownM
     have On:=aD.below (w:=wr.drew) O nf
     have Nn:=aD.below (w:=wr.drew) N nf
     have Cn:=aD.below (w:=wr.drew) C nf
     have Tn:=aD.below (w:=wr.drew) T nf
     have HBn:=(Jv HB).trans (nf.mono HB.size)
     have hsz:W2.heap.size<wr.heap.size:=O.lt
     have hbz:W2.heap.size+1<=(wr.drew.alloc (.cells #[.string f.s,.int .i64 f.k,.int .i64 f.l] 68)).heap.size:=by have:=nf.size;have e:wr.drew.heap.size=wr.heap.size:=rfl;omega
     have hone:∀u∈[Value.string f.s,.int .i64 f.k,.int .i64 f.l],u.oneCell'=true:=by intro u hu;simp at hu;rcases hu with rfl|rfl|rfl <;> rfl
     have mixed:Tryz.prog.follows .mixedOrders=true:=by kernel_rfl
     have hb63:j+1<=maxLen:=by simp only[maxLen];omega
     clear O N C T HB ownF ownM nf
     go_wp2_with fail
     go_region_law_o (refine ij rfl (.tmp 48) (.tmp 54) 27 rfl (W2.heap.size+1) 68 iF (.agg #[.string ⟨#[]⟩,.int .i64 0,.int .i64 0]) 3 32 Tryz.underlying27 hiF hzF0 hzF1 hzF2 rfl (by decide) vF j _ (by simp[Act.eval,Act.put]) ownF1 ⟨wr.heap.size,0,none⟩ 1 1 [.string f.s,.int .i64 f.k,.int .i64 f.l] (by simp[Act.eval,Act.put]) rfl (fV wr.drew _ _ _ _) hone hb63 (by omega) hbz ?_;intro vF' W5 ownF5 gr5 hat5;have O5:=On.grown gr5 (by intro e;have:=bF _ e.symm;omega);have N5:=Nn.grown gr5 (by intro e;have:=bF _ e.symm;omega);have C5:cx W5 (w.heap.size+1) c (.slice (some qd) k qc) 76:=aD.grown Cn gr5 (by intro e;have:=bF _ e.symm;omega);have T5:=Tn.grown gr5 (by intro e;have:=bF _ e.symm;omega);have ownM5:=cY ownM1 gr5 (by intro g hg e;exact hap.out g e.symm hg);have HB5:=HBn.grown gr5 (by have:=HBn.size;omega) (fun g hg=>by have:=bF g hg;omega);have hap5:Hid (∀g,vF'.ownBlock=some g->vM.ownBlock≠some g):=J0 (fun g hg hm=>by rcases hat5 with h|h;exact hap.out g (by rw[<-h];exact hg) hm;rw[hg] at h;have h:=Jj h;have:=lM g hm;simp at h;omega);obtain⟨F5,c5,rfl,_,_,_⟩:=aL ownF5;have z5:W2.heap.size<W5.heap.size:=O5.lt;have bF5:∀g,(Value.slice F5 (j+1) c5).ownBlock=some g->W2.heap.size+1<=g:=aF ownF5;clear gr5 hat5 On Nn Cn Tn ownF1 ownM1 HBn i1 i2 i3 j1 j2 j3 a0 a1 a2 a3 a4 a5 a6 a7 a8 p1 p2 p3 q1 q2 q3;obtain⟨i1,i2,i3,j1,j2,j3⟩:=O5.f3)
     all_goals
      have O6:=aI O5 1 (.slice F5 (j+1) c5)
      have N6:aD (W5.setCell ⟨W2.heap.size,1,none⟩ (.slice F5 (j+1) c5)) (w.heap.size+2) _ 96:=(J5 _ _ _ _ (by show w.heap.size+2≠W2.heap.size;omega)).trans N5
      have C6:cx (W5.setCell ⟨W2.heap.size,1,none⟩ (.slice F5 (j+1) c5)) (w.heap.size+1) c (.slice (some qd) k qc) 76:=(J5 _ _ _ _ (by show w.heap.size+1≠W2.heap.size;omega)).trans C5
      have T6:aD (W5.setCell ⟨W2.heap.size,1,none⟩ (.slice F5 (j+1) c5)) w.heap.size _ 96:=(J5 _ _ _ _ (by show w.heap.size≠W2.heap.size;omega)).trans T5
      have ownF6:=aN (w1:=W5.setCell ⟨W2.heap.size,1,none⟩ (.slice F5 (j+1) c5)) ownF5 (fun g hg=>J5 _ _ _ _ (by have:=bF5 g hg;show g≠W2.heap.size;omega))
      have ownM6:=aN (w1:=W5.setCell ⟨W2.heap.size,1,none⟩ (.slice F5 (j+1) c5)) ownM5 (fun g hg=>J5 _ _ _ _ (by have:=bM g hg;show g≠W2.heap.size;omega))
      have HB6:=HB5.setCell (p:=⟨W2.heap.size,1,none⟩) (by show w.heap.size<=W2.heap.size;omega) (.slice F5 (j+1) c5)
      have z6:Hid (W5.heap.size=(W5.setCell ⟨W2.heap.size,1,none⟩ (.slice F5 (j+1) c5)).heap.size):=J0 (by simp)
      have nm:=aA (w:=W5.setCell ⟨W2.heap.size,1,none⟩ (.slice F5 (j+1) c5)) (.cells #[.int .i64 x,.int .i64 0,.int .u64 0,.string ⟨#[]⟩] 137)
      have lF6:=aY ownF6
      have lM6:=aY ownM6
      obtain⟨p1,p2,p3,q1,q2,q3⟩:=O6.f3
      obtain⟨s1,s2,s3,u1,u2,u3⟩:=(O6.below nm).f3
      clear i1 i2 i3 j1 j2 j3 O5 N5 C5 T5 ownM5 ownF5 HB5
      go_wp2_with (at_builtin;refine Y4 _ rfl _ _ 94 rfl (W2.heap.size+1) 137 iM (.agg #[.int .i64 0,.int .i64 0,.int .u64 0,.string ⟨#[]⟩]) 4 40 Tryz.underlying94 hiM hzM0 hzM1 hzM2 rfl (by decide) _ _ _ rfl (aG ownM6 nm) ⟨W5.heap.size,0,none⟩ 1 1 [.int .i64 x,.int .i64 0,.int .u64 0,.string ⟨#[]⟩] rfl rfl ?c1 ?c2 ?c3 ?c4 ?c5 ?_)
      case c1=>rw[z6.out];exact eR _ _ _ _ _ _
      case c2=>intro u hu;simp at hu;rcases hu with rfl|rfl|rfl|rfl <;> rfl
      case c3=>exact hb63
      case c4=>omega
      case c5=>have:=nm.size;have:=z6.out;omega
      intro vM' W7 ownM7 gr7 _ hat7
      have O7:=(O6.below nm).grown gr7 (by intro e;have:=bM _ e.symm;omega)
      have N7:=(aD.below N6 nm).grown gr7 (by intro e;have:=bM _ e.symm;omega)
      have C7:cx W7 (w.heap.size+1) c (.slice (some qd) k qc) 76:=aD.grown (C6.below nm) gr7 (by intro e;have:=bM _ e.symm;omega)
      have T7:=(aD.below T6 nm).grown gr7 (by intro e;have:=bM _ e.symm;omega)
      have ownF7:=cY (aG ownF6 nm) gr7 (by intro g hg e;exact hap5.out g hg e.symm)
      have HB7:=(HB6.trans (nm.mono HB6.size)).grown gr7 (by have:=HB6.size;have:=nm.size;omega) (fun g hg=>by have:=bM g hg;omega)
      have hap7:Hid (∀g,(Value.slice F5 (j+1) c5).ownBlock=some g->vM'.ownBlock≠some g):=J0 (fun g hg hm=>by
       rcases hat7 with h|h
       ·exact hap5.out g hg (by rw[<-h];exact hm)
       ·rw[hm] at h;have h:=Jj h;have:=lF6 g hg;(try simp at h);(try simp at this);omega)
      have bM7:∀g,vM'.ownBlock=some g->W2.heap.size+1<=g:=aF ownM7
      obtain⟨M7,c7,rfl,_,_,_⟩:=aL ownM7
      clear p1 p2 p3 q1 q2 q3 s1 s2 s3 u1 u2 u3 O6 N6 C6 T6 ownM6 ownF6 HB6 nm gr7 hat7
      obtain⟨i1,i2,i3,j1,j2,j3⟩:=O7.f3
      go_wp2
      go_roundw
      case rel=>
       refine⟨j+1,_,_,by omega,by go_num,?_,?_,hap7,aI O7 2 _,?_,?_,?_,HB7.setCell (by show w.heap.size<=W2.heap.size;omega) _⟩
       ·exact ag (aN ownF7 (fun g hg=>J5 _ _ _ _ (by have:=bF5 g hg;show g≠W2.heap.size;omega))) rfl (by rw[HF.out,eB];(try simp only[List.map_take]);rfl)
       ·exact ag (aN ownM7 (fun g hg=>J5 _ _ _ _ (by have:=bM7 g hg;show g≠W2.heap.size;omega))) rfl (by rw[HMv.out,bu];(try simp only[List.map_take]);rfl)
       ·exact(J5 _ _ _ _ (by show w.heap.size+2≠W2.heap.size;omega)).trans N7
       ·exact(J5 _ _ _ _ (by show w.heap.size+1≠W2.heap.size;omega)).trans C7
       ·exact(J5 _ _ _ _ (by show w.heap.size≠W2.heap.size;omega)).trans T7
      case measure=>simp[intOf];omega
    ·obtain rfl:j=k:=by omega
     have bF:=aF ownF
     have bM:=aF ownM
     obtain⟨F5,c5,rfl,_,_,_⟩:=aL ownF
     obtain⟨M5,e5,rfl,_,_,_⟩:=aL ownM
     obtain⟨i1,i2,i3,j1,j2,j3⟩:=O.f3
     obtain⟨p1,p2,p3,q1,q2,q3⟩:=T.f3
     obtain⟨n1,n2,n3,o1,o2,o3⟩:=N.f3
     have y2:((j:Int) != (j:Int))=false:=by simp
     have hall:c.q.take j=c.q:=Vx (by rw[HN.out];exact J9 _)
     rw[hall] at ownF ownM
     clear hall
     go_wp2
     refine Xx (v:=.tuple #[.agg #[.slice B j d,.slice F5 j c5,.slice M5 j e5],.int .i64 0]) (by simp[results,Tryz.results140,go_sem, *];done) rfl ⟨_,_,_,_,_,_,_,_,_,rfl,fun _=>?_,aO.of ?_⟩
     ·refine nr (t:=⟨l,c.q.map fun x=>(l[x.toNat]?).getD Fd.z,c.q.map fun x=>⟨x,Vl.z⟩⟩) HM.out ?_ HP1.out (aN ownF fun g hg=>?_) (by simp[HN.out]) (fun g hg=>HPN.out g (by have:=bF g hg;omega)) (aN ownM fun g hg=>?_) (by simp[HN.out]) (fun g hg=>HPN.out g (by have:=bM g hg;omega))
      ·exact R1.below (((HB.setCell (by show w.heap.size<=w.heap.size+2;omega) _).setCell (by show w.heap.size<=w.heap.size+2;omega) _).setCell (by show w.heap.size<=w.heap.size+2;omega) _)
      ·have h:=bF g hg
       exact(J5 _ _ _ _ (by show g≠w.heap.size+2;omega)).trans ((J5 _ _ _ _ (by show g≠w.heap.size+2;omega)).trans (J5 _ _ _ _ (by show g≠w.heap.size+2;omega)))
      ·have h:=bM g hg
       exact(J5 _ _ _ _ (by show g≠w.heap.size+2;omega)).trans ((J5 _ _ _ _ (by show g≠w.heap.size+2;omega)).trans (J5 _ _ _ _ (by show g≠w.heap.size+2;omega)))
     ·exact((HB.setCell (by show w.heap.size<=w.heap.size+2;omega) _).setCell (by show w.heap.size<=w.heap.size+2;omega) _).setCell (by show w.heap.size<=w.heap.size+2;omega) _
end
section
open Go.RowKit Go.Lib Go.Maps
def jb (w:EQ) (b:Nat) (es:List MapEntry) (clock:Nat):Prop:=w.heap[b]?=some (.map es.toArray clock)
theorem jb.grown {w w':EQ} {b:Nat} {es:List MapEntry} {clock:Nat} {row:Option Nat} (h:jb w b es clock) (hg:w.grownBy w' row) (hn:some b≠row):jb w' b es clock:=(hg.block b (Qq.1 h).1 hn).trans h
theorem jb.below {w w':EQ} {b:Nat} {es:List MapEntry} {clock:Nat} (h:jb w b es clock) (hb:Below w.heap.size w w'):jb w' b es clock:=(hb.block b (Qq.1 h).1).trans h
section
variable {P:Program} {t k e:ES}
def fP (key val:ER) (c:Nat):MapEntry:={ key:=key,val:=val,born:=c }
theorem kD (K:Keyed P k) (ht:P.underlying t=some (.map k e)) {w:EQ} {b:Nat} {es:List MapEntry} {clock:Nat} (hb:jb w b es clock) (hes:∀x∈es,∃l,keyOf P k x.key=some l) {key val:ER} {l:Lit} (hk:keyOf P k key=some l) (hn:∀x∈es,x.key≠key):
 ∃w',(Instr.mapUpdate t (.map (some b)) key val).run P w=.ok () w'/\jb w' b (es++[fP key val clock]) (clock+1)/\w.grownBy w' (some b)/\w'.heap.size=w.heap.size:=by
 have hlt:b<w.heap.size:=(Qq.1 hb).1
 have hfind:(Instr.findKey k key es).run P w=.ok none w:=by
  rcases K.find w hk es hes with ⟨h,_⟩|⟨j,x,_,h2,h3⟩
  ·exact h
  ·exact absurd h3 (hn x (J7 h2))
 refine⟨{ w with heap:=w.heap.setIfInBounds b (.map (es++[fP key val clock]).toArray (clock+1)) },?_,?_,?_,by simp⟩
 ·simp[Instr.mapUpdate,run_underlying ht,MapKept.run_getObj_map hb,K.check w false hk,hfind,MapKept.run_setObj_map _ hb,Result.andThen,fP]
 ·simp[jb,hlt]
 ·exact⟨rfl,rfl,rfl,by simp,fun j hj hne=>by
   show(w.heap.setIfInBounds b _)[j]?=_
   rw[Array.getElem?_setIfInBounds_ne (by rintro rfl;exact hne rfl)]⟩
theorem map_some (K:Keyed P k) (ht:P.underlying t=some (.map k e)) {w:EQ} {b:Nat} {es:List MapEntry} {clock:Nat} (hb:jb w b es clock) (hes:∀x∈es,∃l,keyOf P k x.key=some l) {key val:ER} {l:Lit} (hk:keyOf P k key=some l) (hv:∃x∈es,x.key=key) (hval:∀x∈es,x.key=key->x.val=val) (c:Bool):
 (Instr.lookup t (.map (some b)) key c).run P w=.ok (if c then .tuple #[val,.bool true] else val) w:=by
 obtain⟨j,x,hfind,h2,h3⟩:∃j x,(Instr.findKey k key es).run P w=.ok (some (j,x.val)) w/\es[j]?=some x/\x.key=key:=by
  rcases K.find w hk es hes with ⟨_,h⟩|h
  ·obtain⟨x,h1,h2⟩:=hv;exact absurd h2 (h x h1)
  ·exact h
 rw[hval x (J7 h2) h3] at hfind
 cases c <;> simp[Instr.lookup,run_underlying ht,MapKept.run_getObj_map hb,K.check w _ hk,hfind,Result.andThen]
theorem tT (K:Keyed P k) (ht:P.underlying t=some (.map k e)) {w:EQ} {b:Nat} {es:List MapEntry} {clock:Nat} (hb:jb w b es clock) (hes:∀x∈es,∃l,keyOf P k x.key=some l) {key:ER} {l:Lit} (hk:keyOf P k key=some l) (hn:∀x∈es,x.key≠key) {z:ER} (hz:(zeroValue e).run P w=.ok z w) (c:Bool):
 (Instr.lookup t (.map (some b)) key c).run P w=.ok (if c then .tuple #[z,.bool false] else z) w:=by
 have hfind:(Instr.findKey k key es).run P w=.ok none w:=by
  rcases K.find w hk es hes with ⟨h,_⟩|⟨j,x,_,h2,h3⟩
  ·exact h
  ·exact absurd h3 (hn x (J7 h2))
 cases c <;> simp[Instr.lookup,run_underlying ht,MapKept.run_getObj_map hb,K.check w _ hk,hfind,hz,Result.andThen]
theorem BD (hk:P.underlying k=some (.int .i64)) {x:Int} (h0:-9223372036854775808<=x) (h1:x<=9223372036854775807):keyOf P k (.int .i64 x)=some (.int .i64 x):=by
 have hw:(Lit.int .i64 x).wf=true:=by
  have e0:IntKind.i64.min=-9223372036854775808:=by decide
  have e1:IntKind.i64.max=9223372036854775807:=by decide
  simp[Lit.wf,e0,e1];omega
 simp[keyOf,hk,mapKey,hw]
end
theorem nj (w:EQ):(Instr.makeMap 206 none).run Tryz.prog w=.ok (.map (some w.heap.size)) (w.alloc (.map #[] 0)):=run_makeMap _ _
theorem iy:Keyed Tryz.prog 3:=int_keyed Tryz.underlying3
theorem qq {x:Int} (h0:-9223372036854775808<=x) (h1:x<=9223372036854775807):keyOf Tryz.prog 3 (.int .i64 x)=some (.int .i64 x):=BD Tryz.underlying3 h0 h1
theorem zh {es:List MapEntry} {ks:List Int} (h:es.map (·.key)=ks.map (Value.int .i64)) (hk:∀x∈ks,-9223372036854775808<=x/\x<=9223372036854775807):∀x∈es,∃l,keyOf Tryz.prog 3 x.key=some l:=by
 intro x hx
 have:x.key∈es.map (·.key):=List.mem_map_of_mem hx
 rw[h] at this
 obtain⟨n,hn,e⟩:=Vy.1 this
 rw[<-e]
 exact⟨_,qq (hk n hn).1 (hk n hn).2⟩
theorem wY {es:List MapEntry} {ks:List Int} (h:es.map (·.key)=ks.map (Value.int .i64)) {k:Int} (hk:k ∉ ks):∀x∈es,x.key≠.int .i64 k:=by
 intro x hx e
 have:x.key∈es.map (·.key):=List.mem_map_of_mem hx
 rw[h] at this
 obtain⟨n,hn,e2⟩:=Vy.1 this
 rw[e] at e2
 cases e2
 exact hk hn
theorem zb {w:EQ} {b:Nat} {es:List MapEntry} {clock:Nat} (hb:jb w b es clock) (ks:List Int) (hks:es.map (·.key)=ks.map (Value.int .i64)) (h1:∀x∈ks,-9223372036854775808<=x/\x<=9223372036854775807) (k:Int) (hk:k ∉ ks) (h0:-9223372036854775808<=k/\k<=9223372036854775807) (v:ER):
 ∃w',(Instr.mapUpdate 206 (.map (some b)) (.int .i64 k) v).run Tryz.prog w=.ok () w'/\jb w' b (es++[fP (.int .i64 k) v clock]) (clock+1)/\w.grownBy w' (some b)/\w'.heap.size=w.heap.size:=
 kD iy Tryz.underlying206 hb (zh hks h1) (qq h0.1 h0.2) (wY hks hk)
theorem lg (V:EQ):∃V4 V6 V8 V10 V11:EQ,
 (Instr.mapUpdate 206 (.map (some V.heap.size)) (.int .i64 1) (.func (.func 135) #[] #[])).run Tryz.prog (V.alloc (.map #[] 0))=.ok () V4/\
 (Instr.mapUpdate 206 (.map (some V.heap.size)) (.int .i64 2) (.func (.func 161) #[] #[.pointer (some ⟨V4.heap.size,0,none⟩)])).run Tryz.prog (V4.alloc (.cells #[.func (.func 137) #[] #[]] 205))=.ok () V6/\
 (Instr.mapUpdate 206 (.map (some V.heap.size)) (.int .i64 3) (.func (.func 161) #[] #[.pointer (some ⟨V6.heap.size,0,none⟩)])).run Tryz.prog (V6.alloc (.cells #[.func (.func 138) #[] #[]] 205))=.ok () V8/\
 (Instr.mapUpdate 206 (.map (some V.heap.size)) (.int .i64 4) (.func (.func 161) #[] #[.pointer (some ⟨V8.heap.size,0,none⟩)])).run Tryz.prog (V8.alloc (.cells #[.func (.func 139) #[] #[]] 205))=.ok () V10/\
 (Instr.mapUpdate 206 (.map (some V.heap.size)) (.int .i64 5) (.func (.func 140) #[] #[])).run Tryz.prog V10=.ok () V11/\
 jb V11 V.heap.size [fP (.int .i64 1) (.func (.func 135) #[] #[]) 0,fP (.int .i64 2) (.func (.func 161) #[] #[.pointer (some ⟨V4.heap.size,0,none⟩)]) 1,fP (.int .i64 3) (.func (.func 161) #[] #[.pointer (some ⟨V6.heap.size,0,none⟩)]) 2,fP (.int .i64 4) (.func (.func 161) #[] #[.pointer (some ⟨V8.heap.size,0,none⟩)]) 3,fP (.int .i64 5) (.func (.func 140) #[] #[]) 4] 5/\V11.cell? ⟨V4.heap.size,0,none⟩=some (.func (.func 137) #[] #[])/\V11.cell? ⟨V6.heap.size,0,none⟩=some (.func (.func 138) #[] #[])/\V11.cell? ⟨V8.heap.size,0,none⟩=some (.func (.func 139) #[] #[])/\Below V.heap.size V V11:=by
 have B0:=aA (w:=V) (.map #[] 0)
 have M0:jb (V.alloc (.map #[] 0)) V.heap.size [] 0:=Y7 V _
 obtain⟨V4,r4,M4,g4,z4⟩:=zb M0 [] rfl (by simp) 1 (by simp) (by omega) (.func (.func 135) #[] #[])
 have y4:V.heap.size<V4.heap.size:=by rw[z4];simp
 have B4:=B0.grown g4 (by simp) (fun g hg=>by have hh:=Jj hg;omega)
 have M5:=M4.below (aA (.cells #[.func (.func 137) #[] #[]] 205))
 have c5:=bD V4 #[.func (.func 137) #[] #[]] 205 0 _ rfl
 obtain⟨V6,r6,M6,g6,z6⟩:=zb M5 [1] rfl (by simp) 2 (by simp) (by omega) (.func (.func 161) #[] #[.pointer (some ⟨V4.heap.size,0,none⟩)])
 have y6:V4.heap.size<V6.heap.size:=by rw[z6];simp
 have B6:=(B4.alloc B4.size (.cells #[.func (.func 137) #[] #[]] 205)).grown g6 (by simp;omega) (fun g hg=>by have hh:=Jj hg;omega)
 have c6:=(World.cell?_of_block (a:=⟨V4.heap.size,0,none⟩) (g6.block _ (by simp) (by intro e;have hh:=Jj e;(try simp at hh);omega))).trans c5
 have M7:=M6.below (aA (.cells #[.func (.func 138) #[] #[]] 205))
 have d7:=bD V6 #[.func (.func 138) #[] #[]] 205 0 _ rfl
 have c7:=aE (B:=0) (aA (.cells #[.func (.func 138) #[] #[]] 205)) c6
 obtain⟨V8,r8,M8,g8,z8⟩:=zb M7 [1,2] rfl (by simp) 3 (by simp) (by omega) (.func (.func 161) #[] #[.pointer (some ⟨V6.heap.size,0,none⟩)])
 have y8:V6.heap.size<V8.heap.size:=by rw[z8];simp
 have B8:=(B6.alloc B6.size (.cells #[.func (.func 138) #[] #[]] 205)).grown g8 (by simp;omega) (fun g hg=>by have hh:=Jj hg;omega)
 have c8:=(World.cell?_of_block (a:=⟨V4.heap.size,0,none⟩) (g8.block _ (by simp;omega) (by intro e;have hh:=Jj e;(try simp at hh);omega))).trans c7
 have d8:=(World.cell?_of_block (a:=⟨V6.heap.size,0,none⟩) (g8.block _ (by simp) (by intro e;have hh:=Jj e;(try simp at hh);omega))).trans d7
 have M9:=M8.below (aA (.cells #[.func (.func 139) #[] #[]] 205))
 have e9:=bD V8 #[.func (.func 139) #[] #[]] 205 0 _ rfl
 have c9:=aE (B:=0) (aA (.cells #[.func (.func 139) #[] #[]] 205)) c8
 have d9:=aE (B:=0) (aA (.cells #[.func (.func 139) #[] #[]] 205)) d8
 obtain⟨V10,r10,M10,g10,z10⟩:=zb M9 [1,2,3] rfl (by simp) 4 (by simp) (by omega) (.func (.func 161) #[] #[.pointer (some ⟨V8.heap.size,0,none⟩)])
 have y10:V8.heap.size<V10.heap.size:=by rw[z10];simp
 have B10:=(B8.alloc B8.size (.cells #[.func (.func 139) #[] #[]] 205)).grown g10 (by simp;omega) (fun g hg=>by have hh:=Jj hg;omega)
 have c10:=(World.cell?_of_block (a:=⟨V4.heap.size,0,none⟩) (g10.block _ (by simp;omega) (by intro e;have hh:=Jj e;(try simp at hh);omega))).trans c9
 have d10:=(World.cell?_of_block (a:=⟨V6.heap.size,0,none⟩) (g10.block _ (by simp;omega) (by intro e;have hh:=Jj e;(try simp at hh);omega))).trans d9
 have e10:=(World.cell?_of_block (a:=⟨V8.heap.size,0,none⟩) (g10.block _ (by simp) (by intro e;have hh:=Jj e;(try simp at hh);omega))).trans e9
 obtain⟨V11,r11,M11,g11,z11⟩:=zb M10 [1,2,3,4] rfl (by simp) 5 (by simp) (by omega) (.func (.func 140) #[] #[])
 have B11:=B10.grown g11 (by omega) (fun g hg=>by have hh:=Jj hg;omega)
 have c11:=(World.cell?_of_block (a:=⟨V4.heap.size,0,none⟩) (g11.block _ (by show V4.heap.size<V10.heap.size;omega) (by intro e;have hh:=Jj e;(try simp at hh);omega))).trans c10
 have d11:=(World.cell?_of_block (a:=⟨V6.heap.size,0,none⟩) (g11.block _ (by show V6.heap.size<V10.heap.size;omega) (by intro e;have hh:=Jj e;(try simp at hh);omega))).trans d10
 have e11:=(World.cell?_of_block (a:=⟨V8.heap.size,0,none⟩) (g11.block _ (by show V8.heap.size<V10.heap.size;omega) (by intro e;have hh:=Jj e;(try simp at hh);omega))).trans e10
 exact⟨V4,V6,V8,V10,V11,r4,r6,r8,r10,r11,M11,c11,d11,e11,B11⟩
def Bc (t:Tb) (code:Int) (w:EQ) (e:Ending) (w':EQ):Prop:=
 ∃X0 y0 z0 X1 y1 z1 X2 y2 z2,e=.returned (.tuple #[.agg #[.slice X0 y0 z0,.slice X1 y1 z1,.slice X2 y2 z2],.int .i64 code])/\gP (fun g=>w.heap.size<=g) w' (.agg #[.slice X0 y0 z0,.slice X1 y1 z1,.slice X2 y2 z2]) t/\Below w.heap.size w w'
theorem gP.z (P:Nat->Prop) (w:EQ):gP P w (.agg #[.slice none 0 0,.slice none 0 0,.slice none 0 0]) Tb.z:=⟨none,0,none,0,none,0,rfl,J9 _,fun h=>absurd rfl h,fun h=>absurd rfl h,fun h=>absurd rfl h⟩
theorem au.lt {P:Nat->Prop} {w:EQ} {A:EL} {cs:EO} (h:au P w A cs):au (fun g=>P g/\g<w.heap.size) w A cs:=fun hn=>by
 obtain⟨ad,e,hp,hc⟩:=h hn
 refine⟨ad,e,⟨hp,?_⟩,hc⟩
 cases cs with
 |nil=>exact absurd rfl hn
 |cons u r=>
  have h0:=World.block_lt_of_cell? w _ (hc 0 u rfl)
  have:(ad.add 0).block=ad.block:=by unfold Addr.add;split <;> rfl
  rw[this] at h0;exact h0
theorem gP.lt {P:Nat->Prop} {w:EQ} {v:ER} {t:Tb} (h:gP P w v t):gP (fun g=>P g/\g<w.heap.size) w v t:=by
 obtain⟨A,c,B,d,C,e,hv,hd,h0,h1,h2⟩:=h
 exact⟨A,c,B,d,C,e,hv,hd,h0.lt,h1.lt,h2.lt⟩
theorem po {w W0 W1 W2 W3 W4:EQ} {a p:Nat} {r2 r3:Option Nat} {x y z v:ER} {t:Tb} {C:Prop} {T T':ES} (HB0:Below w.heap.size w W0) (ha:W0.heap.size<=a) (ha1:a<=W1.heap.size) (haw:w.heap.size+1<W0.heap.size) (h01:Below W0.heap.size W0 W1) (hX:Below W1.heap.size W1 W2) (hO:aO r2 r3 W2 W3)
 (hr2:∀g,r2=some g->W0.heap.size<=g) (hr3:∀g,r3=some g->W0.heap.size<=g) (hT:C->gP (fun g=>(a<=g/\g<W1.heap.size)\/W2.heap.size<=g) W3 v t) (h34:Below W3.heap.size W3 W4) (PB:aD W4 p [.slice none 0 0,.slice none 0 0,.slice none 0 0] T)
 (hp:p<a\/(W1.heap.size<=p/\p<W2.heap.size)\/W3.heap.size<=p) (hpw:W0.heap.size<=p) (N0:aD W0 (w.heap.size+1) [.slice none 0 0,.slice none 0 0,.slice none 0 0] T'):
 aD (((W4.setCell ⟨p,0,none⟩ x).setCell ⟨p,1,none⟩ y).setCell ⟨p,2,none⟩ z) p [x,y,z] T/\(C->gP (fun g=>w.heap.size+2<=g) (((W4.setCell ⟨p,0,none⟩ x).setCell ⟨p,1,none⟩ y).setCell ⟨p,2,none⟩ z) v t)/\
 aD (((W4.setCell ⟨p,0,none⟩ x).setCell ⟨p,1,none⟩ y).setCell ⟨p,2,none⟩ z) (w.heap.size+1) [.slice none 0 0,.slice none 0 0,.slice none 0 0] T'/\Below w.heap.size w (((W4.setCell ⟨p,0,none⟩ x).setCell ⟨p,1,none⟩ y).setCell ⟨p,2,none⟩ z):=by
 have h1:=h01.size
 have h2:=hX.size
 have h3:=hO.size
 have h4:=h34.size
 have ks:∀g,g≠p->(((W4.setCell ⟨p,0,none⟩ x).setCell ⟨p,1,none⟩ y).setCell ⟨p,2,none⟩ z).heap[g]?=W4.heap[g]?:=fun g hg=>(J5 _ _ _ _ hg).trans ((J5 _ _ _ _ hg).trans (J5 _ _ _ _ hg))
 have B2:Below W0.heap.size W0 W3:=(h01.trans (hX.mono h1)).trans (hO.low (by omega) hr2 hr3)
 have B4:Below W0.heap.size W0 W4:=B2.trans (h34.mono B2.size)
 refine⟨?_,fun hc=>?_,?_,?_⟩
 ·have:=aI (aI (aI PB 0 x) 1 y) 2 z
  simpa using this
 ·refine gP.mono (P:=fun g=>((a<=g/\g<W1.heap.size)\/W2.heap.size<=g)/\g<W3.heap.size) ?_ (fun g hg=>?_)
  ·refine gP.keep (w:=W3) (hT hc).lt (fun g hg=>(ks g ?_).trans (h34.block g hg.2))
   intro e
   obtain⟨hg1,hg2⟩:=hg
   rcases hg1 with ⟨h5,h6⟩|h5 <;> omega
  ·show w.heap.size+2<=g
   obtain⟨hg1,hg2⟩:=hg
   rcases hg1 with ⟨h5,h6⟩|h5 <;> omega
 ·exact(ks _ (by omega)).trans ((B4.block _ (by omega)).trans N0)
 ·exact(((HB0.trans (B4.mono (by omega))).setCell (by show w.heap.size<=p;omega) _).setCell (by show w.heap.size<=p;omega) _).setCell (by show w.heap.size<=p;omega) _
theorem xx {w W0 W1 W2 W3:EQ} {a:Nat} {r2 r3:Option Nat} {x y z v:ER} {t:Tb} {C:Prop} {T T':ES} (HB0:Below w.heap.size w W0) (ha:W0.heap.size<=a) (ha1:a<=W1.heap.size) (haw:w.heap.size+1<W0.heap.size) (h01:Below W0.heap.size W0 W1) (hX:Below W1.heap.size W1 W2) (hO:aO r2 r3 W2 W3)
 (hr2:∀g,r2=some g->W0.heap.size<=g) (hr3:∀g,r3=some g->W0.heap.size<=g) (hT:C->gP (fun g=>(a<=g/\g<W1.heap.size)\/W2.heap.size<=g) W3 v t) (N0:aD W0 (w.heap.size+1) [.slice none 0 0,.slice none 0 0,.slice none 0 0] T'):
 aD (W3.alloc (.cells #[x,y,z] T)) W3.heap.size [x,y,z] T/\(C->gP (fun g=>w.heap.size+2<=g) (W3.alloc (.cells #[x,y,z] T)) v t)/\aD (W3.alloc (.cells #[x,y,z] T)) (w.heap.size+1) [.slice none 0 0,.slice none 0 0,.slice none 0 0] T'/\Below w.heap.size w (W3.alloc (.cells #[x,y,z] T)):=by
 have h1:=h01.size
 have h2:=hX.size
 have h3:=hO.size
 have B2:Below W0.heap.size W0 W3:=(h01.trans (hX.mono h1)).trans (hO.low (by omega) hr2 hr3)
 have nb:=aA (w:=W3) (.cells #[x,y,z] T)
 refine⟨aD.new W3 [x,y,z] T,fun hc=>?_,?_,?_⟩
 ·refine gP.mono (P:=fun g=>((a<=g/\g<W1.heap.size)\/W2.heap.size<=g)/\g<W3.heap.size) ?_ (fun g hg=>?_)
  ·exact gP.keep (w:=W3) (hT hc).lt (fun g hg=>nb.block g hg.2)
  ·show w.heap.size+2<=g
   obtain⟨hg1,hg2⟩:=hg
   rcases hg1 with ⟨h5,h6⟩|h5 <;> omega
 ·exact(nb.block _ (by omega)).trans ((B2.block _ (by omega)).trans N0)
 ·exact(HB0.trans (B2.mono (by omega))).trans (nb.mono (by omega))
theorem uj {W1 W2:EQ} (hX:Below W1.heap.size W1 W2) (l:List Fd) (c:Ch) (m:Nat) (hm:l.length=m) (h16:m<=16) (B:EL) (d b1 b2 a:Nat) (v2 v3:ER) (Q:EL) (n qc:Nat) (hn:c.q.length=n) (hn1:n<=17592186044415) (hqc:n<=qc) (RQ:Rd W1 Q (aV c.q)) (ha1:a<=b1) (h12:b1<=b2) (h2:b2<=W1.heap.size) (R1:gm b1 W1 B (aC l)) (hBa:∀ad,B=some ad->a<=ad.block) (own2:W1.ownsRow b1 68 3 v2 m (aC l)) (lt2:cO b2 v2) (own3:W1.ownsRow b2 137 4 v3 m (aJ (kM m))) (x0:0<=c.d.b) (x1:c.d.b<18446744073709551616) (hBu:∀ad,B=some ad->ad.block<W1.heap.size) (hr:aM c.d.k c.d.b c.d.t c.g.k c.g.l=false):
 Calls Tryz.prog 135 #[.agg #[.slice B m d,v2,v3],.agg #[.int .i64 c.op,.string c.s,.string c.g.s,.int .i64 c.g.k,.int .i64 c.g.l,.int .i64 c.d.k,.int .u64 c.d.b,.string c.d.t,.slice Q n qc]] W2 fun e w'=>dZ v2.ownBlock v3.ownBlock (fun g=>(a<=g/\g<W1.heap.size)\/W2.heap.size<=g) Tb.z 80 W2 e w':=by
 have hP1:∀ad,B=some ad->(a<=ad.block/\ad.block<W1.heap.size)\/W2.heap.size<=ad.block:=fun ad e=>by
  refine .inl ⟨hBa ad e,hBu ad e⟩
 have hz:=hX.size
 exact Bh l c m hm h16 B d b1 b2 v2 v3 (.slice Q n qc) W2 h12 (by omega) (R1.below (hX.mono (by omega))) (aG own2 hX) lt2 (aG own3 hX) _ (hP1) (fun g hg=>.inl ⟨Q7 ha1 (aF own2 g hg),aY own2 g hg⟩) (fun g hg=>.inl ⟨by have:=aF own3 g hg;omega,aY own3 g hg⟩) (fun g hg=>.inr hg) x0 x1 hr
theorem sW {W1 W2:EQ} (hX:Below W1.heap.size W1 W2) (l:List Fd) (c:Ch) (m:Nat) (hm:l.length=m) (h16:m<=16) (B:EL) (d b1 b2 a:Nat) (v2 v3:ER) (Q:EL) (n qc:Nat) (hn:c.q.length=n) (hn1:n<=17592186044415) (hqc:n<=qc) (RQ:Rd W1 Q (aV c.q)) (ha1:a<=b1) (h12:b1<=b2) (h2:b2<=W1.heap.size) (R1:gm b1 W1 B (aC l)) (hBa:∀ad,B=some ad->a<=ad.block) (own2:W1.ownsRow b1 68 3 v2 m (aC l)) (lt2:cO b2 v2) (own3:W1.ownsRow b2 137 4 v3 m (aJ (kM m))) (x0:0<=c.d.b) (x1:c.d.b<18446744073709551616) (hBu:∀ad,B=some ad->ad.block<W1.heap.size) (hr:aM c.d.k c.d.b c.d.t c.g.k c.g.l=true):
 Calls Tryz.prog 135 #[.agg #[.slice B m d,v2,v3],.agg #[.int .i64 c.op,.string c.s,.string c.g.s,.int .i64 c.g.k,.int .i64 c.g.l,.int .i64 c.d.k,.int .u64 c.d.b,.string c.d.t,.slice Q n qc]] W2 fun e w'=>dZ v2.ownBlock v3.ownBlock (fun g=>(a<=g/\g<W1.heap.size)\/W2.heap.size<=g) ⟨l,l++[c.g],kM m++[⟨-1,c.d⟩]⟩ 0 W2 e w':=by
 have hP1:∀ad,B=some ad->(a<=ad.block/\ad.block<W1.heap.size)\/W2.heap.size<=ad.block:=fun ad e=>by
  refine .inl ⟨hBa ad e,hBu ad e⟩
 have hz:=hX.size
 exact yy l c m hm h16 B d b1 b2 v2 v3 (.slice Q n qc) W2 h12 (by omega) (R1.below (hX.mono (by omega))) (aG own2 hX) lt2 (aG own3 hX) _ (hP1) (fun g hg=>.inl ⟨Q7 ha1 (aF own2 g hg),aY own2 g hg⟩) (fun g hg=>.inl ⟨by have:=aF own3 g hg;omega,aY own3 g hg⟩) (fun g hg=>.inr hg) x0 x1 hr
theorem jB {W1 W2:EQ} (hX:Below W1.heap.size W1 W2) (l:List Fd) (c:Ch) (m:Nat) (hm:l.length=m) (h16:m<=16) (B:EL) (d b1 b2 a:Nat) (v2 v3:ER) (Q:EL) (n qc:Nat) (hn:c.q.length=n) (hn1:n<=17592186044415) (hqc:n<=qc) (RQ:Rd W1 Q (aV c.q)) (ha1:a<=b1) (h12:b1<=b2) (h2:b2<=W1.heap.size) (R1:gm b1 W1 B (aC l)) (hBa:∀ad,B=some ad->a<=ad.block) (own2:W1.ownsRow b1 68 3 v2 m (aC l)) (lt2:cO b2 v2) (own3:W1.ownsRow b2 137 4 v3 m (aJ (kM m))) (x0:0<=c.d.b) (x1:c.d.b<18446744073709551616) (hBu:∀ad,B=some ad->ad.block<W1.heap.size) (bp:Nat) (F:ER) (hfn:W1.cell? ⟨bp,0,none⟩=some F) (hz:aW l c.s<0):
 Calls Tryz.prog 161 #[.agg #[.slice B m d,v2,v3],.agg #[.int .i64 c.op,.string c.s,.string c.g.s,.int .i64 c.g.k,.int .i64 c.g.l,.int .i64 c.d.k,.int .u64 c.d.b,.string c.d.t,.slice Q n qc],.pointer (some ⟨bp,0,none⟩)] W2 fun e w'=>dZ v2.ownBlock v3.ownBlock (fun g=>(a<=g/\g<W1.heap.size)\/W2.heap.size<=g) Tb.z 61 W2 e w':=by
 have hP1:∀ad,B=some ad->(a<=ad.block/\ad.block<W1.heap.size)\/W2.heap.size<=ad.block:=fun ad e=>by
  refine .inl ⟨hBa ad e,hBu ad e⟩
 have hzz:=hX.size
 exact zx l c m hm h16 B d b1 b2 v2 v3 (.slice Q n qc) W2 h12 (by omega) (R1.below (hX.mono (by omega))) (aG own2 hX) lt2 (aG own3 hX) _ (hP1) (fun g hg=>.inl ⟨Q7 ha1 (aF own2 g hg),aY own2 g hg⟩) (fun g hg=>.inl ⟨by have:=aF own3 g hg;omega,aY own3 g hg⟩) (fun g hg=>.inr hg) bp F (aE (B:=0) hX hfn) hz
theorem np {W1 W2:EQ} (hX:Below W1.heap.size W1 W2) (l:List Fd) (c:Ch) (m:Nat) (hm:l.length=m) (h16:m<=16) (B:EL) (d b1 b2 a:Nat) (v2 v3:ER) (Q:EL) (n qc:Nat) (hn:c.q.length=n) (hn1:n<=17592186044415) (hqc:n<=qc) (RQ:Rd W1 Q (aV c.q)) (ha1:a<=b1) (h12:b1<=b2) (h2:b2<=W1.heap.size) (R1:gm b1 W1 B (aC l)) (hBa:∀ad,B=some ad->a<=ad.block) (own2:W1.ownsRow b1 68 3 v2 m (aC l)) (lt2:cO b2 v2) (own3:W1.ownsRow b2 137 4 v3 m (aJ (kM m))) (x0:0<=c.d.b) (x1:c.d.b<18446744073709551616) (hBu:∀ad,B=some ad->ad.block<W1.heap.size) (bp:Nat) (hfn:W1.cell? ⟨bp,0,none⟩=some (.func (.func 137) #[] #[])) (k:Nat) (hz:aW l c.s=k)  :
 Calls Tryz.prog 161 #[.agg #[.slice B m d,v2,v3],.agg #[.int .i64 c.op,.string c.s,.string c.g.s,.int .i64 c.g.k,.int .i64 c.g.l,.int .i64 c.d.k,.int .u64 c.d.b,.string c.d.t,.slice Q n qc],.pointer (some ⟨bp,0,none⟩)] W2 fun e w'=>dZ v2.ownBlock v3.ownBlock (fun g=>(a<=g/\g<W1.heap.size)\/W2.heap.size<=g) ⟨l,l.eraseIdx k,(kM m).eraseIdx k⟩ 0 W2 e w':=by
 have hP1:∀ad,B=some ad->(a<=ad.block/\ad.block<W1.heap.size)\/W2.heap.size<=ad.block:=fun ad e=>by
  refine .inl ⟨hBa ad e,hBu ad e⟩
 have hzz:=hX.size
 exact tX l c m hm h16 B d b1 b2 v2 v3 (.slice Q n qc) W2 h12 (by omega) (R1.below (hX.mono (by omega))) (aG own2 hX) lt2 (aG own3 hX) _ (hP1) (fun g hg=>.inl ⟨Q7 ha1 (aF own2 g hg),aY own2 g hg⟩) (fun g hg=>.inl ⟨by have:=aF own3 g hg;omega,aY own3 g hg⟩) (fun g hg=>.inr hg) bp (aE (B:=0) hX hfn) k hz
theorem lN {W1 W2:EQ} (hX:Below W1.heap.size W1 W2) (l:List Fd) (c:Ch) (m:Nat) (hm:l.length=m) (h16:m<=16) (B:EL) (d b1 b2 a:Nat) (v2 v3:ER) (Q:EL) (n qc:Nat) (hn:c.q.length=n) (hn1:n<=17592186044415) (hqc:n<=qc) (RQ:Rd W1 Q (aV c.q)) (ha1:a<=b1) (h12:b1<=b2) (h2:b2<=W1.heap.size) (R1:gm b1 W1 B (aC l)) (hBa:∀ad,B=some ad->a<=ad.block) (own2:W1.ownsRow b1 68 3 v2 m (aC l)) (lt2:cO b2 v2) (own3:W1.ownsRow b2 137 4 v3 m (aJ (kM m))) (x0:0<=c.d.b) (x1:c.d.b<18446744073709551616) (hBu:∀ad,B=some ad->ad.block<W1.heap.size) (bp:Nat) (hfn:W1.cell? ⟨bp,0,none⟩=some (.func (.func 138) #[] #[])) (k:Nat) (hz:aW l c.s=k) (f:Fd) (hf:l[k]?=some f):
 Calls Tryz.prog 161 #[.agg #[.slice B m d,v2,v3],.agg #[.int .i64 c.op,.string c.s,.string c.g.s,.int .i64 c.g.k,.int .i64 c.g.l,.int .i64 c.d.k,.int .u64 c.d.b,.string c.d.t,.slice Q n qc],.pointer (some ⟨bp,0,none⟩)] W2 fun e w'=>dZ v2.ownBlock v3.ownBlock (fun g=>(a<=g/\g<W1.heap.size)\/W2.heap.size<=g) ⟨l,l.set k ⟨c.g.s,f.k,f.l⟩,kM m⟩ 0 W2 e w':=by
 have hP1:∀ad,B=some ad->(a<=ad.block/\ad.block<W1.heap.size)\/W2.heap.size<=ad.block:=fun ad e=>by
  refine .inl ⟨hBa ad e,hBu ad e⟩
 have hzz:=hX.size
 exact pI l c m hm h16 B d b1 b2 v2 v3 (.slice Q n qc) W2 h12 (by omega) (R1.below (hX.mono (by omega))) (aG own2 hX) lt2 (aG own3 hX) _ (hP1) (fun g hg=>.inl ⟨Q7 ha1 (aF own2 g hg),aY own2 g hg⟩) (fun g hg=>.inl ⟨by have:=aF own3 g hg;omega,aY own3 g hg⟩) (fun g hg=>.inr hg) bp (aE (B:=0) hX hfn) k hz f hf
theorem jC {W1 W2:EQ} (hX:Below W1.heap.size W1 W2) (l:List Fd) (c:Ch) (m:Nat) (hm:l.length=m) (h16:m<=16) (B:EL) (d b1 b2 a:Nat) (v2 v3:ER) (Q:EL) (n qc:Nat) (hn:c.q.length=n) (hn1:n<=17592186044415) (hqc:n<=qc) (RQ:Rd W1 Q (aV c.q)) (ha1:a<=b1) (h12:b1<=b2) (h2:b2<=W1.heap.size) (R1:gm b1 W1 B (aC l)) (hBa:∀ad,B=some ad->a<=ad.block) (own2:W1.ownsRow b1 68 3 v2 m (aC l)) (lt2:cO b2 v2) (own3:W1.ownsRow b2 137 4 v3 m (aJ (kM m))) (x0:0<=c.d.b) (x1:c.d.b<18446744073709551616) (hBu:∀ad,B=some ad->ad.block<W1.heap.size) (bp:Nat) (hfn:W1.cell? ⟨bp,0,none⟩=some (.func (.func 139) #[] #[])) (k:Nat) (hz:aW l c.s=k) (f:Fd) (hf:l[k]?=some f) (hr:aU f.k f.l c.g.k c.g.l=true):
 Calls Tryz.prog 161 #[.agg #[.slice B m d,v2,v3],.agg #[.int .i64 c.op,.string c.s,.string c.g.s,.int .i64 c.g.k,.int .i64 c.g.l,.int .i64 c.d.k,.int .u64 c.d.b,.string c.d.t,.slice Q n qc],.pointer (some ⟨bp,0,none⟩)] W2 fun e w'=>dZ v2.ownBlock v3.ownBlock (fun g=>(a<=g/\g<W1.heap.size)\/W2.heap.size<=g) ⟨l,l.set k ⟨f.s,c.g.k,c.g.l⟩,kM m⟩ 0 W2 e w':=by
 have hP1:∀ad,B=some ad->(a<=ad.block/\ad.block<W1.heap.size)\/W2.heap.size<=ad.block:=fun ad e=>by
  refine .inl ⟨hBa ad e,hBu ad e⟩
 have hzz:=hX.size
 exact kg l c m hm h16 B d b1 b2 v2 v3 (.slice Q n qc) W2 h12 (by omega) (R1.below (hX.mono (by omega))) (aG own2 hX) lt2 (aG own3 hX) _ (hP1) (fun g hg=>.inl ⟨Q7 ha1 (aF own2 g hg),aY own2 g hg⟩) (fun g hg=>.inl ⟨by have:=aF own3 g hg;omega,aY own3 g hg⟩) (fun g hg=>.inr hg) bp (aE (B:=0) hX hfn) k hz f hf hr
theorem je {W1 W2:EQ} (hX:Below W1.heap.size W1 W2) (l:List Fd) (c:Ch) (m:Nat) (hm:l.length=m) (h16:m<=16) (B:EL) (d b1 b2 a:Nat) (v2 v3:ER) (Q:EL) (n qc:Nat) (hn:c.q.length=n) (hn1:n<=17592186044415) (hqc:n<=qc) (RQ:Rd W1 Q (aV c.q)) (ha1:a<=b1) (h12:b1<=b2) (h2:b2<=W1.heap.size) (R1:gm b1 W1 B (aC l)) (hBa:∀ad,B=some ad->a<=ad.block) (own2:W1.ownsRow b1 68 3 v2 m (aC l)) (lt2:cO b2 v2) (own3:W1.ownsRow b2 137 4 v3 m (aJ (kM m))) (x0:0<=c.d.b) (x1:c.d.b<18446744073709551616) (hBu:∀ad,B=some ad->ad.block<W1.heap.size) (bp:Nat) (hfn:W1.cell? ⟨bp,0,none⟩=some (.func (.func 139) #[] #[])) (k:Nat) (hz:aW l c.s=k) (f:Fd) (hf:l[k]?=some f) (hr:aU f.k f.l c.g.k c.g.l=false):
 Calls Tryz.prog 161 #[.agg #[.slice B m d,v2,v3],.agg #[.int .i64 c.op,.string c.s,.string c.g.s,.int .i64 c.g.k,.int .i64 c.g.l,.int .i64 c.d.k,.int .u64 c.d.b,.string c.d.t,.slice Q n qc],.pointer (some ⟨bp,0,none⟩)] W2 fun e w'=>dZ v2.ownBlock v3.ownBlock (fun g=>(a<=g/\g<W1.heap.size)\/W2.heap.size<=g) Tb.z 80 W2 e w':=by
 have hP1:∀ad,B=some ad->(a<=ad.block/\ad.block<W1.heap.size)\/W2.heap.size<=ad.block:=fun ad e=>by
  refine .inl ⟨hBa ad e,hBu ad e⟩
 have hzz:=hX.size
 exact lL l c m hm h16 B d b1 b2 v2 v3 (.slice Q n qc) W2 h12 (by omega) (R1.below (hX.mono (by omega))) (aG own2 hX) lt2 (aG own3 hX) _ (hP1) (fun g hg=>.inl ⟨Q7 ha1 (aF own2 g hg),aY own2 g hg⟩) (fun g hg=>.inl ⟨by have:=aF own3 g hg;omega,aY own3 g hg⟩) (fun g hg=>.inr hg) bp (aE (B:=0) hX hfn) k hz f hf hr
theorem rA {W1 W2:EQ} (hX:Below W1.heap.size W1 W2) (l:List Fd) (c:Ch) (m:Nat) (hm:l.length=m) (h16:m<=16) (B:EL) (d b1 b2 a:Nat) (v2 v3:ER) (Q:EL) (n qc:Nat) (hn:c.q.length=n) (hn1:n<=17592186044415) (hqc:n<=qc) (RQ:Rd W1 Q (aV c.q)) (ha1:a<=b1) (h12:b1<=b2) (h2:b2<=W1.heap.size) (R1:gm b1 W1 B (aC l)) (hBa:∀ad,B=some ad->a<=ad.block) (own2:W1.ownsRow b1 68 3 v2 m (aC l)) (lt2:cO b2 v2) (own3:W1.ownsRow b2 137 4 v3 m (aJ (kM m))) (x0:0<=c.d.b) (x1:c.d.b<18446744073709551616) (hBu:∀ad,B=some ad->ad.block<W1.heap.size) (X2:EL) (y2 z2:Nat) (e2:v2=.slice X2 y2 z2) (X3:EL) (y3 z3:Nat) (e3:v3=.slice X3 y3 z3) (hq:fD c.q m=false):
 Calls Tryz.prog 140 #[.agg #[.slice B m d,v2,v3],.agg #[.int .i64 c.op,.string c.s,.string c.g.s,.int .i64 c.g.k,.int .i64 c.g.l,.int .i64 c.d.k,.int .u64 c.d.b,.string c.d.t,.slice Q n qc]] W2 fun e w'=>dZ v2.ownBlock v3.ownBlock (fun g=>(a<=g/\g<W1.heap.size)\/W2.heap.size<=g) Tb.z 80 W2 e w':=by
 have hP1:∀ad,B=some ad->(a<=ad.block/\ad.block<W1.heap.size)\/W2.heap.size<=ad.block:=fun ad e=>by
  refine .inl ⟨hBa ad e,hBu ad e⟩
 have hz:=hX.size
 subst e2 e3
 exact yB l c m hm h16 B d X2 y2 z2 X3 y3 z3 Q n qc hn hn1 hqc W2 (R1.rd.below hX) (RQ.below hX) _ _ _ hP1 (fun g hg=>.inr hg) hq
theorem pJ {W1 W2:EQ} (hX:Below W1.heap.size W1 W2) (l:List Fd) (c:Ch) (m:Nat) (hm:l.length=m) (h16:m<=16) (B:EL) (d b1 b2 a:Nat) (v2 v3:ER) (Q:EL) (n qc:Nat) (hn:c.q.length=n) (hn1:n<=17592186044415) (hqc:n<=qc) (RQ:Rd W1 Q (aV c.q)) (ha1:a<=b1) (h12:b1<=b2) (h2:b2<=W1.heap.size) (R1:gm b1 W1 B (aC l)) (hBa:∀ad,B=some ad->a<=ad.block) (own2:W1.ownsRow b1 68 3 v2 m (aC l)) (lt2:cO b2 v2) (own3:W1.ownsRow b2 137 4 v3 m (aJ (kM m))) (x0:0<=c.d.b) (x1:c.d.b<18446744073709551616) (hBu:∀ad,B=some ad->ad.block<W1.heap.size) (X2:EL) (y2 z2:Nat) (e2:v2=.slice X2 y2 z2) (X3:EL) (y3 z3:Nat) (e3:v3=.slice X3 y3 z3) (hq:fD c.q m=true):
 Calls Tryz.prog 140 #[.agg #[.slice B m d,v2,v3],.agg #[.int .i64 c.op,.string c.s,.string c.g.s,.int .i64 c.g.k,.int .i64 c.g.l,.int .i64 c.d.k,.int .u64 c.d.b,.string c.d.t,.slice Q n qc]] W2 fun e w'=>dZ v2.ownBlock v3.ownBlock (fun g=>(a<=g/\g<W1.heap.size)\/W2.heap.size<=g) ⟨l,c.q.map fun x=>(l[x.toNat]?).getD Fd.z,c.q.map fun x=>⟨x,Vl.z⟩⟩ 0 W2 e w':=by
 have hP1:∀ad,B=some ad->(a<=ad.block/\ad.block<W1.heap.size)\/W2.heap.size<=ad.block:=fun ad e=>by
  refine .inl ⟨hBa ad e,hBu ad e⟩
 have hz:=hX.size
 subst e2 e3
 exact vN l c m hm h16 B d X2 y2 z2 X3 y3 z3 Q n qc hn hn1 hqc W2 (R1.rd.below hX) (RQ.below hX) _ _ _ hP1 (fun g hg=>.inr hg) hq
theorem Below.undrew {B:Nat} {w w':EQ} (h:Below B w.drew w'):Below B w w':=⟨h.os,h.tape,h.output,h.size,h.block⟩
theorem Below.undrewS {w w':EQ} (h:Below w.drew.heap.size w.drew w'):Below w.heap.size w w':=Below.undrew h
theorem Below.undrewA {w w':EQ} {o:Obj} (h:Below (w.drew.alloc o).heap.size (w.drew.alloc o) w'):Below w.heap.size w w':=Below.undrew ((aA (w:=w.drew) o).trans (h.mono (by simp)))
theorem Below.undrewB {w w':EQ} {o:Obj} (h:Below (w.alloc o).drew.heap.size (w.alloc o).drew w'):Below w.heap.size w w':=(aA (w:=w) o).trans ((Below.undrew h).mono (by show w.heap.size<=(w.alloc o).heap.size;simp))
theorem aD.newA {w w':EQ} {cs:EO} {T:ES} (h:Below (w.drew.alloc (.cells cs.toArray T)).heap.size (w.drew.alloc (.cells cs.toArray T)) w'):aD w' w.heap.size cs T:=aD.below (aD.new w.drew cs T) h
theorem aD.newB {w w':EQ} {cs:EO} {T:ES} (h:Below (w.alloc (.cells cs.toArray T)).drew.heap.size (w.alloc (.cells cs.toArray T)).drew w'):aD w' w.heap.size cs T:=aD.below (w:=(w.alloc (.cells cs.toArray T)).drew) (aD.new w cs T) h
end
end Go.Proofs.YteembinfgbapgaaGreat
