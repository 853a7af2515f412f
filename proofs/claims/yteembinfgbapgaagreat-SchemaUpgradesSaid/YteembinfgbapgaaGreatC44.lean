/- Merged out of: Vn Vo. -/
import Derived.Test.YteembinfgbapgaaGreatC00
import Derived.Test.YteembinfgbapgaaGreatC43
import Derived.Test.YteembinfgbapgaaGreatC42
set_option linter.unusedSimpArgs false
set_option linter.unusedVariables false
set_option maxRecDepth 100000
set_option maxHeartbeats 8000000
namespace Go.Proofs.YteembinfgbapgaaGreat
section
open Go.RowKit Go.Lib Go.Maps
theorem tabsB_one {y:Ty} {t:Tb} (h:y.ts[0]?=some t):tabsB y 1=fldB t.n:=by
 rw[tabsB_succ,tabsB_zero,tabAtB,h]
 simp[tabB]
theorem rd_cell0 {w:World} {A:Option Addr} {fv:List FV} (h:Rd w A (cellsFV fv)) {v:FV} (hv:fv[0]?=some v):∃ad,A=some ad∧w.cell? ad=some (.slice v.A v.l.length v.a):=by
 obtain⟨ad,e,hc⟩:=h.fv hv
 rw[Addr.add_zero'] at hc
 exact⟨ad,e,hc⟩
theorem Rd.tabv {W:World} {A:Option Addr} {xs:List TabV} (h:Rd W A (cellsT xs)) {i:Nat} {x:TabV} (hx:xs[i]?=some x):∃ad,A=some ad∧W.cell? ⟨(ad.add (i * 3)).block,(ad.add (i * 3)).off+(1+1),none⟩=some (.slice x.C x.t.m.length x.c):=by
 obtain⟨h0,h1,h2⟩:=cellsT_get hx
 obtain⟨ad,e,hc⟩:=h (by intro e;rw[e] at h0;simp at h0)
 have q2:=hc (i * 3+2) _ h2
 rw[add_part _ _ 1] at q2
 exact⟨ad,e,q2⟩
theorem rEncode9_m {Q:Nat→Prop} {w:World} {A:Option Addr} {c:Nat} {X:List TyV} (h:RefIs Q w A c X) (n:Nat) (hn:X.length=n) (hok:CatOk (X.map (·.y))) (p:ByteArray) (hp:strL (catB (X.map (·.y)))=p):
 Calls Tryz.prog 46 #[.slice A n c] w fun e w'=>e=.returned (.string p)∧Below w.heap.size w w':=by
 have h16:n≤16:=by have:=hok.len;rw[Kz,hn] at this;exact this
 have hrow:=h.row
 obtain⟨L,hL⟩:∃L,X.map (·.y)=L:=⟨_,rfl⟩
 have hLn:L.length=n:=by rw[←hL,Kz];exact hn
 have hwn:IntKind.u64.wrap (n:Int)=(n:Int):=IntWalk.u64_in _ (by omega)
 obtain⟨p0,hp0⟩:∃q,strL [UInt8.ofNat ((n:Int)).toNat]=q:=⟨_,rfl⟩
 have hp0':strL (leL (n:Int) 1++tysB L 0)=p0:=by rw[tysB_zero,List.append_nil,le_one (by omega)];exact hp0
 have HN:=J0 hn;have HH:=J0 h;have HOK:=J0 hok;have HL:=J0 hL;have HLN:=J0 hLn;have HP:=J0 hp;have HP0:=J0 hp0;have HP0':=J0 hp0'
 clear hn h hok hL hLn hp hp0 hp0'
 go_enter Tryz.func46,Tryz.ntmps46
 go_upto_region 3 with (go_at_call 83;refine(rPut1_is (n:Int) (by omega) (by omega) p0 HP0.out _).mono ?_;rintro e w1 ⟨rfl,HB0⟩)
 go_loopw [3,4] (fun v i wr=>∃(k:Nat) (acc:ByteArray),k≤n∧i=.int .i64 k∧v=.string acc∧Hid (strL (leL (n:Int) 1++tysB L k)=acc)∧Below w.heap.size w wr) (fun _ i _=>n - (intOf i).toNat)
 case atStart=>exact⟨0,p0,by omega,rfl,rfl,HP0',HB0⟩
 case round=>
  obtain⟨k,acc,hk,rfl,rfl,hacc,HB⟩:=hrel
  clear HB0
  by_cases hlt:k<n
  ·obtain⟨x,hx⟩:∃x,X[k]?=some x:=⟨_,J4 (by rw[HN.out];exact hlt)⟩
   have hxm:=J7 hx
   have hLk:L[k]?=some x.y:=by rw[←HL.out,Kv,hx];rfl
   have hyo:=HOK.out.oks x hxm
   have hI:=HH.out.ty x hxm
   obtain⟨hfl,htl⟩:=hI.len
   obtain⟨nf,hnf⟩:∃m,x.fv.length=m:=⟨_,rfl⟩
   obtain⟨nt,hnt⟩:∃m,x.tv.length=m:=⟨_,rfl⟩
   obtain⟨top,htop⟩:∃m,x.y.top=m:=⟨_,rfl⟩
   have hlen:0<x.y.ts.length:=by cases hx:x.y.ts with|nil=>exact absurd hx hyo.ne|cons a r=>simp
   have hft:nf=nt+1:=by omega
   have hsum:x.y.old+nf=top+1:=by have h2:x.y.top=x.y.old+x.y.ts.length - 1:=rfl;omega
   have hhi:top≤64:=by have:=hyo.hi;omega
   have hlo:=hyo.lo
   have hnf64:nf≤64:=by omega
   have hnt63:nt≤63:=by omega
   obtain⟨sz,hsz⟩:∃q,x.y.s.size=q:=⟨_,rfl⟩
   have hsz15:sz≤15:=by
    have hym:=hyo.nm
    unfold nameB at hym
    rw[Qy] at hym
    have:=of_decide_eq_true hym.2
    omega
   obtain⟨V0,hV0⟩:∃V,x.fv[0]?=some V:=⟨_,J4 (by omega)⟩
   obtain⟨t0,ht0⟩:∃t,x.y.ts[0]?=some t:=⟨_,J4 (by omega)⟩
   have hV0l:V0.l=t0.n:=by
    have h1:(x.fv.map (·.l))[0]?=some V0.l:=by rw[Kv,hV0];rfl
    rw[hI.eF,Kv,ht0] at h1
    exact(Jj h1).symm
   obtain⟨m0,hm0⟩:∃q,V0.l.length=q:=⟨_,rfl⟩
   have hm016:m0≤16:=by rw[←hm0,hV0l];exact(rightT_16 (hyo.ok t0 (J7 ht0)).r).2.1
   have hV0s:FdS V0.l:=by rw[hV0l];exact(hyo.ok t0 (J7 ht0)).n.fds
   have hV0r:=hI.fl V0 (J7 hV0)
   obtain⟨old,hold⟩:∃q,x.y.old=q:=⟨_,rfl⟩
   obtain⟨p1,hp1⟩:∃q,strL [UInt8.ofNat ((sz:Int)).toNat]=q:=⟨_,rfl⟩
   obtain⟨p2,hp2⟩:∃q,strL [UInt8.ofNat ((old:Int)).toNat]=q:=⟨_,rfl⟩
   obtain⟨p3,hp3⟩:∃q,strL [UInt8.ofNat ((top:Int)).toNat]=q:=⟨_,rfl⟩
   obtain⟨p4,hp4⟩:∃q,strL (fldB V0.l)=q:=⟨_,rfl⟩
   have l1:p1.size=1:=by rw[←hp1,strL_size];rfl
   have l2:p2.size=1:=by rw[←hp2,strL_size];rfl
   have l3:p3.size=1:=by rw[←hp3,strL_size];rfl
   have l4:p4.size≤291:=by rw[←hp4,strL_size];exact fldB_len _
   have hal:acc.size≤1400000:=by
    rw[←hacc.out,strL_size,Qz,leL_length]
    have:=tysB_len (L:=L) (fun y hy=>HOK.out.ok y (by rw[HL.out];exact hy)) (by rw[HLN.out];omega) k
    omega
   have hend:acc++p1++x.y.s++p2++p3++p4=strL (leL (n:Int) 1++tysB L k++headB x.y++tabsB x.y 1):=by
    rw[tabsB_one ht0,headB,hsz,hold,htop,←hacc.out,←hp1,←hp2,←hp3,←hp4,hV0l,le_one (n:=sz) (by omega),le_one (n:=old) (by omega),le_one (n:=top) (by omega)]
    conv=>lhs;rw[←strL_bl x.y.s]
    simp only[strL_append,Xj]
   have z1:¬9223372036854775807<acc.size+p1.size:=by omega
   have z2:¬9223372036854775807<acc.size+p1.size+x.y.s.size:=by omega
   have z3:¬9223372036854775807<acc.size+p1.size+x.y.s.size+p2.size:=by omega
   have z4:¬9223372036854775807<acc.size+p1.size+x.y.s.size+p2.size+p3.size:=by omega
   have z5:¬9223372036854775807<acc.size+p1.size+x.y.s.size+p2.size+p3.size+p4.size:=by omega
   obtain⟨ad,rfl,c0,c1,c2,c3⟩:=(hrow.below HB).ty hx
   rw[hnf] at c2;rw[hnt] at c3
   have nb:=below_new (w:=wr) (.cells #[.string x.y.s,.int .i64 (x.y.old:Nat),.slice x.F nf x.f,.slice x.T nt x.t] 58)
   have P:=OBox.new wr [.string x.y.s,.int .i64 (x.y.old:Nat),.slice x.F nf x.f,.slice x.T nt x.t] 58
   have h0:(0:Int)≤(k:Int):=by omega
   have h1:(k:Int)<(n:Int):=by omega
   have hw1:IntKind.u64.wrap (x.y.s.size:Int)=(sz:Int):=by rw[hsz];exact IntWalk.u64_in _ (by omega)
   have hw2:IntKind.u64.wrap (old:Int)=(old:Int):=IntWalk.u64_in _ (by omega)
   have hw3:IntKind.u64.wrap (top:Int)=(top:Int):=IntWalk.u64_in _ (by omega)
   have hsum':old+nf=top+1:=by omega
   have ho65:old≤65:=by omega
   have HX:=J0 hx;have HLK:=J0 hLk;have HYO:=J0 hyo;have HIS:=J0 hI;have HNF:=J0 hnf;have HNT:=J0 hnt;have HFT:=J0 hft;have HS:=J0 hsum';have HM0:=J0 hm0;have HP1:=J0 hp1;have HP2:=J0 hp2;have HP3:=J0 hp3;have HP4:=J0 hp4;have HE:=J0 hend;have HV0:=J0 hV0;have HV0S:=J0 hV0s
   have HB5:=HB.trans (nb.mono HB.size)
   rw[hold] at c1 P nb HB5
   clear hx hLk hyo hI hnf hnt hft hsum hsum' hm0 hp1 hp2 hp3 hp4 hend hV0 hV0s hfl htl hlen htop hold hlo hsz hxm hV0l ht0 l1 l2 l3 l4 hal
   go_upto_region 6 with fail
   generalize wr.alloc (.cells #[.string x.y.s,.int .i64 (old:Nat),.slice x.F nf x.f,.slice x.T nt x.t] 58)=W5 at *
   generalize wr.heap.size=xb at *
   clear c0 c1 c2 c3 nb
   obtain⟨fa,hfa,hF0⟩:=rd_cell0 HIS.out.rF.rd HV0.out
   rw[hfa] at P
   rw[HM0.out] at hF0
   have HFA:=J0 hfa
   clear hfa
   have hcl:∀W',Below W5.heap.size W5 W'→W'.cell? ⟨xb,0,none⟩=some (.string x.y.s)∧W'.cell? ⟨xb,1,none⟩=some (.int .i64 (old:Nat))∧W'.cell? ⟨xb,2,none⟩=some (.slice (some fa) nf x.f)∧W'.cell? ⟨xb,3,none⟩=some (.slice x.T nt x.t)∧W'.cell? fa=some (.slice V0.A m0 V0.a):=fun W' hb=>by
    obtain⟨q0,q1,q2,q3⟩:=(P.below hb).f4
    exact⟨q0,q1,q2,q3,cell_below (B:=0) (HB5.trans (hb.mono HB5.size)) hF0⟩
   have HCL:=J0 hcl
   have hnf0:(0:Int)<(nf:Int):=by have:=HFT.out;omega
   have hnf1:0<nf:=by have:=HFT.out;omega
   clear hcl
   refine RW.start (fun w'=>Below W5.heap.size W5 w') (by kernel_rfl) (by kernel_rfl) (Jy _ _).drew ?_
   repeat (first
    |(refine' RW.val (by rfl) ?_ ?_;rotate_left;(focus (intro w' hS;have HB6:=hS;obtain⟨a0,a1,a2,a3,a4⟩:=HCL.out _ HB6;clear hS;go_simp;rfl));simp only[Act.put,J1,J3,J2])
    |(refine RW.off (by rfl) ?_;simp only[Act.put,J1,J3,J2])
    |(refine' RW.call (by rfl) ?_ ?_ ?_
      rotate_left 3
      (focus (intro w' hS;have HB6:=hS;obtain⟨a0,a1,a2,a3,a4⟩:=HCL.out _ HB6;clear hS;go_simp;exact⟨rfl,rfl⟩))
      (focus
        intro w' hS
        have HB6:=hS;obtain⟨a0,a1,a2,a3,a4⟩:=HCL.out _ HB6;clear hS
        first
         |((with_reducible refine(rPut1_is (sz:Int) (by omega) (by omega) p1 HP1.out _).mono ?_);rintro e w1 ⟨rfl,hb⟩;exact⟨rfl,(below_seq HB6 hb)⟩)
         |((with_reducible refine(rPut1_is (old:Int) (by omega) (by omega) p2 HP2.out _).mono ?_);rintro e w1 ⟨rfl,hb⟩;exact⟨rfl,(below_seq HB6 hb)⟩)
         |((with_reducible refine(rPut1_is (top:Int) (by omega) (by omega) p3 HP3.out _).mono ?_);rintro e w1 ⟨rfl,hb⟩;exact⟨rfl,(below_seq HB6 hb)⟩)
         |((with_reducible refine(rNewest_m x.y.s old nf (some fa) x.f x.T nt x.t top HS.out (by omega) _).mono ?_);rintro e w1 ⟨rfl,hb⟩;exact⟨rfl,(below_seq HB6 hb)⟩)
         |((with_reducible refine(rflds_m V0.A V0.a m0 V0.l HM0.out (by omega) HV0S.out p4 HP4.out _ (hV0r.below (HB5.trans (HB6.mono HB5.size)))).mono ?_);rintro e w1 ⟨rfl,hb⟩;exact⟨rfl,(below_seq HB6 hb)⟩))
      simp only[Act.put,J1,J3,J2]))
   refine RW.done (fun w' hS=>?_)
   have HB6:=hS;obtain⟨a0,a1,a2,a3,a4⟩:=HCL.out _ HB6;clear hS
   obtain⟨P1,hP1⟩:∃q,leL (n:Int) 1++tysB L k++headB x.y=q:=⟨_,rfl⟩
   have hP1l:P1.length≤1400100:=by
    rw[←hP1,Qz,Qz,leL_length]
    have h2:=tysB_len (L:=L) (fun y hy=>HOK.out.ok y (by rw[HL.out];exact hy)) (by rw[HLN.out];omega) k
    have h3:=headB_len HYO.out
    omega
   obtain⟨acc1,hacc1⟩:∃q,acc++p1++x.y.s++p2++p3++p4=q:=⟨_,rfl⟩
   have HA1:Hid (strL (P1++tabsB x.y (0+1))=acc1):=J0 (by rw[←hacc1,HE.out,hP1])
   have HPP:=J0 hP1
   rw[hacc1]
   clear hacc1 hP1 z1 z2 z3 z4 z5 hw1 hw2 hw3 HE HP1 HP2 HP3 HP4 hacc a0 a1 a2 a3 a4
   go_upto_region 8 with fail
   have HB6':=HB6
   clear HB6
   go_loopw [3,6] (fun v ix wx=>∃(i:Nat) (acc2:ByteArray),i≤nt∧ix=.int .i64 i∧v=.string acc2∧Hid (strL (P1++tabsB x.y (i+1))=acc2)∧Below W5.heap.size W5 wx) (fun _ ix _=>nt - (intOf ix).toNat)
   case atStart=>exact⟨0,acc1,by omega,rfl,rfl,HA1,HB6'⟩
   case round=>
    rename World=>wx
    obtain⟨i,acc2,hi,rfl,rfl,hacc2,HBx⟩:=hrel
    clear HB6' HA1
    obtain⟨a0,a1,a2,a3,_⟩:=HCL.out wx HBx
    by_cases hin:i<nt
    ·obtain⟨TV,hTV⟩:∃q,x.tv[i]?=some q:=⟨_,J4 (by rw[HNT.out];exact hin)⟩
     obtain⟨t,ht⟩:∃t,TV.t=t:=⟨_,rfl⟩
     have hyt:x.y.ts[i+1]?=some t:=by
      have h1:(x.tv.map (·.t))[i]?=some t:=by rw[Kv,hTV,←ht];rfl
      rw[HIS.out.eT,List.getElem?_tail] at h1
      exact h1
     obtain⟨V,hV⟩:∃V,x.fv[i+1]?=some V:=⟨_,J4 (by rw[HNF.out,HFT.out];omega)⟩
     have hVl:V.l=t.n:=by
      have h1:(x.fv.map (·.l))[i+1]?=some V.l:=by rw[Kv,hV];rfl
      rw[HIS.out.eF,Kv,hyt] at h1
      exact(Jj h1).symm
     have hto:=HYO.out.ok t (J7 hyt)
     obtain⟨hrl,hrN,hlM,hokm⟩:=rightT_iff.1 hto.r
     obtain⟨m1,hm1⟩:∃q,V.l.length=q:=⟨_,rfl⟩
     have hm116:m1≤16:=by rw[←hm1,hVl];exact(rightT_16 hto.r).2.1
     obtain⟨nm,hnm⟩:∃q,t.m.length=q:=⟨_,rfl⟩
     have hnm1:nm=m1:=by rw[←hm1,hVl];omega
     have hVs:FdS V.l:=by rw[hVl];exact hto.n.fds
     obtain⟨fa',e,hVc⟩:=HIS.out.rF.rd.fv hV
     rw[HFA.out] at e
     cases e
     rw[hm1] at hVc
     have hVr:=HIS.out.fl V (J7 hV)
     obtain⟨ta,hta,hTc⟩:=HIS.out.rT.rd.tabv hTV
     rw[ht,hnm] at hTc
     have hMr:=(HIS.out.tb TV (J7 hTV)).2.2
     rw[ht] at hMr
     have HBw:∀W',Below W5.heap.size W5 W'→Below w.heap.size w W':=fun W' hb=>HB5.trans (hb.mono HB5.size)
     obtain⟨pf,hpf⟩:∃q,strL (fldB V.l)=q:=⟨_,rfl⟩
     have lf:pf.size≤291:=by rw[←hpf,strL_size];exact fldB_len _
     have la:acc2.size≤1500000:=by
      rw[←hacc2.out,strL_size,Qz]
      have h1:=tabsB_len HYO.out (i+1)
      omega
     have z1:¬9223372036854775807<acc2.size+pf.size:=by omega
     obtain⟨ii,hii⟩:∃ii,i+1=ii:=⟨_,rfl⟩
     have hw1:IntKind.i64.wrap ((i:Int)+1)=(ii:Int):=(Xq _ (by omega)).trans (by omega)
     have g0:(0:Int)≤(ii:Int):=by omega
     have g1:(ii:Int)<(nf:Int):=by have:=HFT.out;omega
     rw[hii] at hVc
     have HII:=J0 hii
     have HT:=J0 hyt;have HTO:=J0 hto;have HVL:=J0 hVl;have HM1:=J0 hm1;have HNM:=J0 hnm;have HNM1:=J0 hnm1;have HVS:=J0 hVs;have HPF:=J0 hpf;have HOKM:=J0 hokm;have HTA:=J0 hta
     have hVcx:=cell_below (B:=0) (HBw _ HBx) hVc
     clear hyt hto hVl hm1 hnm hnm1 hVs hpf hokm hTV ht hV hrl hrN hlM hta hii
     go_upto_region 11 with (go_at_call 84;refine(rflds_m V.A V.a m1 V.l HM1.out (by omega) HVS.out pf HPF.out _ (hVr.below (HBw _ HBx))).mono ?_;rintro e w6 ⟨rfl,hb6⟩;have HB7:=HBx.trans (hb6.mono HBx.size))
     rename World=>w6
     obtain⟨acc3,hacc3⟩:∃q,acc2++pf=q:=⟨_,rfl⟩
     obtain⟨P2,hP2⟩:∃q,P1++tabsB x.y (i+1)++fldB t.n=q:=⟨_,rfl⟩
     have hP2l:P2.length≤1500000:=by
      rw[←hP2,Qz,Qz]
      have h1:=tabsB_len HYO.out (i+1)
      have h2:=fldB_len t.n
      omega
     have HA3:Hid (strL (P2++mvsB t 0)=acc3):=J0 (by rw[mvsB_zero,List.append_nil,←hacc3,←hacc2.out,←HPF.out,HVL.out,strL_append,hP2])
     have HP2:=J0 hP2
     rw[hacc3]
     clear hacc3 hP2 z1 hb6 a0 a1 a2 a3 hVcx la
     go_upto_region 12 with fail
     go_loopw [3,7] (fun v jx wy=>∃(j:Nat) (acc4:ByteArray),j≤nm∧jx=.int .i64 j∧v=.string acc4∧Hid (strL (P2++mvsB t j)=acc4)∧Below W5.heap.size W5 wy) (fun _ jx _=>nm - (intOf jx).toNat)
     case atStart=>exact⟨0,acc3,by omega,rfl,rfl,HA3,HB7⟩
     case round=>
      rename World=>wy
      obtain⟨j,acc4,hj,rfl,rfl,hacc4,HBy⟩:=hrel
      clear HB7 HA3
      obtain⟨a0,a1,a2,a3,_⟩:=HCL.out wy HBy
      rw[HTA.out] at a3
      have t2:=cell_below (B:=0) (HBw _ HBy) hTc
      have i0:(0:Int)≤(i:Int):=by omega
      have i1:(i:Int)<(nt:Int):=by omega
      by_cases hjn:j<nm
      ·obtain⟨mv,hmv⟩:∃q,t.m[j]?=some q:=⟨_,J4 (by rw[HNM.out];exact hjn)⟩
       obtain⟨f,hf⟩:∃q,t.n[j]?=some q:=⟨_,J4 (by have h1:=HNM1.out;have h2:=HM1.out;rw[HVL.out] at h2;omega)⟩
       have hok1:okMv t.o f mv=true:=by
        have:=HOKM.out j (by rw[HNM.out];exact hjn)
        rwa [okAt_mk hmv hf] at this
       have hw0:=HTO.out.w mv (J7 hmv)
       obtain⟨md,hmd,m0',m1',m2',m3'⟩:=(hMr.below (HBw _ HBy)).mv hmv
       have j0:(0:Int)≤(j:Int):=by omega
       have j1:(j:Int)<(nm:Int):=by omega
       have nbM:=below_new (w:=wy) (.cells #[.int .i64 mv.f,.int .i64 mv.d.k,.int .u64 mv.d.b,.string mv.d.t] 157)
       have PM:=OBox.new wy [.int .i64 mv.f,.int .i64 mv.d.k,.int .u64 mv.d.b,.string mv.d.t] 157
       have HBq:=HBy.trans (nbM.mono HBy.size)
       have hma:mvAt t j=mvB mv f:=by rw[mvAt,hmv,hf]
       have la4:acc4.size≤1600000:=by
        rw[←hacc4.out,strL_size,Qz]
        have h1:=mvsB_len t j
        have h2:=HNM1.out
        omega
       rw[hmd] at t2
       have HMV:=J0 hmv;have HF:=J0 hf;have HOK1:=J0 hok1;have HW0:=J0 hw0;have HMA:=J0 hma
       clear hmv hf hok1 hw0 hma hmd
       go_upto_region 15 with fail
       generalize wy.alloc (.cells #[.int .i64 mv.f,.int .i64 mv.d.k,.int .u64 mv.d.b,.string mv.d.t] 157)=wq at *
       generalize wy.heap.size=mb at *
       clear m0' m1' m2' m3' nbM a0 a1 a2 a3 t2
       obtain⟨q0,q1,q2,q3⟩:=PM.f4
       by_cases hfn:mv.f=-1
       ·have e1:(mv.f == -1)=true:=by simpa using hfn
        obtain⟨px,hpx⟩:∃q,encS mv.d.k mv.d.b mv.d.t f.k f.l=q:=⟨_,rfl⟩
        obtain⟨qx,hqx⟩:∃q,encE mv.d.k mv.d.b mv.d.t f.k f.l=q:=⟨_,rfl⟩
        have hpx2:px=strL (encQ9 mv.d f):=by rw[←hpx,encS,encQ9];split <;> rfl
        have lx:px.size≤64:=by rw[hpx2,strL_size];exact encQ9_len _ _
        obtain⟨acc5,hacc5⟩:∃q,acc4++(⟨#[255]⟩:ByteArray)++px=q:=⟨_,rfl⟩
        have HA5:Hid (strL (P2++mvsB t (j+1))=acc5):=J0 (by
         rw[mvsB_succ,HMA.out,mvB,if_pos hfn,←hacc5,hpx2,←hacc4.out]
         have e255:(⟨#[255]⟩:ByteArray)=strL [255]:=rfl
         rw[e255]
         simp only[strL_append,Xj])
        have sz255:(⟨#[255]⟩:ByteArray).size=1:=rfl
        have y1:¬9223372036854775807<acc4.size+1:=by omega
        have y2:¬9223372036854775807<acc4.size+1+px.size:=by omega
        have HPX:=J0 hpx;have HQX:=J0 hqx;have HA5':=J0 hacc5
        have hcq:∀W',Below wq.heap.size wq W'→W'.cell? ⟨mb,1,none⟩=some (.int .i64 mv.d.k)∧W'.cell? ⟨mb,2,none⟩=some (.int .u64 mv.d.b)∧W'.cell? ⟨mb,3,none⟩=some (.string mv.d.t)∧W'.cell? ⟨xb,2,none⟩=some (.slice (some fa) nf x.f)∧W'.cell? (fa.add ii)=some (.slice V.A m1 V.a)∧∃fd,V.A=some fd∧W'.cell? (fd.add (j * 3))=some (.string f.s)∧W'.cell? ⟨(fd.add (j * 3)).block,(fd.add (j * 3)).off+(0+1),none⟩=some (.int .i64 f.k)∧W'.cell? ⟨(fd.add (j * 3)).block,(fd.add (j * 3)).off+(1+1),none⟩=some (.int .i64 f.l):=fun W' hb=>by
         have hb5:=HBq.trans (hb.mono HBq.size)
         obtain⟨_,r1,r2,r3⟩:=(PM.below hb).f4
         obtain⟨_,_,r4,_,_⟩:=HCL.out W' hb5
         exact⟨r1,r2,r3,r4,cell_below (B:=0) (HBw _ hb5) hVc,(hVr.below (HBw _ hb5)).fld (by rw[HVL.out];exact HF.out)⟩
        obtain⟨_,_,_,_,_,fd,hfd,_⟩:=hcq wq (Jy _ _)
        have hcq2:∀W',Below wq.heap.size wq W'→W'.cell? ⟨mb,1,none⟩=some (.int .i64 mv.d.k)∧W'.cell? ⟨mb,2,none⟩=some (.int .u64 mv.d.b)∧W'.cell? ⟨mb,3,none⟩=some (.string mv.d.t)∧W'.cell? ⟨xb,2,none⟩=some (.slice (some fa) nf x.f)∧W'.cell? (fa.add ii)=some (.slice (some fd) m1 V.a)∧W'.cell? (fd.add (j * 3))=some (.string f.s)∧W'.cell? ⟨(fd.add (j * 3)).block,(fd.add (j * 3)).off+(0+1),none⟩=some (.int .i64 f.k)∧W'.cell? ⟨(fd.add (j * 3)).block,(fd.add (j * 3)).off+(1+1),none⟩=some (.int .i64 f.l):=fun W' hb=>by
         obtain⟨r1,r2,r3,r4,r5,fd',e,r6,r7,r8⟩:=hcq W' hb
         rw[hfd] at e r5
         cases e
         exact⟨r1,r2,r3,r4,r5,r6,r7,r8⟩
        have HCQ:=J0 hcq2
        have j2:(j:Int)<(m1:Int):=by have:=HNM1.out;omega
        clear hcq hcq2 hfd hpx hqx hpx2 hacc5 lx HMA hacc4 q1 q2 q3
        go_upto_region 16 with fail
        refine RW.start (fun w'=>Below wq.heap.size wq w') (by kernel_rfl) (by kernel_rfl) (Jy _ _).drew ?_
        repeat (first
         |(refine' RW.val (by rfl) ?_ ?_;rotate_left;(focus (intro w' hS;have HBz:=hS;obtain⟨r1,r2,r3,r4,r5,r6,r7,r8⟩:=HCQ.out _ HBz;clear hS;go_simp;rfl));simp only[Act.put,J1,J3,J2])
         |(refine RW.off (by rfl) ?_;simp only[Act.put,J1,J3,J2])
         |(refine' RW.call (by rfl) ?_ ?_ ?_
           rotate_left 3
           (focus (intro w' hS;have HBz:=hS;obtain⟨r1,r2,r3,r4,r5,r6,r7,r8⟩:=HCQ.out _ HBz;clear hS;go_simp;exact⟨rfl,rfl⟩))
           (focus
             intro w' hS
             have HBz:=hS;obtain⟨r1,r2,r3,r4,r5,r6,r7,r8⟩:=HCQ.out _ HBz;clear hS
             first
              |((with_reducible refine(rEncode_is mv.d.k mv.d.b mv.d.t f.s f.k f.l HW0.out.1 HW0.out.2 px qx HPX.out HQX.out _).mono ?_);rintro e w1 ⟨rfl,hb⟩;exact⟨rfl,(below_seq HBz hb)⟩))
           simp only[Act.put,J1,J3,J2]))
        refine RW.done (fun w' hS=>?_)
        have HBz:=hS;obtain⟨r1,r2,r3,r4,r5,r6,r7,r8⟩:=HCQ.out _ HBz;clear hS
        have HBf:=HBq.trans (HBz.mono HBq.size)
        clear hfn HCQ PM HBq
        go_wp2
        rw[HA5'.out]
        go_roundw
        case rel=>exact⟨j+1,acc5,by omega,by go_num,rfl,HA5,HBf⟩
        case measure=>simp[intOf];omega
       ·have e1:(mv.f == -1)=false:=by simpa using hfn
        obtain⟨hf0,_,fo,hfo,_⟩:=okMv_pos hfn HOK1.out
        have hf16:mv.f<256:=by
         have h1:=(J6.1 hfo).1
         have h2:=(rightT_16 HTO.out.r).1
         omega
        obtain⟨pb,hpb⟩:∃q,strL [UInt8.ofNat mv.f.toNat]=q:=⟨_,rfl⟩
        have hle:leL mv.f 1=[UInt8.ofNat mv.f.toNat]:=by
         obtain⟨b,hb⟩:∃b:Nat,mv.f=(b:Int):=⟨mv.f.toNat,by omega⟩
         rw[hb]
         exact le_one (by omega)
        have lb:pb.size=1:=by rw[←hpb,strL_size];rfl
        obtain⟨acc5,hacc5⟩:∃q,acc4++pb=q:=⟨_,rfl⟩
        have HA5:Hid (strL (P2++mvsB t (j+1))=acc5):=J0 (by
         rw[mvsB_succ,HMA.out,mvB,if_neg hfn,encQ9_none HOK1.out hfn,List.append_nil,←hacc5,←hpb,←hacc4.out,hle]
         simp only[strL_append,Xj])
        have y1:¬9223372036854775807<acc4.size+pb.size:=by omega
        have j2:(j:Int)<(m1:Int):=by have:=HNM1.out;omega
        have hwf:IntKind.u64.wrap mv.f=mv.f:=IntWalk.u64_in _ (by omega)
        have HPB:=J0 hpb;have HA5':=J0 hacc5
        clear hpb hle hacc5 hfo HMA hacc4 lb q1 q2 q3
        go_wp2_with (go_at_call 83;refine(rPut1_is mv.f hf0 hf16 pb HPB.out _).mono ?_;rintro e wz ⟨rfl,hbz⟩;have HBf:=HBq.trans (hbz.mono HBq.size))
        rw[HA5'.out]
        clear hfn
        go_roundw
        case rel=>exact⟨j+1,acc5,by omega,by go_num,rfl,HA5,HBf⟩
        case measure=>simp[intOf];omega
      ·obtain rfl:j=nm:=by omega
       have hfin:strL (P1++tabsB x.y (i+1+1))=acc4:=by
        rw[tabsB_succ x.y (i+1),tabAtB,HT.out,←hacc4.out,←HP2.out]
        show strL (P1++(tabsB x.y (i+1)++tabB (i+1) t))=_
        rw[tabB,if_neg (by omega),HNM.out]
        simp only[Xj]
       have HFI:=J0 hfin
       clear hfin
       go_wp2
       go_roundw
       case rel=>exact⟨i+1,acc4,by omega,by have h1:=HII.out;rw[h1],rfl,HFI,HBy⟩
       case measure=>have h1:=HII.out;simp[intOf];omega
    ·obtain rfl:i=nt:=by omega
     have hfin:strL (leL (n:Int) 1++tysB L (k+1))=acc2:=by
      have h1:=HIS.out.len.2
      have h2:=HNT.out
      have h3:=HIS.out.len.1
      have h4:=HNF.out
      have h5:=HFT.out
      rw[tysB_succ HLK.out,←hacc2.out,←HPP.out,tyB,show x.y.ts.length=i+1 by omega]
      simp only[Xj]
     have HFI:=J0 hfin
     have HBk:=HB5.trans (HBx.mono HB5.size)
     clear hfin
     go_wp2
     go_roundw
     case rel=>exact⟨k+1,acc2,by omega,by go_num,rfl,HFI,HBk⟩
     case measure=>simp[intOf];omega
  ·obtain rfl:k=n:=by omega
   have hfin:acc=p:=by
    rw[←hacc.out,←HP.out,HL.out,catB,HLN.out]
   subst hfin
   go_wp2
   go_ret
   exact⟨rfl,HB⟩
section
variable {P:Program} {ops:Array Oper} {Q:Exit→Act→World→Prop} {md:Region.Mode}
theorem wpAnyH_mono {S S':World→Prop} (hs:∀w,S' w→S w):∀(fuel:Nat) (listed:Array Bool) (a:Act) (w:World),wpAnyH P md ops Q S' fuel listed a w→wpAnyH P md ops Q S fuel listed a w
 |0,_,_,_,h=>h
 |fuel+1,_,_,_,h=>⟨h.1,fun i hi=>wpOp_mono (fun a' w' h'=>⟨hs _ h'.1,wpAnyH_mono hs fuel _ a' w' h'.2⟩) (h.2 i hi)⟩
end
theorem CatOk.perm {L D:List Ty} (h:CatOk D) (hp:L.Perm D):CatOk L:=by
 refine⟨fun y hy=>h.ok y (hp.subset hy),(hp.map _).nodup_iff.2 h.nd,?_⟩
 have:=hp.length_eq;have:=h.len;omega
theorem verTab_perm {L D:List Ty} (h:CatOk D) (hp:L.Perm D) (nm:ByteArray) (v:Int):verTab L nm v=verTab D nm v:=by
 rw[verTab,verTab,findY_perm hp h.nd]
theorem fldL_16 {D:List Ty} (h:CatOk D) (nm:ByteArray) (v:Int):(fldL D nm v).length≤16:=by
 cases hv:verTab D nm v with
 |none=>rw[fldL,hv];simp
 |some x=>
  rw[fldL,hv]
  cases hf:findY D nm with
  |none=>rw[verTab,hf] at hv;cases hv
  |some t=>
   rw[verTab,hf] at hv
   obtain⟨k,_,hk,_⟩:=tabAt_some (t:=t) (v:=v) (x:=x) hv
   exact(rightT_16 (((h.ok t (findY_mem hf).1).ok x (J7 hk)).r)).2.1
theorem hLs {L D:List Ty} (hp:L.Perm D):(L.map (·.s)).Perm (D.map (·.s)):=hp.map _
theorem findY_self {D:List Ty} (h:CatOk D) {y:Ty} {nm:ByteArray} (hy:y∈D) (hs:y.s=nm):findY D nm=some y:=by
 obtain⟨t,ht⟩:=findY_of (D:=D) (nm:=nm) (X5.2 ⟨y,hy,hs⟩)
 obtain⟨h1,h2⟩:=findY_mem ht
 rw[ht]
 obtain⟨i,hi⟩:=Qq.1 h1
 obtain⟨j,hj⟩:=Qq.1 hy
 have e1:(D.map (·.s))[i]?=some nm:=by rw[Kv,hi,←h2];rfl
 have e2:(D.map (·.s))[j]?=some nm:=by rw[Kv,hj,←hs];rfl
 obtain⟨hil,e1⟩:=J6.1 e1
 obtain⟨hjl,e2⟩:=J6.1 e2
 have:i=j:=(List.getElem?_inj hil h.nd).1 (by rw[J4 hil,J4 hjl,e1,e2])
 subst this
 rw[hi] at hj
 exact hj
theorem stands_m {W:World} {cp mp:Nat} {E:List En} {es:List MapEntry} {clock:Nat} (h:CatIs 89 80 W cp mp E es clock) (hok:CatOk (E.map (·.y))) {Q:Nat→Prop} {A:Option Addr} {c:Nat} {X:List TyV} (hr:RefIs Q W A c X) (n:Nat) (hn:X.length=n) (hL:(X.map (·.y)).Perm (E.map (·.y))) (hrk:Ranked (X.map (·.y))):
 Calls Tryz.prog 21 #[.pointer (some ⟨cp,0,none⟩),.slice A n c] W fun e w'=>e=.returned (.bool true)∧Below W.heap.size W w':=by
 have hol:=hok.perm hL
 have h16:n≤16:=by have:=hol.len;rw[Kz,hn] at this;exact this
 have hEl:E.length≤1000:=by have:=hok.len;rw[Kz] at this;omega
 obtain⟨z,hz⟩:∃z,(catB (X.map (·.y))).length=z:=⟨_,rfl⟩
 obtain⟨p,hp⟩:∃p,strL (catB (X.map (·.y)))=p:=⟨_,rfl⟩
 have hrow:=hr.row
 have hLn:(X.map (·.y)).length=n:=by rw[Kz];exact hn
 have HH:=J0 h;have HOK:=J0 hok;have HR:=J0 hr;have HN:=J0 hn;have HL:=J0 hL;have HRK:=J0 hrk;have HZ:=J0 hz;have HP:=J0 hp;have HOL:=J0 hol;have HLN:=J0 hLn
 clear h hok hr hn hL hrk hz hp hol hLn
 go_enter Tryz.func21,Tryz.ntmps21
 go_upto_region 2 with (go_at_call 14;refine(Names_s HH.out hEl _ HL.out HRK.out).mono ?_;rintro e w1 ⟨B,cB,rfl,hB,HB0⟩)
 rw[HN.out]
 replace hB:=hB.rd
 have hBw:∀wx,Below w1.heap.size w1 wx→Rd wx B (cellsS ((X.map (·.y)).map (·.s))):=fun wx hb=>hB.below hb
 refine wp_region_noPanic ?_
 refine wp_region_held_drew (S:=fun wx=>Below w1.heap.size w1 wx) (by kernel_rfl) (Jy _ _).drew (fun hHeld=>?_)
 try simp only[Act.put,J1,J3,J2,Ky,K9,Jz]
 refine wpAnyH_take (i:=0) (oi:=_) (v:=?_) rfl (by kernel_rfl) (by kernel_rfl) (by kernel_rfl) (fun _ _ _ h=>h) (Or.inl ⟨by rfl,?_⟩) hHeld ?_
 rotate_left
 ·(intro w hSw;(try dsimp only at hSw);go_simp;first|done|with_reducible rfl)
 try simp only[Act.put,J1,J3,J2,Ky,K9,Jz]
 refine wpAnyH_take (i:=1) (oi:=_) (v:=?_) rfl (by kernel_rfl) (by kernel_rfl) (by kernel_rfl) (fun _ _ _ h=>h) (Or.inl ⟨by rfl,?_⟩) hHeld ?_
 rotate_left
 ·(intro w hSw;(try dsimp only at hSw);go_simp;first|done|with_reducible rfl)
 try simp only[Act.put,J1,J3,J2,Ky,K9,Jz]
 refine wpAnyH_take (i:=2) (oi:=_) (v:=?_) rfl (by kernel_rfl) (by kernel_rfl) (by kernel_rfl) (fun _ _ _ h=>h) (Or.inl ⟨by rfl,?_⟩) hHeld ?_
 rotate_left
 ·(intro w hSw;(try dsimp only at hSw);go_simp;first|done|with_reducible rfl)
 try simp only[Act.put,J1,J3,J2,Ky,K9,Jz]
 refine wpAnyH_take (i:=3) (oi:=_) (v:=?_) rfl (by kernel_rfl) (by kernel_rfl) (by kernel_rfl) (fun _ _ _ h=>h) (Or.inl ⟨by rfl,?_⟩) hHeld ?_
 rotate_left
 ·(intro w hSw;(try dsimp only at hSw);go_simp;first|done|with_reducible rfl)
 try simp only[Act.put,J1,J3,J2,Ky,K9,Jz]
 refine wpAnyH_take (i:=4) (oi:=_) (v:=?_) rfl (by kernel_rfl) (by kernel_rfl) (by kernel_rfl) (fun _ _ _ h=>h) (Or.inl ⟨by rfl,?_⟩) hHeld ?_
 rotate_left
 ·(intro w hSw;(try dsimp only at hSw);go_simp;first|done|with_reducible rfl)
 try simp only[Act.put,J1,J3,J2,Ky,K9,Jz]
 refine wpAnyH_take (i:=5) (oi:=_) (v:=?_) rfl (by kernel_rfl) (by kernel_rfl) (by kernel_rfl) (fun _ _ _ h=>h) (Or.inl ⟨by rfl,?_⟩) hHeld ?_
 rotate_left
 ·(intro w hSw;(try dsimp only at hSw);go_simp;first|done|with_reducible rfl)
 try simp only[Act.put,J1,J3,J2,Ky,K9,Jz]
 refine wpAnyH_take (i:=6) (oi:=_) (v:=?_) rfl (by kernel_rfl) (by kernel_rfl) (by kernel_rfl) (fun _ _ _ h=>h) (Or.inl ⟨by rfl,?_⟩) hHeld ?_
 rotate_left
 ·(intro w hSw;(try dsimp only at hSw);go_simp;first|done|with_reducible rfl)
 try simp only[Act.put,J1,J3,J2,Ky,K9,Jz]
 refine wpAnyH_take (i:=9) (oi:=_) (v:=?_) rfl (by kernel_rfl) (by kernel_rfl) (by kernel_rfl) (fun _ _ _ h=>h) (Or.inl ⟨by rfl,?_⟩) hHeld ?_
 rotate_left
 ·(intro w hSw;(try dsimp only at hSw);go_simp;first|done|with_reducible rfl)
 try simp only[Act.put,J1,J3,J2,Ky,K9,Jz]
 refine wpAnyH_ready (rs:=[7]) (by kernel_rfl) (by simp) ?_
 refine AllReadyH.cons (o:=_) rfl (fun K hK=>?_) AllReadyH.nil
 go_simp
 (go_at_call 27;refine(Encode9_m ((HH.out.below HB0).below hHeld) HOK.out _ HL.out HRK.out z HZ.out).mono ?_;rintro e wE ⟨BE,cE,rfl,hE,hbE⟩;have HB:=hHeld.trans (hbE.mono hHeld.size);clear hHeld hbE)
 try (go_wp2_with fail)
 refine hK.out _ _ ?_ (fun hHeld=>?_)
 ·(try dsimp only);exact HB
 clear hK K
 try simp only[Act.put,J1,J3,J2,Ky,K9,Jz]
 refine wpAnyH_mono (S':=fun wx=>Below w1.heap.size w1 wx∧Rd wx BE (bytesV (catB (X.map (·.y))))) (fun _ h=>h.1) _ _ _ _ ?_
 replace hHeld:Below w1.heap.size w1 wE∧Rd wE BE (bytesV (catB (X.map (·.y)))):=⟨HB,hE⟩
 clear HB hE
 refine wpAnyH_take (i:=8) (oi:=_) (v:=?_) rfl (by kernel_rfl) (by kernel_rfl) (by kernel_rfl) (fun _ _ _ h=>h) (Or.inl ⟨by rfl,?_⟩) hHeld ?_
 rotate_left
 ·(intro w hSw;(try dsimp only at hSw);have hcv:=conv_at hSw.2 z cE HZ.out;rw[HP.out] at hcv;go_simp;first|done|with_reducible rfl)
 try simp only[Act.put,J1,J3,J2,Ky,K9,Jz]
 refine wpAnyH_ready (rs:=[10]) (by kernel_rfl) (by simp) ?_
 refine AllReadyH.cons (o:=_) rfl (fun K hK=>?_) AllReadyH.nil
 go_simp
 (go_at_call 46;refine(rEncode9_m ((HR.out.below HB0).below hHeld.1) n HN.out HOL.out p HP.out).mono ?_;rintro e wF ⟨rfl,hbF⟩;have HB:=hHeld.1.trans (hbF.mono hHeld.1.size);have hE:=hHeld.2.below hbF;clear hHeld hbF)
 try (go_wp2_with fail)
 refine hK.out _ _ ?_ (fun hHeld=>?_)
 ·exact⟨HB,hE⟩
 clear hK K
 try simp only[Act.put,J1,J3,J2,Ky,K9,Jz]
 refine wpAnyH_take (i:=11) (oi:=_) (v:=?_) rfl (by kernel_rfl) (by kernel_rfl) (by kernel_rfl) (fun _ _ _ h=>h) (Or.inl ⟨by rfl,?_⟩) hHeld ?_
 rotate_left
 ·(intro w hSw;(try dsimp only at hSw);go_simp;first|done|with_reducible rfl)
 try simp only[Act.put,J1,J3,J2,Ky,K9,Jz]
 refine wpAnyH_take (i:=12) (oi:=_) (v:=?_) rfl (by kernel_rfl) (by kernel_rfl) (by kernel_rfl) (fun _ _ _ h=>h) (Or.inl ⟨by rfl,?_⟩) hHeld ?_
 rotate_left
 ·(intro w hSw;(try dsimp only at hSw);go_simp;first|done|with_reducible rfl)
 try simp only[Act.put,J1,J3,J2,Ky,K9,Jz]
 refine wpAnyH_done (by kernel_rfl) ?_ _
 refine NoPanic.normal ?_
 have HB:=hHeld.1
 clear hHeld
 have HB':=HB
 clear HB
 go_upto_region 5 with fail
 go_loopw [6,7,33] (fun _ _ i wr=>∃k:Nat,k≤n∧i=.int .i64 k∧Below w1.heap.size w1 wr) (fun _ _ i _=>n - (intOf i).toNat)
 case atStart=>exact⟨0,by omega,rfl,HB'⟩
 case round=>
  obtain⟨k,hk,rfl,HB⟩:=hrel
  clear HB'
  by_cases hlt:k<n
  ·obtain⟨x,hx⟩:∃x,X[k]?=some x:=⟨_,J4 (by rw[HN.out];exact hlt)⟩
   have hxm:=J7 hx
   have hyo:=HOL.out.oks x hxm
   have hI:=HR.out.ty x hxm
   obtain⟨hfl,htl⟩:=hI.len
   obtain⟨nf,hnf⟩:∃m,x.fv.length=m:=⟨_,rfl⟩
   obtain⟨nt,hnt⟩:∃m,x.tv.length=m:=⟨_,rfl⟩
   obtain⟨top,htop⟩:∃m,x.y.top=m:=⟨_,rfl⟩
   have hlen:0<x.y.ts.length:=by cases hx:x.y.ts with|nil=>exact absurd hx hyo.ne|cons a r=>simp
   have hsum:x.y.old+nf=top+1:=by have h2:x.y.top=x.y.old+x.y.ts.length - 1:=rfl;omega
   have hhi:top≤64:=by have:=hyo.hi;omega
   have hlo:=hyo.lo
   obtain⟨nm,hnm⟩:∃q,x.y.s=q:=⟨_,rfl⟩
   have hmx:nm.size≤maxLen:=by rw[←hnm];exact name_max hyo.nm
   obtain⟨t,ht⟩:∃t,findY (E.map (·.y)) nm=some t:=findY_of ((hLs HL.out).subset (X5.2 ⟨x.y,X5.2 ⟨x,hxm,rfl⟩,hnm⟩))
   have hfx:findY (X.map (·.y)) nm=some x.y:=findY_self HOL.out (X5.2 ⟨x,hxm,rfl⟩) hnm
   rw[findY_perm HL.out HOK.out.nd,ht] at hfx
   obtain rfl:t=x.y:=Jj hfx
   obtain⟨old,hold⟩:∃q,x.y.old=q:=⟨_,rfl⟩
   have v1:verO (E.map (·.y)) nm=old:=by rw[verO,ht];exact hold
   have v2:verT (E.map (·.y)) nm=top:=by rw[verT,ht];exact htop
   have v3:verE (E.map (·.y)) nm=0:=by rw[verE,ht]
   obtain⟨bd,rfl,n0⟩:=(hBw _ HB).at (j:=k) (u:=.string nm) (by simp[cellsS,hx,hnm])
   obtain⟨ad,rfl,c0,c1,c2,c3⟩:=((hrow.below HB0).below HB).ty hx
   rw[hnf] at c2;rw[hnt] at c3;rw[hold] at c1 hsum hlo;rw[hnm] at c0
   have h0:(0:Int)≤(k:Int):=by omega
   have h1:(k:Int)<(n:Int):=by omega
   obtain⟨o1,ho1⟩:∃o1,o1+1=old:=⟨old - 1,by omega⟩
   have hw0:IntKind.i64.wrap ((old:Int) - 1)=(o1:Int):=(Xq _ (by omega)).trans (by omega)
   have hw2:IntKind.i64.wrap ((top:Int)+1)=((top+1:Nat):Int):=(Xq _ (by omega)).trans (by omega)
   have hw3:IntKind.i64.wrap ((k:Int)+1)=((k+1:Nat):Int):=(Xq _ (by omega)).trans (by omega)
   have hcl:∀W',Below w1.heap.size w1 W'→W'.cell? (ad.add (k * 4))=some (.string nm)∧W'.cell? ⟨(ad.add (k * 4)).block,(ad.add (k * 4)).off+(0+1),none⟩=some (.int .i64 (old:Nat))∧W'.cell? ⟨(ad.add (k * 4)).block,(ad.add (k * 4)).off+(1+1),none⟩=some (.slice x.F nf x.f)∧W'.cell? ⟨(ad.add (k * 4)).block,(ad.add (k * 4)).off+(2+1),none⟩=some (.slice x.T nt x.t):=fun W' hb=>by
    obtain⟨ad',e,q0,q1,q2,q3⟩:=((hrow.below HB0).below hb).ty hx
    cases e
    rw[hnf] at q2;rw[hnt] at q3;rw[hold] at q1;rw[hnm] at q0
    exact⟨q0,q1,q2,q3⟩
   have HCL:=J0 hcl
   have HV1:=J0 v1;have HV2:=J0 v2;have HV3:=J0 v3;have HS:=J0 hsum;have HO1:=J0 ho1;have HMX:=J0 hmx
   have ho64:old≤65:=by omega
   clear hx hI hyo hfl htl hnf hnt htop hlen hnm hold v1 v2 v3 hfx ht c0 c1 c2 c3 hcl hxm hsum hlo ho1
   go_upto_region 8 with (go_at_call 15;refine(Versions_m ((HH.out.below HB0).below HB) HMX.out HOK.out _ rfl old top 0 HV1.out HV2.out HV3.out).mono ?_;rintro e w5 ⟨rfl,hb5⟩;replace HB:=HB.trans (hb5.mono HB.size);clear hb5)
   obtain⟨c0,c1,c2,c3⟩:=HCL.out _ HB
   go_upto_region 10 with (go_at_call 24;refine(rNewest_m nm old nf x.F x.f x.T nt x.t top HS.out (by omega) _).mono ?_;rintro e w6 ⟨rfl,hb6⟩;replace HB:=HB.trans (hb6.mono HB.size);clear hb6)
   go_upto_region 11 with fail
   have HB2:=HB
   clear HB c0 c1 c2 c3 n0
   go_loopw [11] (fun i wy=>∃v:Nat,v≤top+2∧i=.int .i64 v∧Below w1.heap.size w1 wy) (fun i _=>top+2 - (intOf i).toNat)
   case atStart=>exact⟨o1,by have:=HO1.out;have:=HS.out;omega,rfl,HB2⟩
   case round=>
    rename World=>wx
    obtain⟨v,hv,rfl,HB⟩:=hrel
    clear HB2
    by_cases hvt:v≤top+1
    ·have hvv:decide ((v:Int)≤((top+1:Nat):Int))=true:=by simp;omega
     have hvw:IntKind.i64.wrap ((v:Int)+1)=((v+1:Nat):Int):=(Xq _ (by omega)).trans (by omega)
     obtain⟨q,hq⟩:∃q,fldE (E.map (·.y)) nm (v:Int)=q:=⟨_,rfl⟩
     obtain⟨l,hl⟩:∃l,fldL (E.map (·.y)) nm (v:Int)=l:=⟨_,rfl⟩
     obtain⟨m,hm⟩:∃m,l.length=m:=⟨_,rfl⟩
     have hm16:m≤16:=by rw[←hm,←hl];exact fldL_16 HOK.out _ _
     have hq':fldE (X.map (·.y)) nm (v:Int)=q:=by rw[←hq,fldE,fldE,verTab_perm HOK.out HL.out]
     have hl':fldL (X.map (·.y)) nm (v:Int)=l:=by rw[←hl,fldL,fldL,verTab_perm HOK.out HL.out]
     have HQ:=J0 hq;have HLL:=J0 hl;have HQ':=J0 hq';have HL':=J0 hl';have HM:=J0 hm
     clear hq hl hq' hl' hm
     go_upto_region 15 with (first
      |(go_at_call 16;refine(Fields_m ((HH.out.below HB0).below HB) HMX.out HOK.out _ rfl (v:Int) q HQ.out l HLL.out m HM.out).mono ?_;rintro e w6 ⟨B6,b6,rfl,_,r6,hb6⟩;replace HB:=HB.trans (hb6.mono HB.size);replace r6:=r6.rd;clear hb6)
      |(go_at_call 40;refine(rFields_m ((HR.out.below HB0).below HB) n HN.out HOL.out nm (v:Int) q HQ'.out l HL'.out m HM.out).mono ?_;rintro e w7 ⟨B7,b7,rfl,r7,hb7⟩;replace HB:=HB.trans (hb7.mono HB.size);replace r6:=r6.below hb7;clear hb7))
     go_wp2_with (go_at_call 22;refine(Same6_m B6 B7 b6 b7 m m l l HM.out HM.out true (by simp[sameFB]) _ r6 r7 (by omega) (by omega)).mono ?_;rintro e w8 ⟨rfl,hb8⟩;replace HB:=HB.trans (hb8.mono HB.size);clear hb8)
     go_roundw
     case rel=>exact⟨v+1,by omega,by go_num,HB⟩
     case measure=>simp[intOf];omega
    ·obtain rfl:v=top+2:=by omega
     have hvv:decide (((top+2:Nat):Int)≤((top+1:Nat):Int))=false:=by rw[decide_eq_false_iff_not];omega
     go_wp2
     go_roundw
     case rel=>exact⟨k+1,by omega,by go_num,HB⟩
     case measure=>simp[intOf];omega
  ·obtain rfl:k=n:=by omega
   go_wp2
   go_ret
   exact⟨rfl,HB0.trans (HB.mono HB0.size)⟩
end
end Go.Proofs.YteembinfgbapgaaGreat
