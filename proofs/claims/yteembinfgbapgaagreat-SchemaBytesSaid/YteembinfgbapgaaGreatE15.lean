/- Merged out of: Yc Vp Yd Ye Yf Yg Yj Yk Yh Ym. -/
import Derived.Test.YteembinfgbapgaaGreatE00
import Derived.Test.YteembinfgbapgaaGreatE14
import Derived.Test.YteembinfgbapgaaGreatE03
import Derived.Test.YteembinfgbapgaaGreatE09
import Derived.Test.YteembinfgbapgaaGreatE10
import Derived.Test.YteembinfgbapgaaGreatE02
import Derived.Test.YteembinfgbapgaaGreatE04
set_option linter.unusedSimpArgs false
set_option linter.unusedVariables false
set_option maxRecDepth 100000
set_option maxHeartbeats 8000000
namespace Go.Proofs.YteembinfgbapgaaGreat
section
open Go.RowKit Go.Lib Go.Maps
def Bg (W0:EQ) (p:Nat) (Qo:Nat->Prop) (old:List Fd) (first:Bool) (l:EN) (w:EQ) (e:Ending) (w':EQ):Prop:=
 ∃(x:bB) (l':EN) (am':Bool),e=.returned (.agg #[.slice x.A x.t.o.length x.a,.slice x.B x.t.n.length x.b,.slice x.C x.t.m.length x.c])/\x.Is (fun g=>Qo g\/w.heap.size<=g) w'/\l'.length<=l.length/\im W0 w' p l' am'/\dU false (jH old first l) x.t l' am'/\(am'=false->iH x.t)/\aO (some p) none w w'
def Eg (bs:EN) (w:EQ) (e:Ending) (w':EQ):Prop:=∃v q,e=.returned (.tuple #[v,.int .i64 q])/\((∃fs,da bs=some fs/\q=0/\w'.ownsRow w.heap.size 68 3 v fs.length (aC fs))\/(da bs=none/\q=60/\v=.slice none 0 0))/\Below w.heap.size w w'
theorem xQ (A:EL) (c x:Nat) (b:EN) (hx:b.length=x) (w:EQ) (hA:Rd w A (aH b)) (hl:x<=2147483647) (hcap:x<=c):
 Calls Tryz.prog 87 #[.slice A x c] w fun e w'=>Eg b w e w':=by
 subst hx
 refine(ow A c b w hA hl hcap).mono ?_
 rintro e w' ⟨⟨fs,v,h1,rfl,h2⟩|⟨h1,rfl⟩,hb⟩
 ·exact⟨v,0,rfl,.inl ⟨fs,h1,rfl,h2⟩,hb⟩
 ·exact⟨_,60,rfl,.inr ⟨h1,rfl,rfl⟩,hb⟩
theorem im.set {W0 w:EQ} {p:Nat} {l:EN} {am:Bool} (h:im W0 w p l am) (b:Bool):im W0 (w.setCell ⟨p,1,none⟩ (.bool b)) p l b:=by
 obtain⟨A,c,h1,h2,h3,h4⟩:=h.ex
 exact⟨⟨A,c,aI h1 1 (.bool b),h2,h3,h4⟩,h.b.setCell h.p _,h.p⟩
theorem im.far {W0 w:EQ} {p u:Nat} {l:EN} {am:Bool} (h:im W0 w p l am) (hu:u≠p) (hu0:W0.heap.size<=u) (j:Nat) (v:ER):im W0 (w.setCell ⟨u,j,none⟩ v) p l am:=h.only ((aO.of (Jy _ _)).setU j v) hu hu0
theorem im.box {W0 w:EQ} {p:Nat} {l:EN} {am:Bool} (h:im W0 w p l am):∃A c,w.cell? ⟨p,0,none⟩=some (.slice A l.length c)/\w.cell? ⟨p,1,none⟩=some (.bool am)/\w.frozen? ⟨p,0,none⟩=false/\w.frozen? ⟨p,1,none⟩=false:=by
 obtain⟨A,c,h1,_⟩:=h.ex
 exact⟨A,c,h1.f2⟩
theorem im.lt {W0 w:EQ} {p:Nat} {l:EN} {am:Bool} (h:im W0 w p l am):p<w.heap.size:=by
 obtain⟨A,c,h1,_⟩:=h.ex
 exact h1.lt
theorem fw {fs:List Fd} (h:aK fs=true):mU fs:=fun f hf=>by
 have:=gY h hf
 unfold bI at this
 rw[Qz] at this
 have:=Yv this.2
 omega
theorem jw {b:EN} {l:List Fd} (h:da b=some l):aK l=true:=((gv b l).1 h).1
theorem aO.sw {r2 r3:Option Nat} {w W:EQ} (h:aO r2 r3 w W):aO r3 r2 w W:=⟨h.os,h.tape,h.output,h.size,fun k hk h1 h2=>h.block k hk h2 h1⟩
theorem aO.in2 {u:Nat} {r3:Option Nat} {w W:EQ} (h:aO (some u) none w W):aO (some u) r3 w W:=⟨h.os,h.tape,h.output,h.size,fun k hk h1 _=>h.block k hk h1 (by simp)⟩
theorem aO.drop3 {r2:Option Nat} {t:Nat} {w W:EQ} (h:aO r2 (some t) w W) {w0:EQ} (h0:aO r2 none w0 w) (ht:w0.heap.size<=t):aO r2 none w0 W:=
 ⟨h.os.trans h0.os,h.tape.trans h0.tape,h.output.trans h0.output,Q7 h0.size h.size,fun k hk h1 _=>(h.block k (Nat.lt_of_lt_of_le hk h0.size) h1 (by simp;omega)).trans (h0.block k hk h1 (by simp))⟩
theorem au.nil (P:Nat->Prop) (w:EQ) (A:EL):au P w A []:=fun hn=>absurd rfl hn
theorem dU.none {α:Type} {o:Option (α×EN)} {x:α} {l:EN} (h:dU false o x l true):o=none:=by
 cases o with
 |none=>rfl
 |some v=>exact absurd h.2.2 (by decide)
theorem im.keep {W0 w w':EQ} {p:Nat} {l:EN} {am:Bool} (h:im W0 w p l am) (hk:w'.heap[p]?=w.heap[p]?) (hb:Below W0.heap.size W0 w'):im W0 w' p l am:=by
 obtain⟨A,c,h1,h2,h3,h4⟩:=h.ex
 exact⟨⟨A,c,hk.trans h1,h2,h3,h4⟩,hb,h.p⟩
theorem aO.set3 {r2:Option Nat} {u:Nat} {w W:EQ} (h:aO r2 (some u) w W) (j:Nat) (v:ER):aO r2 (some u) w (W.setCell ⟨u,j,none⟩ v):=
 ⟨h.os,h.tape,h.output,by simpa using h.size,fun k hk h1 h2=>(J5 _ _ _ _ (fun e=>h2 (congrArg some e))).trans (h.block k hk h1 h2)⟩
theorem Cy {W0 w:EQ} {p:Nat} {l:EN} (h:im W0 w p l false) (hl:l.length<=100000000) (O:EL) (no co:Nat) (old:List Fd) (hno:old.length=no) (h16:no<=16) (hco:no<=co) (Qo:Nat->Prop) (hO:au Qo w O (aC old)) (hQp:∀g,Qo g->g≠p) (hNo:mU old) (first:Bool):
 Calls Tryz.prog 51 #[.pointer (some ⟨p,0,none⟩),.slice O no co,.bool first] w fun e w'=>Bg W0 p Qo old first l w e w':=by
 have nb:=aA (w:=w) (.cells #[.slice none 0 0,.slice none 0 0,.slice none 0 0] 96)
 have R:=aD.new w [.slice none 0 0,.slice none 0 0,.slice none 0 0] 96
 have h0:=h.below nb
 have hpw:=h.lt
 have hW0:=h.b.size
 have HNO:=J0 hno;have HQP:=J0 hQp;have HNS:=J0 hNo;have HO:=J0 hO
 clear hno hQp hNo hO
 go_enter Tryz.func51,Tryz.ntmps51
 go_upto_region 1 with fail
 generalize w.alloc (.cells #[.slice none 0 0,.slice none 0 0,.slice none 0 0] 96)=w0 at *
 have Ow:aO (some p) none w w0:=aO.of nb
 obtain⟨r,hr⟩:∃r,w.heap.size=r:=⟨_,rfl⟩
 rw[hr] at R hpw hW0 |-
 go_upto_region 2 with (first|(go_at_call 48;refine(pt h0 2 (.inr rfl) hl).mono ?_;rintro e W1 ⟨x,l1,am1,rfl,hx,hl1,S1,st1,O1⟩)|(go_at_call 49;refine(ra S1 x (by omega) (by omega)).mono ?_;rintro e W2 ⟨B,c',bs,l2,am2,rfl,hc',hcm,hbs,hR,hl2,S2,st2,O2⟩)|(go_at_call 87;refine(xQ B c' x bs hbs _ hR (by omega) hc').mono ?_;rintro e W3 ⟨v,q,rfl,hd,hb3⟩))
 have Ow3:aO (some p) none w W3:=((Ow.then O1).then O2).seq hb3
 have S3:=S2.below hb3
 have hrp:r≠p:=by omega
 have R3:aD W3 r [.slice none 0 0,.slice none 0 0,.slice none 0 0] 96:=((R.only O1 (by simpa using hrp) (by simp)).only O2 (by simpa using hrp) (by simp)).below hb3
 have hrz:r<W2.heap.size:=((R.only O1 (by simpa using hrp) (by simp)).only O2 (by simpa using hrp) (by simp)).lt
 have HST1:=J0 st1;have HST2:=J0 st2;have HR:=J0 hr
 clear st1 st2 S1 S2 R h0 nb O1 O2 Ow hR
 obtain⟨r0,r1,r2,r3,r4,r5⟩:=R3.f3
 obtain⟨RA,Rc,q0,q1,q2,q3⟩:=S3.box
 rcases hd with ⟨fs,hdl,rfl,hown⟩|⟨hdl,rfl,rfl⟩
 rotate_left
 ·have fin:Bg W0 p Qo old first l w (.returned (.agg #[.slice none 0 0,.slice none 0 0,.slice none 0 0])) ((((W3.setCell ⟨p,1,none⟩ (.bool true)).setCell ⟨r,0,none⟩ (.slice none 0 0)).setCell ⟨r,1,none⟩ (.slice none 0 0)).setCell ⟨r,2,none⟩ (.slice none 0 0)):=by
   have hr0:W0.heap.size<=r:=hW0
   have hrw:w.heap.size<=r:=Nat.le_of_eq HR.out
   refine⟨⟨Tb.z,none,0,none,0,none,0⟩,l2,true,rfl,⟨au.nil _ _ _,au.nil _ _ _,au.nil _ _ _,J9 _,J9 _⟩,by omega,(((S3.set true).far hrp hr0 0 _).far hrp hr0 1 _).far hrp hr0 2 _,?_,(fun hc=>by cases hc),(((Ow3.setU 1 _).setCell (p:=⟨r,0,none⟩) hrw _).setCell (p:=⟨r,1,none⟩) hrw _).setCell (p:=⟨r,2,none⟩) hrw _⟩
   have hp:dU false (jg l) ([]:List Fd) l2 true:=mg HST1.out HST2.out (fun hx=>by rw[hdl] at hx;cases hx) (fun _=>rfl) (fun _=>rfl) (fun fs' hx=>by rw[hdl] at hx;cases hx)
   exact Ak (dU.none hp)
  have FIN:=J0 fin
  clear fin
  go_wp2
  refine Xx (v:=.agg #[.slice none 0 0,.slice none 0 0,.slice none 0 0]) (by simp[results,Tryz.results51,go_sem, *];done) rfl FIN.out
 have hfr:=jw hdl
 have hn16:fs.length<=16:=(aQ hfr).2
 obtain⟨nf,hnf⟩:∃n,fs.length=n:=⟨_,rfl⟩
 rw[hnf] at hown hn16
 obtain⟨F,cF,rfl,hcF,_,rF⟩:=aL hown
 have hrow:dU false (jg l) fs l2 am2:=mg HST1.out HST2.out (fun _=>rfl) (fun hx=>by rw[hdl] at hx;cases hx) (fun h=>h) (fun fs' hx=>by rw[hdl] at hx;exact Jj hx)
 have HFR:=J0 hfr;have HNF:=J0 hnf;have HRW:=J0 hrow
 clear hfr hnf hrow hdl
 cases first
 rotate_left
 ·go_wp2_with (go_at_call 45;refine(jO F cF nf fs HNF.out HFR.out _ rF (by omega) hcF).mono ?_;rintro e W4 ⟨B4,d4,v2,v3,b1,b2,rfl,hd4,hb1,hb12,hb2,R1,hBl,own2,lt2,own3,hb4⟩;obtain⟨X2,z2,rfl,u1,u2,u3⟩:=aL own2;obtain⟨X3,z3,rfl,u4,u5,u6⟩:=aL own3;have R4:=R3.below hb4;clear r0 r1 r2 r3 r4 r5;obtain⟨r0,r1,r2,r3,r4,r5⟩:=R4.f3)
  have hz3:=hb3.size
  have hz4:=hb4.size
  have hrw:w.heap.size<=r:=Nat.le_of_eq HR.out
  have hr0:W0.heap.size<=r:=hW0
  have hkp:=bx HFR.out
  have fin:Bg W0 p Qo old true l w (.returned (.agg #[.slice B4 nf d4,.slice X2 nf z2,.slice X3 nf z3])) (((W4.setCell ⟨r,0,none⟩ (.slice B4 nf d4)).setCell ⟨r,1,none⟩ (.slice X2 nf z2)).setCell ⟨r,2,none⟩ (.slice X3 nf z3)):=by
   have ks:∀g,W3.heap.size<=g->(((W4.setCell ⟨r,0,none⟩ (.slice B4 nf d4)).setCell ⟨r,1,none⟩ (.slice X2 nf z2)).setCell ⟨r,2,none⟩ (.slice X3 nf z3)).heap[g]?=W4.heap[g]?:=fun g hg=>(J5 _ _ _ _ (by show g≠r;omega)).trans ((J5 _ _ _ _ (by show g≠r;omega)).trans (J5 _ _ _ _ (by show g≠r;omega)))
   have hw3:=Ow3.size
   have qm:∀{A:EL} {cs:EO},au (fun g=>W3.heap.size<=g) W4 A cs->au (fun g=>Qo g\/w.heap.size<=g) (((W4.setCell ⟨r,0,none⟩ (.slice B4 nf d4)).setCell ⟨r,1,none⟩ (.slice X2 nf z2)).setCell ⟨r,2,none⟩ (.slice X3 nf z3)) A cs:=fun hx=>(hx.keep ks).mono (fun g hg=>.inr (by omega))
   have e1:(bA fs).o.length=nf:=by rw[hkp];exact HNF.out
   have e2:(bA fs).n.length=nf:=by rw[hkp];exact HNF.out
   have e3:(bA fs).m.length=nf:=by rw[hkp];show(kM fs.length).length=nf;rw[aP];exact HNF.out
   refine⟨⟨bA fs,B4,d4,X2,z2,X3,z3⟩,l2,am2,by rw[e1,e2,e3],⟨?_,?_,?_,by rw[e1];exact hd4,by rw[e2];exact u1⟩,by omega,(((S3.below hb4).far hrp hr0 0 _).far hrp hr0 1 _).far hrp hr0 2 _,ny HRW.out,fun _=>iH.keep HFR.out (fw HFR.out),((((Ow3.seq hb4).setCell (p:=⟨r,0,none⟩) hrw _).setCell (p:=⟨r,1,none⟩) hrw _).setCell (p:=⟨r,2,none⟩) hrw _)⟩
   ·refine qm ?_;show au _ _ B4 (aC (bA fs).o);rw[hkp];exact au.mk R1.rd (fun ad e=>(hBl ad e).1)
   ·refine qm ?_;show au _ _ X2 (aC (bA fs).n);rw[hkp];exact dj own2 (fun g hg=>by have:=aF own2 g hg;omega)
   ·refine qm ?_;show au _ _ X3 (aJ (bA fs).m);rw[hkp];show au _ _ X3 (aJ (kM fs.length));rw[HNF.out];exact dj own3 (fun g hg=>by have:=aF own3 g hg;omega)
  have FIN:=J0 fin
  clear fin
  go_wp2
  refine Xx (v:=.agg #[.slice B4 nf d4,.slice X2 nf z2,.slice X3 nf z3]) (by simp[results,Tryz.results51,go_sem, *];done) rfl FIN.out
 have P:=aD.new W3 [.slice O no co,.slice F nf cF,.slice none 0 0] 96
 have nbt:=aA (w:=W3) (.cells #[.slice O no co,.slice F nf cF,.slice none 0 0] 96)
 obtain⟨i0,hi,hz0,hz1,hz2⟩:=info_parts kB
 go_upto_region 9 with fail
 have Owc:aO (some p) none w (W3.alloc (.cells #[.slice O no co,.slice F nf cF,.slice none 0 0] 96)):=Ow3.seq nbt
 have rFc:au (fun g=>W2.heap.size<=g/\g<W3.heap.size) (W3.alloc (.cells #[.slice O no co,.slice F nf cF,.slice none 0 0] 96)) F (aC fs):=(vO hown).up nbt
 have Sc:=S3.below nbt
 have Rc3:=R3.below nbt
 have hz23:=hb3.size
 have hWcz:(W3.alloc (.cells #[.slice O no co,.slice F nf cF,.slice none 0 0] 96)).heap.size=W3.heap.size+1:=by simp
 generalize W3.alloc (.cells #[.slice O no co,.slice F nf cF,.slice none 0 0] 96)=Wc at *
 obtain⟨tb,htb⟩:∃tb,W3.heap.size=tb:=⟨_,rfl⟩
 rw[htb] at P rFc hz23 hWcz |-
 have hWc1:tb<Wc.heap.size:=by omega
 have hWc2:Wc.heap.size<=tb+1:=by omega
 clear hWcz
 have hpw2:p<W2.heap.size:=by omega
 have hwz:=Owc.size
 have rOc:au (fun g=>Qo g/\g<w.heap.size) Wc O (aC old):=HO.out.lt.keep (fun g hg=>Owc.block g hg.2 (by have:=HQP.out g hg.1;simpa using this) (by simp))
 have HTB:=J0 htb;have HOW:=J0 Owc;have HRF:=J0 rFc;have HRO:=J0 rOc;have HRC:=J0 Rc3
 have hpt:p≠tb:=by omega
 clear htb Owc rFc rOc nbt S3 R3 Rc3 r0 r1 r2 r3 r4 r5 q0 q1 q2 q3 hown rF hb3 Ow3
 go_loopw [8,11,12,35] (fun _ _ _ i wr=>∃(j:Nat) (ms:List Mv) (v:ER) (l':EN) (am':Bool),j<=nf/\i=.int .i64 j/\aO (some p) (some tb) Wc wr/\aD wr tb [.slice O no co,.slice F nf cF,v] 96/\wr.ownsRow Wc.heap.size 137 4 v j (aJ ms)/\im W0 wr p l' am'/\Hid (ms.length=j/\iG ms/\l'.length<=l2.length/\dU am2 (rC fs j l2) ms l' am')) (fun _ _ _ i _=>nf - (intOf i).toNat)
 case atStart=>exact⟨0,[],_,l2,am2,by omega,rfl,aO.of (Jy _ _),P,ai _ _ _ _,Sc,J0 ⟨rfl,(fun m hm=>by cases hm),J9 _,⟨rfl,rfl,rfl⟩⟩⟩
 case round=>
  obtain⟨j,ms,v,l',am',hj,rfl,Oc,P1,hown,S,HI⟩:=hrel
  clear P Sc
  have hcz:=Oc.size
  have rF1:au (fun g=>W2.heap.size<=g/\g<tb) wr F (aC fs):=HRF.out.keep (fun g hg=>Oc.block g (by omega) (by simp;omega) (by simp;omega))
  by_cases hlt:j<nf
  ·obtain⟨f,hf⟩:∃f,fs[j]?=some f:=⟨_,J4 (by rw[HNF.out];exact hlt)⟩
   have hfm:=(aQ HFR.out).1 f (J7 hf)
   obtain⟨hlz,h64⟩:=we hfm
   have i0':(0:Int)<=(j:Int):=by omega
   have i1':(j:Int)<(nf:Int):=by omega
   have hwj:IntKind.i64.wrap ((j:Int)+1)=((j+1:Nat):Int):=(Xj _ (by omega)).trans (by omega)
   obtain⟨fd,eF,g0,g1,g2⟩:=rF1.rd.fld hf
   subst eF
   have FB:=aD.new wr [.string f.s,.int .i64 f.k,.int .i64 f.l] 68
   have nbf:=aA (w:=wr) (.cells #[.string f.s,.int .i64 f.k,.int .i64 f.l] 68)
   have HF:=J0 hf;have HLZ:=J0 hlz
   clear hf hfm hlz rF1
   go_upto_region 11 with fail
   have S4:=S.below nbf
   have P4:=P1.below nbf
   have hown4:=aG hown nbf
   have Oc4:=Oc.seq nbf
   have hl4:l'.length<=100000000:=by have:=HI.out.2.2.1;omega
   generalize wr.alloc (.cells #[.string f.s,.int .i64 f.k,.int .i64 f.l] 68)=W4 at *
   obtain⟨fb,hfb⟩:∃fb,wr.heap.size=fb:=⟨_,rfl⟩
   rw[hfb] at FB |-
   have hfbz:Wc.heap.size<=fb:=by omega
   have hfb4:=FB.lt
   clear S P1 hown Oc nbf g0 g1 g2 hfb hcz
   go_upto_region 12 with (go_at_call 48;refine(pt S4 1 (.inl rfl) hl4).mono ?_;rintro e W5 ⟨x,l5,am5,rfl,hx,hl5,S5,st5,O5⟩;have MB:=aD.new W5 [.int .i64 (x:Nat),.int .i64 0,.int .u64 0,.string ⟨#[]⟩] 137;have nbm:=aA (w:=W5) (.cells #[.int .i64 (x:Nat),.int .i64 0,.int .u64 0,.string ⟨#[]⟩] 137))
   have hx256:x<256:=by simpa using hx
   have O46:aO (some p) none W4 (W5.alloc (.cells #[.int .i64 (x:Nat),.int .i64 0,.int .u64 0,.string ⟨#[]⟩] 137)):=O5.seq nbm
   have S6:=S5.below nbm
   have hz45:=O5.size
   generalize W5.alloc (.cells #[.int .i64 (x:Nat),.int .i64 0,.int .u64 0,.string ⟨#[]⟩] 137)=W6 at *
   obtain⟨mb,hmb⟩:∃mb,W5.heap.size=mb:=⟨_,rfl⟩
   rw[hmb] at MB hz45 |-
   have hmb6:=MB.lt
   have hz46:=O46.size
   have F6:=FB.only O46 (by simp;omega) (by simp)
   have HST5:=J0 st5
   clear S5 O5 nbm st5 hmb hx S4
   obtain⟨m0,m1,m2,m3,n0,n1,n2,n3⟩:=cV (m:=⟨(x:Int),Vl.z⟩) MB
   go_upto_if 44 with fail
   go_cut [8] (fun _ wx=>∃(m:Mv) (l7:EN) (am7:Bool),aD wx mb [.int .i64 m.f,.int .i64 m.d.k,.int .u64 m.d.b,.string m.d.t] 137/\im W0 wx p l7 am7/\aO (some p) none W4 wx/\Hid (dU am' (jf f l') m l7 am7/\l7.length<=l'.length/\0<=m.d.b/\m.d.b<18446744073709551616))
   case first=>
    by_cases h255:x=255
    ·have e1:((x:Int) == 255)=true:=by simp[h255]
     have HX:=J0 h255
     clear h255
     have M7:=aI MB 0 (.int .i64 (-1))
     have hmp:mb≠p:=by omega
     have hfm':fb≠mb:=by omega
     have hW0mb:W0.heap.size<=mb:=by omega
     have S7:=S6.far hmp hW0mb 0 (.int .i64 (-1))
     have F7:=aD.far F6 (p:=⟨mb,0,none⟩) (by show mb≠fb;omega) (.int .i64 (-1))
     have O47:=O46.setCell (p:=⟨mb,0,none⟩) (by show _<=mb;omega) (.int .i64 (-1))
     have hz67:(W6.setCell ⟨mb,0,none⟩ (.int .i64 (-1))).heap.size=W6.heap.size:=by simp
     go_upto_region 14 with fail
     generalize W6.setCell ⟨mb,0,none⟩ (.int .i64 (-1))=W7 at *
     have hall:∀W,aO (some p) (some mb) W7 W->W.cell? ⟨fb,0,none⟩=some (.string f.s)/\W.cell? ⟨fb,1,none⟩=some (.int .i64 f.k)/\W.cell? ⟨fb,2,none⟩=some (.int .i64 f.l)/\aO (some p) (some mb) W7 W:=fun W hO=>by
      obtain⟨a0,a1,a2⟩:=pU (F7.only hO (by simp;omega) (by simp;omega))
      exact⟨a0,a1,a2,hO⟩
     clear m0 m1 m2 m3 n0 n1 n2 n3 MB S6 O46 F6
     have hl5':l5.length<=100000000:=by omega
     refine wp_region_noPanic ?_
     refine wp_region_held_drew (S:=(fun W=>W.cell? ⟨fb,0,none⟩=some (.string f.s)/\W.cell? ⟨fb,1,none⟩=some (.int .i64 f.k)/\W.cell? ⟨fb,2,none⟩=some (.int .i64 f.l)/\aO (some p) (some mb) W7 W)) (by kernel_rfl) ?_ (fun hHeld=>?_)
     ·(refine hall _ ?_;repeat (first|assumption|exact aO.of (Jy _ _)|apply aO.drew|refine aO.set3 ?_ _ _))
     refine Y6 (i:=0) (oi:=_) (v:=?_) rfl (by kernel_rfl) (by kernel_rfl) (by kernel_rfl) (fun _ _ _ h=>h) (Or.inl ⟨by rfl,?_⟩) hHeld ?_
     rotate_left
     ·(intro w hSw;(try dsimp only at hSw);go_simp;first|done|with_reducible rfl)
     try simp only[Act.put,J1,J3,J2,Ky,K9,Jz]
     refine Y6 (i:=1) (oi:=_) (v:=?_) rfl (by kernel_rfl) (by kernel_rfl) (by kernel_rfl) (fun _ _ _ h=>h) (Or.inl ⟨by rfl,?_⟩) hHeld ?_
     rotate_left
     ·(intro w hSw;(try dsimp only at hSw);go_simp;first|done|with_reducible rfl)
     try simp only[Act.put,J1,J3,J2,Ky,K9,Jz]
     refine Y6 (i:=4) (oi:=_) (v:=?_) rfl (by kernel_rfl) (by kernel_rfl) (by kernel_rfl) (fun _ _ _ h=>h) (Or.inl ⟨by rfl,?_⟩) hHeld ?_
     rotate_left
     ·(intro w hSw;(try dsimp only at hSw);go_simp;first|done|with_reducible rfl)
     try simp only[Act.put,J1,J3,J2,Ky,K9,Jz]
     refine wpAnyH_ready (rs:=[2]) (by kernel_rfl) (by simp) ?_
     refine AllReadyH.cons (o:=_) rfl (fun K hK=>?_) AllReadyH.nil
     go_simp
     (go_at_call 89;obtain⟨_,_,_,HOx⟩:=hHeld;refine(eX f.s f.k f.l _ HLZ.out _).mono ?_;rintro e W8 ⟨rfl,hb8⟩;have HO8:=aO.seq HOx hb8;have S8:=S7.below (Below.undrewS hb8))
     try (go_wp2_with fail)
     refine hK.out _ _ ?_ (fun hHeld=>?_)
     ·(try dsimp only);(refine hall _ ?_;repeat (first|assumption|exact aO.of (Jy _ _)|apply aO.drew|refine aO.set3 ?_ _ _))
     clear hK K
     try simp only[Act.put,J1,J3,J2,Ky,K9,Jz]
     refine wpAnyH_ready (rs:=[3]) (by kernel_rfl) (by simp) ?_
     refine AllReadyH.cons (o:=_) rfl (fun K hK=>?_) AllReadyH.nil
     go_simp
     (go_at_call 49;refine(ra S8 f.n (by omega) hl5').mono ?_;rintro e W9 ⟨B9,c9,bs9,l9,am9,rfl,hc9,hcm9,hbs9,hR9,hl9,S9,st9,O9⟩;have HO9:=HO8.then O9.in2)
     try (go_wp2_with fail)
     refine hK.out _ _ ?_ (fun hHeld=>?_)
     ·(try dsimp only);(refine hall _ ?_;repeat (first|assumption|exact aO.of (Jy _ _)|apply aO.drew|refine aO.set3 ?_ _ _))
     clear hK K
     try simp only[Act.put,J1,J3,J2,Ky,K9,Jz]
     refine wpAnyH_ready (rs:=[5]) (by kernel_rfl) (by simp) ?_
     refine AllReadyH.cons (o:=_) rfl (fun K hK=>?_) AllReadyH.nil
     go_simp
     (go_at_call 88;refine(pT B9 c9 f.n bs9 f.s f.k f.l (gu bs9 f) _ _ hR9 hbs9 (by omega) (vA bs9 f) rfl).mono ?_;rintro e W10 ⟨rfl,hb10⟩;have HO10:=HO9.seq hb10;have M10:=((M7.below (Below.undrewS hb8)).only O9 (by simpa using hmp) (by simp)).below hb10)
     try (go_wp2_with fail)
     refine hK.out _ _ ?_ (fun hHeld=>?_)
     ·(try dsimp only);(refine hall _ ?_;repeat (first|assumption|exact aO.of (Jy _ _)|apply aO.drew|refine aO.set3 ?_ _ _))
     clear hK K
     try simp only[Act.put,J1,J3,J2,Ky,K9,Jz]
     refine Y6 (i:=6) (oi:=_) (v:=?_) rfl (by kernel_rfl) (by kernel_rfl) (by kernel_rfl) (fun _ _ _ h=>h) (Or.inl ⟨by rfl,?_⟩) hHeld ?_
     rotate_left
     ·(intro w hSw;(try dsimp only at hSw);go_simp;first|done|with_reducible rfl)
     try simp only[Act.put,J1,J3,J2,Ky,K9,Jz]
     refine Y6 (i:=7) (oi:=_) (v:=?_) rfl (by kernel_rfl) (by kernel_rfl) (by kernel_rfl) (fun _ _ _ h=>h) (Or.inl ⟨by rfl,?_⟩) hHeld ?_
     rotate_left
     ·(intro w hSw;(try dsimp only at hSw);go_simp;first|done|with_reducible rfl)
     try simp only[Act.put,J1,J3,J2,Ky,K9,Jz]
     refine Y6 (i:=8) (oi:=_) (v:=?_) rfl (by kernel_rfl) (by kernel_rfl) (by kernel_rfl) (fun _ _ _ h=>h) (Or.inl ⟨by rfl,?_⟩) hHeld ?_
     rotate_left
     ·(intro w hSw;(try dsimp only at hSw);go_simp;first|done|with_reducible rfl)
     try simp only[Act.put,J1,J3,J2,Ky,K9,Jz]
     refine Y6 (i:=9) (oi:=_) (v:=?_) rfl (by kernel_rfl) (by kernel_rfl) (by kernel_rfl) (fun _ _ _ h=>h) (Or.inl ⟨by rfl,?_⟩) hHeld ?_
     rotate_left
     ·(intro w hSw;(try dsimp only at hSw);go_simp;first|done|with_reducible rfl)
     try simp only[Act.put,J1,J3,J2,Ky,K9,Jz]
     refine wpAnyH_ready (rs:=[10]) (by kernel_rfl) (by simp) ?_
     refine AllReadyH.cons (o:=_) rfl (fun K hK=>?_) AllReadyH.nil
     obtain⟨m0,m1,m2,m3,n0,n1,n2,n3⟩:=cV (m:=⟨-1,Vl.z⟩) M10
     go_simp
     refine hK.out _ _ ?_ (fun hHeld=>?_)
     ·(try dsimp only);(refine hall _ ?_;repeat (first|assumption|exact aO.of (Jy _ _)|apply aO.drew|refine aO.set3 ?_ _ _))
     clear hK K
     try simp only[Act.put,J1,J3,J2,Ky,K9,Jz]
     refine Y6 (i:=11) (oi:=_) (v:=?_) rfl (by kernel_rfl) (by kernel_rfl) (by kernel_rfl) (fun _ _ _ h=>h) (Or.inl ⟨by rfl,?_⟩) hHeld ?_
     rotate_left
     ·(intro w hSw;(try dsimp only at hSw);go_simp;first|done|with_reducible rfl)
     try simp only[Act.put,J1,J3,J2,Ky,K9,Jz]
     refine wpAnyH_done (by kernel_rfl) ?_ _
     refine NoPanic.normal ?_
     clear hHeld
     obtain⟨d,hd⟩:∃d,gu bs9 f=d:=⟨_,rfl⟩
     obtain⟨db,hdb⟩:∃x,fZ bs9 f.k f.l=x:=⟨_,rfl⟩
     have hbd:0<=d.b/\d.b<18446744073709551616:=by
      rw[<-hd,gu]
      split
      ·exact kU _ _ _
      ·exact⟨by show(0:Int)<=0;omega,by show(0:Int)<_;omega⟩
     rw[hd]
     have hmv:∀am8,am8=(am9 || !db)->dU am' (jf f l') ⟨-1,d⟩ l9 am8:=fun am8 h8=>by
      have h1:=HST5.out
      rw[HX.out] at h1
      rw[<-hd]
      exact wl h1 st9 (by rw[hdb];exact h8)
     have M11:aD (((W10.setCell ⟨mb,1,none⟩ (.int .i64 d.k)).setCell ⟨mb,2,none⟩ (.int .u64 d.b)).setCell ⟨mb,3,none⟩ (.string d.t)) mb [.int .i64 (-1),.int .i64 d.k,.int .u64 d.b,.string d.t] 137:=aI (aI (aI M10 1 (.int .i64 d.k)) 2 (.int .u64 d.b)) 3 (.string d.t)
     have S11:=(((S9.below hb10).far hmp hW0mb 1 (.int .i64 d.k)).far hmp hW0mb 2 (.int .u64 d.b)).far hmp hW0mb 3 (.string d.t)
     have hmb4:W4.heap.size<=mb:=hz45
     have O11:=(((HO10.drop3 O47 hmb4).setCell (p:=⟨mb,1,none⟩) hmb4 (.int .i64 d.k)).setCell (p:=⟨mb,2,none⟩) hmb4 (.int .u64 d.b)).setCell (p:=⟨mb,3,none⟩) hmb4 (.string d.t)
     have HMV:=J0 hmv;have HBD:=J0 hbd
     have hl97:l9.length<=l'.length:=by omega
     clear hmv hbd st9 hd hR9 S9 M10 M7 F7 hall m0 m1 m2 m3 n0 n1 n2 n3 O9 HO8 HO9 HO10 hb10 hb8 S8 S7 O47
     generalize ((W10.setCell ⟨mb,1,none⟩ (.int .i64 d.k)).setCell ⟨mb,2,none⟩ (.int .u64 d.b)).setCell ⟨mb,3,none⟩ (.string d.t)=W11 at *
     obtain⟨_,_,q0,q1,q2,q3⟩:=S11.box
     cases db
     ·rw[show dq bs9 f.k f.l=50 by simp[dq,hdb]]
      clear hdb
      cases am9
      all_goals
       go_wp2_with fail
       go_meet
       exact⟨⟨-1,d⟩,l9,true,aD.far M11 (p:=⟨p,1,none⟩) (by show p≠mb;omega) _,S11.set true,O11.setU 1 _,J0 ⟨HMV.out true rfl,hl97,HBD.out⟩⟩
     ·rw[show dq bs9 f.k f.l=0 by simp[dq,hdb]]
      clear hdb
      cases am9
      ·go_wp2_with fail
       go_meet
       exact⟨⟨-1,d⟩,l9,false,aD.far M11 (p:=⟨p,1,none⟩) (by show p≠mb;omega) _,S11.set false,O11.setU 1 _,J0 ⟨HMV.out false rfl,hl97,HBD.out⟩⟩
      ·go_wp2_with fail
       go_meet
       exact⟨⟨-1,d⟩,l9,true,aD.far M11 (p:=⟨p,1,none⟩) (by show p≠mb;omega) _,S11.set true,O11.setU 1 _,J0 ⟨HMV.out true rfl,hl97,HBD.out⟩⟩
    ·have e1:((x:Int) == 255)=false:=by simp;omega
     go_wp2_with fail
     go_meet
     refine⟨⟨(x:Int),Vl.z⟩,l5,am5,MB,S6,O46,J0 ⟨?_,hl5,by show(0:Int)<=0;omega,by show(0:Int)<18446744073709551616;omega⟩⟩
     have h1:=HST5.out
     unfold jf
     cases e2:cJ 1 l' with
     |none=>rw[e2] at h1;exact h1
     |some y=>
      rw[e2] at h1
      obtain⟨rfl,rfl,rfl⟩:=h1
      simp only
      rw[Xy h255]
      exact⟨rfl,rfl,rfl⟩
   case rest=>
    obtain⟨m,l7,am7,MB7,S7,O7,HI7⟩:=hcut
    rename EQ=>W7
    clear m0 m1 m2 m3 n0 n1 n2 n3 MB S6 O46 F6 FB
    have hz47:=O7.size
    have htb4:tb<W4.heap.size:=P4.lt
    have hpc4:∀g,g<W4.heap.size->g≠p->W7.heap[g]?=W4.heap[g]?:=fun g h1 h2=>O7.block g h1 (by simpa using h2) (by simp)
    have P7:aD W7 tb [.slice O no co,.slice (some fd) nf cF,v] 96:=(hpc4 tb htb4 (by omega)).trans P4
    have hown7:=aN hown4 (fun g hg=>hpc4 g (aY hown4 g hg) (by have:=aF hown4 g hg;omega))
    obtain⟨_,_,_,_⟩:True/\True/\True/\True:=⟨trivial,trivial,trivial,trivial⟩
    obtain⟨m0,m1,m2,m3,n0,n1,n2,n3⟩:=cV MB7
    obtain⟨k0,k1,k2,f0,f1,f2⟩:=P7.f3
    have hcw:Wc.heap.size<=W7.heap.size:=by omega
    go_wp2_with (at_builtin;refine Y5 _ rfl _ _ 94 rfl Wc.heap.size 137 i0 (.agg #[.int .i64 0,.int .i64 0,.int .u64 0,.string ⟨#[]⟩]) 4 40 Tryz.underlying94 hi hz0 hz1 hz2 rfl (by decide) _ _ _ rfl (hown7.alloc _) ⟨W7.heap.size,0,none⟩ 1 1 [.int .i64 m.f,.int .i64 m.d.k,.int .u64 m.d.b,.string m.d.t] rfl rfl ?c1 ?c2 ?c3 ?c4 ?c5 ?_)
    case c1=>exact eR _ _ _ _ _ _
    case c2=>intro u hu;simp at hu;rcases hu with rfl|rfl|rfl|rfl <;> rfl
    case c3=>simp only[maxLen];omega
    case c4=>omega
    case c5=>simp;omega
    intro v' w8 hown8 hgrow _
    have BG:Below Wc.heap.size W7 w8:=((Jy _ _).alloc hcw (.cells #[.int .i64 m.f,.int .i64 m.d.k,.int .u64 m.d.b,.string m.d.t] 137)).grown hgrow (by simp;omega) (fun q hq=>aF hown7 q hq)
    have hown9:w8.ownsRow Wc.heap.size 137 4 v' (j+1) (aJ (ms++[m])):=ag hown8 (by simp) (by rw[bu];rfl)
    have P8:aD w8 tb [.slice O no co,.slice (some fd) nf cF,v] 96:=(BG.block _ (by omega)).trans P7
    have S8:im W0 w8 p l7 am7:=S7.keep (BG.block _ (by omega)) (S7.b.trans (BG.mono (by omega)))
    have hz78:=BG.size
    have Oc8:aO (some p) (some tb) Wc w8:=⟨(BG.os.trans O7.os).trans Oc4.os,(BG.tape.trans O7.tape).trans Oc4.tape,(BG.output.trans O7.output).trans Oc4.output,by omega,fun k hk h1 h2=>(BG.block k hk).trans ((O7.block k (by have:=Oc4.size;omega) h1 (by simp)).trans (Oc4.block k hk h1 h2))⟩
    obtain⟨Am,cm,rfl,_,_,_⟩:=aL hown9
    clear hown8 hgrow hown7 k0 k1 k2 f0 f1 f2 m0 m1 m2 m3 n0 n1 n2 n3
    obtain⟨k0,k1,k2,f0,f1,f2⟩:=P8.f3
    have hnew:Hid ((ms++[m]).length=j+1/\iG (ms++[m])/\l7.length<=l2.length/\dU am2 (rC fs (j+1) l2) (ms++[m]) l7 am7):=by
     obtain⟨h1,h2,h3,h4⟩:=HI.out
     obtain⟨g1,g2,g3,g4⟩:=HI7.out
     refine J0 ⟨by simp[h1],fun y hy=>?_,by omega,te h4 HF.out g1⟩
     rcases X5.1 hy with h|h
     ·exact h2 y h
     ·simp at h;subst h;exact⟨g3,g4⟩
    go_wp2
    go_roundw
    case rel=>exact⟨j+1,ms++[m],_,l7,am7,by omega,by go_num,Oc8.set3 2 _,aI P8 2 _,Y3 hown9 (by show tb<_;omega) _,S8.far (by omega) (by omega) 2 _,hnew⟩
    case measure=>simp[intOf];omega
  ·obtain rfl:j=nf:=by omega
   obtain⟨Am,cm,rfl,_,_,rM⟩:=aL hown
   have hrw:w.heap.size<=r:=Nat.le_of_eq HR.out
   have hrw':r<=w.heap.size:=Nat.le_of_eq HR.out.symm
   have hr0:W0.heap.size<=r:=hW0
   have htw:w.heap.size<=tb:=by omega
   have rO1:au (fun g=>Qo g/\g<w.heap.size) wr O (aC old):=HRO.out.keep (fun g hg=>Oc.block g (by omega) (by have:=HQP.out g hg.1;simpa using this) (by simp;omega))
   have rM1:=dj (P:=fun g=>Wc.heap.size<=g) hown (fun g hg=>aF hown g hg)
   have Rr:aD wr r [.slice none 0 0,.slice none 0 0,.slice none 0 0] 96:=HRC.out.only Oc (by simp;omega) (by simp;omega)
   have fin:∀W9 b,Below wr.heap.size wr W9->b=(am' || !ar ⟨old,fs,ms⟩)->Bg W0 p Qo old false l w (.returned (.agg #[.slice O no co,.slice F j cF,.slice Am j cm])) ((((W9.setCell ⟨p,1,none⟩ (.bool b)).setCell ⟨r,0,none⟩ (.slice O no co)).setCell ⟨r,1,none⟩ (.slice F j cF)).setCell ⟨r,2,none⟩ (.slice Am j cm)):=fun W9 b hb9 hbq=>by
    obtain⟨h1,h2,h3,h4⟩:=HI.out
    have ks:∀g,g≠p->g≠r->((((W9.setCell ⟨p,1,none⟩ (.bool b)).setCell ⟨r,0,none⟩ (.slice O no co)).setCell ⟨r,1,none⟩ (.slice F j cF)).setCell ⟨r,2,none⟩ (.slice Am j cm)).heap[g]?=W9.heap[g]?:=fun g g1 g2=>(J5 _ _ _ _ g2).trans ((J5 _ _ _ _ g2).trans ((J5 _ _ _ _ g2).trans (J5 _ _ _ _ g1)))
    have Ow9:=(Oc.drop3 HOW.out htw).seq hb9
    refine⟨⟨⟨old,fs,ms⟩,O,co,F,cF,Am,cm⟩,l',b,?_,⟨?_,?_,?_,?_,?_⟩,by omega,((((S.below hb9).set b).far hrp hr0 0 _).far hrp hr0 1 _).far hrp hr0 2 _,qC HRW.out (qB (by rw[HNF.out];exact h4) hbq),fun hbf=>?_,(((Ow9.setU 1 _).setCell (p:=⟨r,0,none⟩) hrw _).setCell (p:=⟨r,1,none⟩) hrw _).setCell (p:=⟨r,2,none⟩) hrw _⟩
    ·show _=Ending.returned (.agg #[.slice O old.length co,.slice F fs.length cF,.slice Am ms.length cm])
     rw[HNO.out,HNF.out,h1]
    ·exact((rO1.up hb9).keep (fun g hg=>ks g (HQP.out g hg.1) (by omega))).mono (fun g hg=>.inl hg.1)
    ·exact((rF1.up hb9).keep (fun g hg=>ks g (by omega) (by omega))).mono (fun g hg=>.inr (by omega))
    ·exact((rM1.up hb9).keep (fun g hg=>ks g (by omega) (by omega))).mono (fun g hg=>.inr (by omega))
    ·show old.length<=co;rw[HNO.out];exact hco
    ·show fs.length<=cF;rw[HNF.out];exact hcF
    ·rw[hbf] at hbq
     have hrt:ar ⟨old,fs,ms⟩=true:=by cases hx:ar ⟨old,fs,ms⟩ with|true=>rfl|false=>rw[hx] at hbq;simp at hbq
     exact⟨hrt,h2,HNS.out,fw HFR.out⟩
   have FIN:=J0 fin
   obtain⟨h1,h2,h3,h4⟩:=HI.out
   have H1:=J0 h1;have H2:=J0 h2
   have rO2:=rO1.rd
   have rF2:=rF1.rd
   clear fin rO1 rM1 rF1 h1 h2 h3 h4 hown
   obtain⟨k0,k1,k2,f0,f1,f2⟩:=P1.f3
   obtain⟨_,_,q0,q1,q2,q3⟩:=S.box
   obtain⟨r0,r1,r2,r3,r4,r5⟩:=Rr.f3
   cases am'
   ·go_upto_region 19 with (go_at_call 72;refine(dB ⟨old,fs,ms⟩ O F Am co cF cm no j j HNO.out HNF.out H1.out (by omega) (by omega) (by omega) H2.out _ rO2 rF2 rM).mono ?_;rintro e W9 ⟨rfl,hb9⟩;have S9:=S.below hb9;have P9:=P1.below hb9;have R9:=Rr.below hb9;clear k0 k1 k2 f0 f1 f2 q0 q1 q2 q3 r0 r1 r2 r3 r4 r5;obtain⟨k0,k1,k2,f0,f1,f2⟩:=P9.f3;obtain⟨_,_,q0,q1,q2,q3⟩:=S9.box;obtain⟨r0,r1,r2,r3,r4,r5⟩:=R9.f3)
    obtain⟨rt,hrt⟩:∃x,ar ⟨old,fs,ms⟩=x:=⟨_,rfl⟩
    have hf:=FIN.out W9 (!rt) hb9 (by rw[hrt];rfl)
    rw[hrt]
    clear hrt
    go_wp2
    refine Xx (v:=.agg #[.slice O no co,.slice F j cF,.slice Am j cm]) (by simp[results,Tryz.results51,go_sem, *];done) rfl hf
   ·have hf:=FIN.out wr true (Jy _ _) rfl
    go_wp2
    refine Xx (v:=.agg #[.slice O no co,.slice F j cF,.slice Am j cm]) (by simp[results,Tryz.results51,go_sem, *];done) rfl hf
theorem qH {L D:List Ty} (hp:L.Perm D) (y:Ty):(ik L y).Perm (ik D y):=hp.map _
theorem qK {L D:List Ty} (h:Wq D) (hp:L.Perm D) (hr:bU L) (o:CF):(uF L o).Perm (wQ D o)/\bU (uF L o)/\zN L o=zN D o/\zO L o=zO D o:=by
 have hf:∀nm,ak L nm=ak D nm:=fun nm=>kA hp h.nd nm
 have hl:=hp.length_eq
 have e0:∀nm fs,fj L nm fs=fj D nm fs:=fun nm fs=>by rw[fj,fj,hf,hl]
 have e1:∀nm cs,mA L nm cs=mA D nm cs:=fun nm cs=>by rw[mA,mA,hf]
 have e2:∀nm q,mN L nm q=mN D nm q:=fun nm q=>by rw[mN,mN,hf]
 have w1:∀nm cs,xj L nm cs=xj D nm cs:=fun nm cs=>by rw[xj,xj,e1,hf]
 have w2:∀nm q,wn L nm q=wn D nm q:=fun nm q=>by rw[wn,wn,e2,hf]
 have d0:(oL L o.s o.fs).Perm (pF D o.s o.fs)/\bU (oL L o.s o.fs):=by
  rw[oL,pF,e0]
  by_cases hz:fj D o.s o.fs=0
  ·rw[Xz hz,Xz hz]
   refine⟨(dC _ _ _).trans ((hp.cons _).trans (List.perm_append_singleton _ _).symm),mE hr fun u hu e=>?_⟩
   unfold fj at hz
   split at hz
   ·cases hz
   ·split at hz
    ·cases hz
    ·rename_i hn
     have hnone:ak D o.s=none:=by
      cases hx:ak D o.s with
      |none=>rfl
      |some t=>exact absurd (.inl (by rw[hx];simp)) hn
     exact df hnone u (hp.subset hu) e
  ·rw[Xy hz,Xy hz];exact⟨hp,hr⟩
 have d1:(uT L o.s o.cs).Perm (uT D o.s o.cs)/\bU (uT L o.s o.cs):=by
  rw[uT,uT,e1,hf]
  split
  ·cases ak D o.s with
   |none=>exact⟨hp,hr⟩
   |some t=>exact⟨qH hp _,hr.put _⟩
  ·exact⟨hp,hr⟩
 have d2:(rp L o.s o.live).Perm (rp D o.s o.live)/\bU (rp L o.s o.live):=by
  rw[rp,rp,e2,hf]
  split
  ·cases ak D o.s with
   |none=>exact⟨hp,hr⟩
   |some t=>exact⟨qH hp _,hr.put _⟩
  ·exact⟨hp,hr⟩
 refine⟨?_,?_,by rw[zN,zN,e0,e1,e2],by rw[zO,zO,w1,w2]⟩
 ·rw[uF,wQ,wQ]
  split
  ·exact d0.1
  ·split
   ·exact d1.1
   ·split
    ·exact d2.1
    ·exact hp
 ·rw[uF,wQ]
  split
  ·exact d0.2
  ·split
   ·exact d1.2
   ·split
    ·exact d2.2
    ·exact hr
def sM (w:EQ) (cp mp:Nat) (D L:List Ty) (A:EL) (n c:Nat) (W:EQ):Prop:=∃E es clock X,E.map (·.y)=D/\X.map (·.y)=L/\X.length=n/\aa 89 80 W cp mp E es clock/\AS w W mp E/\Wq D/\bZ (cU E mp) W A c X
theorem sM.below {w W W':EQ} {cp mp:Nat} {D L:List Ty} {A:EL} {n c:Nat} (h:sM w cp mp D L A n c W) (hb:Below W.heap.size W W'):sM w cp mp D L A n c W':=by
 obtain⟨E,es,k,X,h1,h2,h3,h4,h5,h6,h7⟩:=h
 exact⟨E,es,k,X,h1,h2,h3,h4.below hb,h5.below hb,h6,h7.below hb⟩
theorem sM.b {w W:EQ} {cp mp:Nat} {D L:List Ty} {A:EL} {n c:Nat} (h:sM w cp mp D L A n c W):Below w.heap.size w W:=by
 obtain⟨E,es,k,X,h1,h2,h3,h4,h5,h6,h7⟩:=h
 exact h5.b
theorem sM.ok {w W:EQ} {cp mp:Nat} {D L:List Ty} {A:EL} {n c:Nat} (h:sM w cp mp D L A n c W):Wq D:=by
 obtain⟨E,es,k,X,h1,h2,h3,h4,h5,h6,h7⟩:=h
 exact h6
theorem sM.a {w W:EQ} {cp mp:Nat} {D L:List Ty} {A:EL} {n c:Nat} (h:sM w cp mp D L A n c W):mY w cp mp D W:=by
 obtain⟨E,es,k,X,h1,h2,h3,h4,h5,h6,h7⟩:=h
 exact⟨E,es,k,h1,h4,h5,h6⟩
theorem cU.new {W:EQ} {cp mp:Nat} {E:List En} {es:List MapEntry} {clock:Nat} (h:aa 89 80 W cp mp E es clock) {g:Nat} (hg:W.heap.size<=g):cU E mp g:=
 ⟨by have:=(Qq.1 h.map).1;omega,fun d hd hh=>by have:=En.lt (h.ents d hd) hh;omega⟩
theorem DK (w W:EQ) (hb:Below w.heap.size w W):Calls Tryz.prog 12 #[] W fun e w'=>∃cp mp,e=.returned (.pointer (some ⟨cp,0,none⟩))/\sM w cp mp [] [] none 0 0 w':=by
 refine(CE w W hb).mono ?_
 rintro e w' ⟨cp,mp,rfl,⟨E,es,k,h1,h2,h3,h4⟩,hb2⟩
 exact⟨cp,mp,rfl,E,es,k,[],h1,rfl,rfl,h2,h3,h4,⟨Rd.nil _ _,(fun x hx=>by cases hx),J9 _,fun _=>⟨rfl,rfl⟩⟩⟩
theorem DY {w W:EQ} {cp mp:Nat} {D L:List Ty} {A:EL} {n c:Nat} (h:sM w cp mp D L A n c W) (hp:L.Perm D) (hr:bU L) (x:lA) (hG:x.G W) (hS:x.S) (nf nc nl:Nat) (hnf:x.fs.length=nf) (hnc:x.cs.length=nc) (hnl:x.live.length=nl)
 (q:Int) (hq:zN D x.z=q) (v:Nat) (hv:zO D x.z=v) (L':List Ty) (hL:uF L x.z=L'):
 Calls Tryz.prog 36 #[.slice A n c,.agg #[.int .i64 x.k,.string x.s,.slice x.A nf x.a,.slice x.C nc x.c,.slice x.L nl x.l]] W fun e w'=>∃B k d,e=.returned (.tuple #[.slice B k d,.int .i64 (v:Nat),.int .i64 q])/\sM w cp mp D L' B k d w'/\Below W.heap.size W w':=by
 obtain⟨E,es,k,X,h1,h2,h3,h4,h5,h6,h7⟩:=h
 obtain⟨_,_,hqe,hve⟩:=qK h6 hp hr x.z
 refine(DZ h7 n h3 (by rw[h2];exact h6.perm hp) x hG hS nf nc nl hnf hnc hnl q (by rw[h2,hqe];exact hq) v (by rw[h2,hve];exact hv) L' (by rw[h2];exact hL)).mono ?_
 rintro e w' ⟨B,m,d,rfl,X',r1,r2,r3,hb⟩
 refine⟨B,m,d,rfl,⟨E,es,k,X',h1,r1,r2,h4.below hb,h5.below hb,h6,r3.mono fun g hg=>?_⟩,hb⟩
 rcases hg with hg|hg
 ·exact hg
 ·exact cU.new h4 hg
theorem Dc {w W:EQ} {cp mp:Nat} {D L:List Ty} {A:EL} {n c:Nat} (h:sM w cp mp D L A n c W) (x:lA) (hG:x.G W) (hS:x.S) (nf nc nl:Nat) (hnf:x.fs.length=nf) (hnc:x.cs.length=nc) (hnl:x.live.length=nl)
 (q:Int) (hq:zN D x.z=q) (v:Nat) (hv:zO D x.z=v) (D':List Ty) (hD:wQ D x.z=D'):
 Calls Tryz.prog 13 #[.pointer (some ⟨cp,0,none⟩),.agg #[.int .i64 x.k,.string x.s,.slice x.A nf x.a,.slice x.C nc x.c,.slice x.L nl x.l]] W fun e w'=>e=.returned (.tuple #[.int .i64 (v:Nat),.int .i64 q])/\sM w cp mp D' L A n c w'/\Kp W w':=by
 obtain⟨E,es,k,X,rfl,h2,h3,h4,h5,h6,h7⟩:=h
 refine(Dd h4 h6 x hG hS nf nc nl hnf hnc hnl q hq v hv D' hD).mono ?_
 rintro e w' ⟨rfl,E',es',k',r1,r2,r3⟩
 exact⟨rfl,⟨E',es',k',X,r1,h2,h3,r2,h5.next r3,by rw[<-hD];exact h6.do (Ep hG hS),h7.cat h4 r3⟩,fun A cs hA hs=>r3.solid h4 hA hs⟩
theorem AL {w W:EQ} {cp mp:Nat} {D L:List Ty} {A:EL} {n c:Nat} (h:sM w cp mp D L A n c W) (hp:L.Perm D) (hr:bU L):
 Calls Tryz.prog 21 #[.pointer (some ⟨cp,0,none⟩),.slice A n c] W fun e w'=>e=.returned (.bool true)/\Below W.heap.size W w':=by
 obtain⟨E,es,k,X,rfl,rfl,h3,h4,h5,h6,h7⟩:=h
 exact uN h4 h6 h7 n h3 hp hr
theorem zp (A:EL) (cA m:Nat) (os:List lA) (hm:os.length=m) (hl:m<=281474976710656) (w:EQ) (hA:Rd w A (lC os)) (hG:∀x∈os,x.G w) (hS:∀x∈os,x.S):
 Calls Tryz.prog 17 #[.slice A m cA] w fun e w'=>∃cp mp D L B n c,e=.returned (.tuple #[.pointer (some ⟨cp,0,none⟩),.slice B n c,.bool true])/\sM w cp mp D L B n c w'/\L.Perm D/\bU L:=by
 have HM:=J0 hm;have HG:=J0 hG;have HS:=J0 hS
 clear hm hG hS
 go_enter Tryz.func17,Tryz.ntmps17
 go_upto_region 4 with (go_at_call 12;refine(DK w _ (Jy _ _)).mono ?_;rintro e w1 ⟨cp,mp,rfl,S1⟩)
 go_loopw [6,17] (fun r i wr=>∃(k:Nat) (D L:List Ty) (B:EL) (n c:Nat),k<=m/\i=.int .i64 k/\r=.slice B n c/\sM w cp mp D L B n c wr/\Hid (L.Perm D/\bU L)) (fun _ i _=>m - (intOf i).toNat)
 case atStart=>exact⟨0,[],[],none,0,0,by omega,rfl,rfl,S1,J0 ⟨List.Perm.refl _,List.Pairwise.nil⟩⟩
 case round=>
  obtain⟨k,D,L,B,n,c,hk,rfl,rfl,St,hLD⟩:=hrel
  clear S1
  have HB:=St.b
  have hAr:=hA.below HB
  by_cases hlt:k<m
  ·obtain⟨x,hx⟩:∃x,os[k]?=some x:=⟨_,J4 (by rw[HM.out];exact hlt)⟩
   have hxm:=J7 hx
   have xG:=(HG.out x hxm).below HB
   have xS:=HS.out x hxm
   obtain⟨ad,rfl,c0,c1,c2,c3,c4⟩:=hAr.op hx
   obtain⟨nf,hnf⟩:∃y,x.fs.length=y:=⟨_,rfl⟩
   obtain⟨nc,hnc⟩:∃y,x.cs.length=y:=⟨_,rfl⟩
   obtain⟨nl,hnl⟩:∃y,x.live.length=y:=⟨_,rfl⟩
   rw[hnf] at c2;rw[hnc] at c3;rw[hnl] at c4
   obtain⟨q,hq⟩:∃y,zN D x.z=y:=⟨_,rfl⟩
   obtain⟨v,hv⟩:∃y,zO D x.z=y:=⟨_,rfl⟩
   obtain⟨D',hD⟩:∃y,wQ D x.z=y:=⟨_,rfl⟩
   obtain⟨L',hL⟩:∃y,uF L x.z=y:=⟨_,rfl⟩
   have hLD':L'.Perm D'/\bU L':=by
    obtain⟨a1,a2,_⟩:=qK St.ok hLD.out.1 hLD.out.2 x.z
    rw[<-hL,<-hD];exact⟨a1,a2⟩
   have P:=aD.new wr [.int .i64 x.k,.string x.s,.slice x.A nf x.a,.slice x.C nc x.c,.slice x.L nl x.l] 31
   have nb:=aA (w:=wr) (.cells #[.int .i64 x.k,.string x.s,.slice x.A nf x.a,.slice x.C nc x.c,.slice x.L nl x.l] 31)
   have S2:=St.below nb
   have xG2:=xG.below nb
   have HNF:=J0 hnf;have HNC:=J0 hnc;have HNL:=J0 hnl;have HQ:=J0 hq;have HV:=J0 hv;have HD:=J0 hD;have HXS:=J0 xS;have HXG:=J0 xG2;have HL:=J0 hL;have HLD:=J0 hLD'
   clear hAr hx hnf hnc hnl hq hv hD xG xG2 xS HB St hL hLD'
   go_upto_region 6 with fail
   generalize wr.alloc (.cells #[.int .i64 x.k,.string x.s,.slice x.A nf x.a,.slice x.C nc x.c,.slice x.L nl x.l] 31)=W2 at *
   obtain⟨p0,p1,p2,p3,p4⟩:=P.f5
   clear c0 c1 c2 c3 c4 nb
   go_upto_region 10 with (go_at_call 36;refine(DY S2 hLD.out.1 hLD.out.2 x HXG.out HXS.out nf nc nl HNF.out HNC.out HNL.out q HQ.out v HV.out L' HL.out).mono ?_;rintro e w3 ⟨B3,n3,c3,rfl,S3,hb3⟩;replace P:=P.below hb3;replace HXG:=J0 (HXG.out.below hb3);clear S2 p0 p1 p2 p3 p4)
   obtain⟨p0,p1,p2,p3,p4⟩:=P.f5
   go_upto_region 11 with (go_at_call 13;refine(Dc S3 x HXG.out HXS.out nf nc nl HNF.out HNC.out HNL.out q HQ.out v HV.out D' HD.out).mono ?_;rintro e w4 ⟨rfl,S4,_⟩;clear S3 P p0 p1 p2 p3 p4 HXG)
   go_wp2_with (go_at_call 21;refine(AL S4 HLD.out.1 HLD.out.2).mono ?_;rintro e w5 ⟨rfl,hb5⟩;replace S4:=S4.below hb5)
   go_roundw
   case rel=>exact⟨k+1,D',L',B3,n3,c3,by omega,by go_num,rfl,S4,HLD⟩
   case measure=>simp[intOf];omega
  ·obtain rfl:k=m:=by omega
   go_wp2
   refine Xx (v:=.tuple #[.pointer (some ⟨cp,0,none⟩),.slice B n c,.bool true]) (by simp[results,Tryz.results17,go_sem, *];done) rfl ⟨cp,mp,D,L,B,n,c,rfl,St,hLD.out.1,hLD.out.2⟩
def fC (ts:List Tb):List Fd:=(ts.getLast?.map (·.n)).getD []
def kw:Nat->EN->Option (List Tb×EN)
 |0,r=>some ([],r)
 |j+1,r=>match kw j r with
  |none=>none
  |some y=>match jH (fC y.1) (decide (j=0)) y.2 with
   |none=>none
   |some z=>some (y.1++[z.1],z.2)
def cu (o la:Nat) (nm:EP):Bool:=decide (1<=o/\o<=la/\la<=64) && bI nm
def ro (l:EN):Option (Ty×EN):=match cJ 1 l with
 |none=>none
 |some a=>match dI a.1 a.2 with
  |none=>none
  |some b=>match cJ 1 b.2 with
   |none=>none
   |some c=>match cJ 1 c.2 with
    |none=>none
    |some d=>if cu c.1 d.1 (aR b.1)=true then(match kw (d.1+1 - c.1) d.2 with
     |none=>none
     |some z=>some (⟨aR b.1,c.1,z.1⟩,z.2)) else none
def dW:Nat->EN->Option (List Ty×EN)
 |0,r=>some ([],r)
 |j+1,r=>match dW j r with
  |none=>none
  |some y=>match ro y.2 with
   |none=>none
   |some z=>some (y.1++[z.1],z.2)
def dT (L:List Ty):List Ty:=L.foldl jd []
def dQ (b:EN):Option (List Ty):=match cJ 1 b with
 |none=>none
 |some a=>match dW a.1 a.2 with
  |none=>none
  |some z=>if (z.1.map (·.s)).Nodup/\z.1.length<=16/\eL (dT z.1)=b then some (dT z.1) else none
theorem Al {am am1 am2:Bool} {j:Nat} {r l1 l2:EN} {ts:List Tb} {t:Tb} (h:dU am (kw j r) ts l1 am1) (h':dU am1 (jH (fC ts) (decide (j=0)) l1) t l2 am2):dU am (kw (j+1) r) (ts++[t]) l2 am2:=by
 rw[kw]
 cases hp:kw j r with
 |none=>rw[hp] at h;exact h'.mono h
 |some v=>
  rw[hp] at h
  obtain⟨rfl,rfl,rfl⟩:=h
  simp only
  cases hm:jH (fC v.1) (decide (j=0)) v.2 with
  |none=>rw[hm] at h';exact h'
  |some z=>rw[hm] at h';obtain⟨rfl,rfl,rfl⟩:=h';exact⟨rfl,rfl,rfl⟩
theorem yE {am am1 am2:Bool} {j:Nat} {r l1 l2:EN} {L:List Ty} {t:Ty} (h:dU am (dW j r) L l1 am1) (h':dU am1 (ro l1) t l2 am2):dU am (dW (j+1) r) (L++[t]) l2 am2:=by
 rw[dW]
 cases hp:dW j r with
 |none=>rw[hp] at h;exact h'.mono h
 |some v=>
  rw[hp] at h
  obtain⟨rfl,rfl,rfl⟩:=h
  simp only
  cases hm:ro v.2 with
  |none=>rw[hm] at h';exact h'
  |some z=>rw[hm] at h';obtain⟨rfl,rfl,rfl⟩:=h';exact⟨rfl,rfl,rfl⟩
theorem tg {j k:Nat} {r:EN} (h:kw j r=none) (hk:j<=k):kw k r=none:=by
 induction k with
 |zero=>obtain rfl:j=0:=by omega
        exact h
 |succ k ih=>
  by_cases e:j=k+1
  ·subst e;exact h
  ·rw[kw,ih (by omega)]
theorem qE {j k:Nat} {r:EN} (h:dW j r=none) (hk:j<=k):dW k r=none:=by
 induction k with
 |zero=>obtain rfl:j=0:=by omega
        exact h
 |succ k ih=>
  by_cases e:j=k+1
  ·subst e;exact h
  ·rw[dW,ih (by omega)]
theorem Dp {am am1 am2 am3 am4 am5:Bool} {l l1 l2 l3 l4 l5 bs:EN} {x o la:Nat} {ts:List Tb} (h1:dU am (cJ 1 l) x l1 am1) (h2:dU am1 (dI x l1) bs l2 am2) (h3:dU am2 (cJ 1 l2) o l3 am3) (h4:dU am3 (cJ 1 l3) la l4 am4) (hm:am4=true->am5=true)
 (hc:cu o la (aR bs)=true->dU am4 (kw (la+1 - o) l4) ts l5 am5) (hn:cu o la (aR bs)=false->am5=true):dU am (ro l) ⟨aR bs,o,ts⟩ l5 am5:=by
 unfold ro
 cases e1:cJ 1 l with
 |none=>rw[e1] at h1;exact hm (h4.mono (h3.mono (h2.mono h1)))
 |some a=>
  rw[e1] at h1;obtain⟨rfl,rfl,rfl⟩:=h1
  simp only
  cases e2:dI a.1 a.2 with
  |none=>rw[e2] at h2;exact hm (h4.mono (h3.mono h2))
  |some b=>
   rw[e2] at h2;obtain⟨rfl,rfl,rfl⟩:=h2
   simp only
   cases e3:cJ 1 b.2 with
   |none=>rw[e3] at h3;exact hm (h4.mono h3)
   |some c=>
    rw[e3] at h3;obtain⟨rfl,rfl,rfl⟩:=h3
    simp only
    cases e4:cJ 1 c.2 with
    |none=>rw[e4] at h4;exact hm h4
    |some d=>
     rw[e4] at h4;obtain⟨rfl,rfl,rfl⟩:=h4
     simp only
     cases hcd:cu c.1 d.1 (aR b.1) with
     |false=>exact hn hcd
     |true=>
      have h5:=hc hcd
      rw[Xz rfl]
      cases e5:kw (d.1+1 - c.1) d.2 with
      |none=>rw[e5] at h5;exact h5
      |some z=>rw[e5] at h5;obtain⟨rfl,rfl,rfl⟩:=h5;exact⟨rfl,rfl,rfl⟩
theorem Bp {b l1 l2:EN} {n i:Nat} {am1:Bool} {L:List Ty} (h:dU false (cJ 1 b) n l1 am1) (h':dU am1 (dW i l1) L l2 true) (hi:i<=n):dQ b=none:=by
 unfold dQ
 cases e1:cJ 1 b with
 |none=>rfl
 |some a=>
  rw[e1] at h
  obtain⟨rfl,rfl,rfl⟩:=h
  simp only
  rw[qE h'.none hi]
theorem DV {fs:List Fd} {j:Nat} {r:EN} {y:List Mv×EN} (h:rC fs j r=some y):iG y.1:=by
 induction j generalizing y with
 |zero=>simp[rC] at h;subst h;intro m hm;cases hm
 |succ j ih=>
  rw[rC] at h
  cases e1:rC fs j r with
  |none=>rw[e1] at h;cases h
  |some u=>
   rw[e1] at h
   simp only at h
   cases e2:fs[j]? with
   |none=>rw[e2] at h;cases h
   |some f=>
    rw[e2] at h
    simp only at h
    cases e3:jf f u.2 with
    |none=>rw[e3] at h;cases h
    |some v=>
     rw[e3] at h
     obtain rfl:=Jj h
     intro m hm
     rcases X5.1 hm with hm|hm
     ·exact ih e1 m hm
     ·simp at hm;subst hm
      unfold jf at e3
      split at e3
      ·cases e3
      ·split at e3
       ·split at e3
        ·cases e3
        ·split at e3
         ·obtain rfl:=Jj e3
          rename_i hd
          show 0<=(gu _ f).b/\_
          rw[gu,Xz hd]
          exact kU _ _ _
         ·cases e3
       ·obtain rfl:=Jj e3
        exact⟨by show(0:Int)<=0;omega,by show(0:Int)<_;omega⟩
theorem vP {l:EN} {y:List Fd×EN} (h:jg l=some y):aK y.1=true:=by
 unfold jg at h
 split at h
 ·cases h
 ·split at h
  ·cases h
  ·split at h
   ·cases h
   ·rename_i hd
    obtain rfl:=Jj h
    exact jw hd
theorem Ca {old:List Fd} {first:Bool} {l:EN} {y:Tb×EN} (h:jH old first l=some y) (ho:mU old):iH y.1/\(first=false->y.1.o=old)/\(first=true->y.1=bA y.1.n):=by
 unfold jH at h
 cases e1:jg l with
 |none=>rw[e1] at h;cases h
 |some u=>
  have hr:=vP e1
  rw[e1] at h
  simp only at h
  cases first with
  |true=>
   simp at h
   subst h
   exact⟨iH.keep hr (fw hr),(fun hc=>by cases hc),fun _=>lG hr⟩
  |false=>
   rw[Xy (by decide)] at h
   unfold jG at h
   cases e2:rC u.1 u.1.length u.2 with
   |none=>rw[e2] at h;cases h
   |some m=>
    rw[e2] at h
    simp only at h
    split at h
    ·rename_i hrt
     obtain rfl:=Jj h
     exact⟨⟨hrt,DV e2,ho,fw hr⟩,fun _=>rfl,(fun hc=>by cases hc)⟩
    ·cases h
theorem xw {ts:List Tb} (h:∀x∈ts,iH x):mU (fC ts):=by
 unfold fC
 cases hx:ts.getLast? with
 |none=>intro f hf;cases hf
 |some x=>exact(h x (List.mem_of_getLast? hx)).n
theorem Dn {j:Nat} {r:EN} {y:List Tb×EN} (h:kw j r=some y):y.1.length=j/\(∀x∈y.1,iH x)/\(∀(i:Nat) (a b:Tb),y.1[i]?=some a->y.1[i+1]?=some b->b.o=a.n)/\(∀a,y.1[0]?=some a->a=bA a.n):=by
 induction j generalizing y with
 |zero=>simp[kw] at h;subst h;exact⟨rfl,(fun x hx=>by cases hx),(fun i a b h1 h2=>by simp at h1),(fun a h1=>by simp at h1)⟩
 |succ j ih=>
  rw[kw] at h
  cases e1:kw j r with
  |none=>rw[e1] at h;cases h
  |some u=>
   obtain⟨h1,h2,h3,h4⟩:=ih e1
   rw[e1] at h
   simp only at h
   cases e2:jH (fC u.1) (decide (j=0)) u.2 with
   |none=>rw[e2] at h;cases h
   |some z=>
    rw[e2] at h
    obtain rfl:=Jj h
    obtain⟨g1,g2,g3⟩:=Ca e2 (xw h2)
    refine⟨by simp[h1],fun x hx=>?_,fun i a b ha hb=>?_,fun a ha=>?_⟩
    ·rcases X5.1 hx with hx|hx
     ·exact h2 x hx
     ·simp at hx;subst hx;exact g1
    ·simp only at ha hb
     have hil:i+1<u.1.length+1:=by have:=(J6.1 hb).1;simpa using this
     rcases(by omega:i+1<u.1.length\/i+1=u.1.length) with hi|hi
     ·rw[X9 (by omega)] at ha hb
      exact h3 i a b ha hb
     ·rw[X9 (by omega)] at ha
      rw[hi,Qk (J9 _),Nat.sub_self] at hb
      simp at hb
      subst hb
      rw[g2 (by simp;omega),fC,List.getLast?_eq_getElem?,<-hi,Nat.add_sub_cancel,ha]
      rfl
    ·simp only at ha
     by_cases h0:j=0
     ·subst h0
      have hu:u.1=[]:=List.eq_nil_of_length_eq_zero h1
      rw[hu] at ha
      simp at ha
      subst ha
      exact g3 (by simp)
     ·rw[X9 (by omega)] at ha
      exact h4 a ha
theorem Dq {l:EN} {y:Ty×EN} (h:ro l=some y):y.1.Ok:=by
 unfold ro at h
 cases e1:cJ 1 l with
 |none=>rw[e1] at h;cases h
 |some a=>
  rw[e1] at h;simp only at h
  cases e2:dI a.1 a.2 with
  |none=>rw[e2] at h;cases h
  |some b=>
   rw[e2] at h;simp only at h
   cases e3:cJ 1 b.2 with
   |none=>rw[e3] at h;cases h
   |some c=>
    rw[e3] at h;simp only at h
    cases e4:cJ 1 c.2 with
    |none=>rw[e4] at h;cases h
    |some d=>
     rw[e4] at h;simp only at h
     cases hcd:cu c.1 d.1 (aR b.1) with
     |false=>rw[hcd] at h;cases h
     |true=>
      rw[hcd,Xz rfl] at h
      cases hz:kw (d.1+1 - c.1) d.2 with
      |none=>rw[hz] at h;cases h
      |some z=>
       rw[hz] at h
       obtain rfl:=Jj h
       obtain⟨h1,h2,h3,h4⟩:=Dn hz
       unfold cu at hcd
       rw[Qz] at hcd
       obtain⟨c1,c2,c3⟩:=Yv hcd.1
       refine⟨hcd.2,c1,fun e=>?_,?_,h2,h3,h4⟩
       ·have e':z.1=[]:=e
        rw[e'] at h1
        simp at h1
        omega
       ·show c.1+z.1.length - 1<=64
        omega
theorem rE {j:Nat} {r:EN} {y:List Ty×EN} (h:dW j r=some y):y.1.length=j/\∀t∈y.1,t.Ok:=by
 induction j generalizing y with
 |zero=>simp[dW] at h;subst h;exact⟨rfl,(fun x hx=>by cases hx)⟩
 |succ j ih=>
  rw[dW] at h
  cases e1:dW j r with
  |none=>rw[e1] at h;cases h
  |some u=>
   obtain⟨h1,h2⟩:=ih e1
   rw[e1] at h
   simp only at h
   cases e2:ro u.2 with
   |none=>rw[e2] at h;cases h
   |some z=>
    rw[e2] at h
    obtain rfl:=Jj h
    refine⟨by simp[h1],fun t ht=>?_⟩
    rcases X5.1 ht with ht|ht
    ·exact h2 t ht
    ·simp at ht;subst ht;exact Dq e2
theorem zK {b l1 l2:EN} {n i:Nat} {am1 am2:Bool} {L:List Ty} (h:dU false (cJ 1 b) n l1 am1) (h':dU am1 (dW i l1) L l2 am2) (hi:i<n) (h16:16<=i):dQ b=none:=by
 unfold dQ
 cases e1:cJ 1 b with
 |none=>rfl
 |some a=>
  rw[e1] at h
  obtain⟨rfl,rfl,rfl⟩:=h
  simp only
  cases e2:dW a.1 a.2 with
  |none=>rfl
  |some z=>
   have:=(rE e2).1
   simp only
   rw[Xy (by omega)]
theorem Rd.byte {w:EQ} {A:EL} {l:EN} (h:Rd w A (aH l)) {k:Nat} {x:UInt8} (hx:l[k]?=some x):∃ad,A=some ad/\w.cell? (ad.add k)=some (.int .u8 (x.toNat:Int)):=h.at (j:=k) (u:=.int .u8 (x.toNat:Int)) (by simp[aH,hx])
theorem CD (A B:EL) (c d m n:Nat) (a b:EN) (ha:a.length=m) (hb:b.length=n) (hn:n<=9223372036854775807) (r:Bool) (hr:decide (a=b)=r) (w:EQ) (hA:Rd w A (aH a)) (hB:Rd w B (aH b)):
 Calls Tryz.prog 52 #[.slice A m c,.slice B n d] w fun e w'=>e=.returned (.bool r)/\Below w.heap.size w w':=by
 have HA:=J0 ha;have HBL:=J0 hb;have HR:=J0 hr
 by_cases hlen:m=n
 ·subst hlen
  have hz:((m:Int) != (m:Int))=false:=by simp
  clear ha hb hr
  go_enter Tryz.func52,Tryz.ntmps52
  go_wp2
  go_loopw [5,13] (fun _ i wr=>∃k:Nat,k<=m/\i=.int .i64 k/\Below w.heap.size w wr/\Hid (a.take k=b.take k)) (fun _ i _=>m - (intOf i).toNat)
  case atStart=>exact⟨0,by omega,rfl,Jy _ _,J0 rfl⟩
  case round=>
   obtain⟨k,hk,rfl,HB,hall⟩:=hrel
   by_cases hlt:k<m
   ·obtain⟨x,hx⟩:∃x,a[k]?=some x:=⟨_,J4 (by rw[HA.out];exact hlt)⟩
    obtain⟨y,hy⟩:∃y,b[k]?=some y:=⟨_,J4 (by rw[HBL.out];exact hlt)⟩
    obtain⟨ad,rfl,c0⟩:=(hA.below HB).byte hx
    obtain⟨bd,rfl,d0⟩:=(hB.below HB).byte hy
    have HX:=J0 hx
    have HY:=J0 hy
    clear hx hy
    have hi0:(0:Int)<=(k:Int):=by omega
    have hi1:(k:Int)<(m:Int):=by omega
    have hwk:IntKind.i64.wrap ((k:Int)+1)=((k+1:Nat):Int):=(Xj _ (by omega)).trans (by omega)
    go_upto_region 6 with fail
    refine RW.start (fun w'=>Below w.heap.size w w'/\w'.cell? (ad.add k)=some (.int .u8 (x.toNat:Int))/\w'.cell? (bd.add k)=some (.int .u8 (y.toNat:Int))) (by kernel_rfl) (by kernel_rfl) ⟨HB.drew,c0,d0⟩ ?_
    clear HB c0 d0
    repeat (first
     |(refine' RW.val (by rfl) ?_ ?_;rotate_left;(focus (intro w' hS;obtain⟨HB,c0,d0⟩:=hS;go_simp;rfl));simp only[Act.put,J1,J3,J2])
     |(refine RW.off (by rfl) ?_;simp only[Act.put,J1,J3,J2]))
    refine RW.done (fun w' hS=>?_)
    obtain⟨HB,c0,d0⟩:=hS
    by_cases hxy:x=y
    ·subst hxy
     have e1:((x.toNat:Int) != (x.toNat:Int))=false:=by simp
     have hall':Hid (a.take (k+1)=b.take (k+1)):=J0 (by rw[Vv,Vv,hall.out,HX.out,HY.out])
     go_wp2
     go_roundw
     case rel=>exact⟨k+1,by omega,by go_num,HB,hall'⟩
     case measure=>simp[intOf];omega
    ·have hne:x.toNat≠y.toNat:=fun e=>hxy (UInt8.toNat_inj.1 e)
     have e1:((x.toNat:Int) != (y.toNat:Int))=true:=by simp;omega
     obtain rfl:r=false:=by
      rw[<-HR.out,decide_eq_false_iff_not]
      intro e
      have h1:=HX.out
      rw[e,HY.out] at h1
      exact hxy (Jj h1).symm
     clear hxy hne
     go_wp2
     go_ret
     exact⟨rfl,HB⟩
   ·obtain rfl:k=m:=by omega
    obtain rfl:r=true:=by
     rw[<-HR.out,decide_eq_true_iff]
     have h1:=hall.out
     rwa [Vx (Nat.le_of_eq HA.out),Vx (Nat.le_of_eq HBL.out)] at h1
    go_wp2
    go_ret
    exact⟨rfl,HB⟩
 ·have hz:((m:Int) != (n:Int))=true:=by simp;omega
  obtain rfl:r=false:=by
   rw[<-hr,decide_eq_false_iff_not]
   intro e
   exact hlen (by rw[<-ha,<-hb,e])
  clear ha hb hr hlen
  go_enter Tryz.func52,Tryz.ntmps52
  go_wp2
  go_ret
  exact⟨rfl,Jy _ _⟩
end
section
open Go.RowKit Go.Lib Go.Maps
open Go.ChangeMaps (setBlock)
theorem bB.Is.and {P Q:Nat->Prop} {W:EQ} {x:bB} (h:x.Is P W) (h':x.Is Q W):x.Is (fun g=>P g/\Q g) W:=⟨h.o.and h'.o,h.n.and h'.n,h.m.and h'.m,h.ca,h.cb⟩
structure ml (w W:EQ) (cp mp p:Nat) (E:List En) (es:List MapEntry) (k:Nat):Prop where
 cat:aa 89 80 W cp mp E es k
 u:∀d∈E,¬d.has p
 pc:p≠cp
 pm:p≠mp
 rows:∀d∈E,∀x∈d.xs,x.Is (fun g=>g≠p) W
 low:AS w W mp E
theorem ml.but {w W W':EQ} {cp mp p:Nat} {E:List En} {es:List MapEntry} {k:Nat} (h:ml w W cp mp p E es k) (hk:∀g,g<W.heap.size->g≠p->W'.heap[g]?=W.heap[g]?) (hb:Below w.heap.size w W'):ml w W' cp mp p E es k:=by
 have c:=h.cat
 have hr:∀d∈E,∀x∈d.xs,x.Is (fun g=>((∀d'∈E,¬d'.has g)/\g≠cp/\g≠mp)/\g≠p) W':=fun d hd x hx=>((c.tabs d hd x hx).and (h.rows d hd x hx)).lt.keep (fun g hg=>hk g hg.2 hg.1.2) |>.mono (fun g hg=>hg.1)
 exact⟨⟨(hk cp c.box.lt h.pc.symm).trans c.box,(hk mp c.mpLt h.pm.symm).trans c.map,c.b1,c.b2,c.prs,fun d hd=>(c.ents d hd).keep (fun g hg=>hk g (En.lt (c.ents d hd) hg) (by rintro rfl;exact h.u d hd hg)),c.names,c.small,c.apart,c.free,fun d hd x hx=>(hr d hd x hx).mono fun g hg=>hg.1⟩,h.u,h.pc,h.pm,fun d hd x hx=>(hr d hd x hx).mono fun g hg=>hg.2,⟨hb,h.low.u⟩⟩
theorem ml.only {w W W':EQ} {cp mp p:Nat} {E:List En} {es:List MapEntry} {k:Nat} (h:ml w W cp mp p E es k) (ho:aO (some p) none W W') (hb:Below w.heap.size w W'):ml w W' cp mp p E es k:=h.but (fun g hg hn=>ho.block g hg (by simpa using hn) (by simp)) hb
def fE (D:List Ty) (y:Ty):List Ty:=if ak D y.s=none then D++[y] else ik D y
theorem Eo {p:Nat} {W W1:EQ} (h:aO (some p) none W W1) (hp:p<W.heap.size):∃V:EQ,V.heap.size=W.heap.size/\Below V.heap.size V W1/\(∀g:Nat,g≠p->V.heap[g]?=W.heap[g]?)/\V.os=W.os/\V.tape=W.tape/\V.output=W.output:=by
 have hp1:p<W1.heap.size:=Nat.lt_of_lt_of_le hp h.size
 refine⟨setBlock W p (W1.heap[p]'hp1),gi _ _ _,⟨h.os,h.tape,h.output,by rw[gi];exact h.size,fun g hg=>?_⟩,fun g hg=>mP _ _ _ hg,rfl,rfl,rfl⟩
 rw[gi] at hg
 by_cases e:g=p
 ·subst e
  rw[uK _ _ _ hp]
  exact Array.getElem?_eq_getElem hp1
 ·rw[mP _ _ _ e]
  exact h.block g hg (by simpa using e) (by simp)
theorem Cc {w W W1:EQ} {cp mp p:Nat} {E:List En} {es:List MapEntry} {k:Nat} (h:ml w W cp mp p E es k) (ho:aO (some p) none W W1) (hp:p<W.heap.size) (hwp:w.heap.size<=p) {d:En} (hd:d.Is 89 W1) (hnew:∀g,d.has g->W.heap.size<=g) (hx:∀x∈d.xs,x.Is (fun g=>W.heap.size<=g/\¬d.has g) W1) (hsm:d.y.s.size<=maxLen):
 ∃W2 E' es' k',(Instr.mapUpdate 78 (.map (some mp)) (.string d.y.s) (.pointer (some ⟨d.p,0,none⟩))).run Tryz.prog W1=.ok () W2/\ml w W2 cp mp p E' es' k'/\E'.map (·.y)=fE (E.map (·.y)) d.y/\W2.heap[p]?=W1.heap[p]?/\Below w.heap.size w W2:=by
 obtain⟨V,hVz,hVb,hVk,hv1,hv2,hv3⟩:=Eo ho hp
 have hw:=h.low.b.size
 have hbV:Below w.heap.size w V:=⟨hv1.trans h.low.b.os,hv2.trans h.low.b.tape,hv3.trans h.low.b.output,by omega,fun g hg=>(hVk g (by omega)).trans (h.low.b.block g hg)⟩
 have hV:ml w V cp mp p E es k:=h.but (fun g _ hn=>hVk g hn) hbV
 have c:=hV.cat
 have hb1:Below w.heap.size w W1:=hbV.trans (hVb.mono hbV.size)
 have hmpw:w.heap.size<=mp:=by
  rcases Nat.lt_or_ge mp w.heap.size with hlt|hge
  ·exact absurd rfl (h.low.u mp hlt).1
  ·exact hge
 have hnewV:∀g,d.has g->V.heap.size<=g:=fun g hg=>by have:=hnew g hg;omega
 have hxV:∀x∈d.xs,x.Is (fun g=>V.heap.size<=g/\¬d.has g) W1:=fun x hxm=>(hx x hxm).mono fun g hg=>⟨by have:=hg.1;omega,hg.2⟩
 have hcpV:=c.box.lt
 have hmpV:=c.mpLt
 obtain⟨lk,hlk⟩:=gB (P:=Tryz.prog) Tryz.underlying9 hsm
 cases hf:bH E d.y.s with
 |none=>
  obtain⟨W2,hrun,hM2,hG2,hZ2⟩:=kD (e:=86) (string_keyed Tryz.underlying9) Tryz.underlying78 (c.map.below hVb) (c.keys Tryz.underlying9) (val:=.pointer (some ⟨d.p,0,none⟩)) hlk (wX c hf)
  have hins:=c.insert hVb hd hnewV hxV hM2 (fun q h1 h2=>hG2.block q h1 (by intro e;exact h2 (Jj e))) (iN hf) hsm
  have hB2:Below w.heap.size w W2:=hb1.grown hG2 hb1.size (fun q hq=>by cases hq;exact hmpw)
  have hk2:∀g,g<W1.heap.size->g≠mp->W2.heap[g]?=W1.heap[g]?:=fun g h1 h2=>hG2.block g h1 (by intro e;exact h2 (Jj e))
  refine⟨W2,E++[d],_,k+1,hrun,⟨hins,fun e he hh=>?_,h.pc,h.pm,fun e he x hxe=>?_,⟨hB2,fun g hg=>⟨(h.low.u g hg).1,fun e he hh=>?_⟩⟩⟩,?_,hk2 p (by have:=hVb.size;omega) h.pm,hB2⟩
  ·rcases X5.1 he with h1|h1
   ·exact h.u e h1 hh
   ·simp at h1;subst h1;have:=hnew _ hh;omega
  ·rcases X5.1 he with h1|h1
   ·refine((c.tabs e h1 x hxe).and (hV.rows e h1 x hxe)).lt.keep (fun g hg=>?_) |>.mono (fun g hg=>hg.1.2)
    exact(hk2 g (Nat.lt_of_lt_of_le hg.2 hVb.size) hg.1.1.2.2).trans (hVb.block g hg.2)
   ·simp at h1;subst h1
    exact((hx x hxe).lt.keep (fun g hg=>hk2 g hg.2 (by have:=hg.1.1;omega))).mono (fun g hg=>by have:=hg.1.1;omega)
  ·rcases X5.1 he with h1|h1
   ·exact(h.low.u g hg).2 e h1 hh
   ·simp at h1;subst h1;have:=hnew _ hh;omega
  ·rw[List.map_append,fE,Xz (by rw[<-jR,hf];rfl)];rfl
 |some d0=>
  obtain⟨hdm,hds⟩:=bG hf
  obtain⟨i,hi⟩:=Qv.1 hdm
  have hil:i<es.length:=by
   have h1:=congrArg List.length c.prs
   rw[iZ,Kz] at h1
   have:=(J6.1 hi).1
   omega
  have hpi:(prs es)[i]?=some (.string d.y.s,.pointer (some ⟨d0.p,0,none⟩)):=by rw[c.prs,Kv,hi,<-hds];rfl
  obtain⟨W2,es',hrun,hM2,hP2,hB2',hG2,hZ2⟩:=mH (e:=86) (string_keyed Tryz.underlying9) Tryz.underlying78 (c.map.below hVb) (c.keys Tryz.underlying9) (val:=.pointer (some ⟨d.p,0,none⟩)) hlk hpi (fun j x hj he=>zg c hi hds hj he)
  have hk2:∀g,g<W1.heap.size->g≠mp->W2.heap[g]?=W1.heap[g]?:=fun g h1 h2=>hG2.block g h1 (by intro e;exact h2 (Jj e))
  have hd2:d.Is 89 W2:=hd.keep (fun g hg=>hk2 g (En.lt hd hg) (by have:=hnewV g hg;omega))
  have hx2:∀x∈d.xs,x.Is (fun g=>V.heap.size<=g/\¬d.has g) W2:=fun x hxm=>((hxV x hxm).lt.keep (fun g hg=>hk2 g hg.2 (by have:=hg.1.1;omega))).mono (fun g hg=>hg.1)
  have hkV:∀g,g<V.heap.size->g≠mp->W2.heap[g]?=V.heap[g]?:=fun g h1 h2=>(hk2 g (Nat.lt_of_lt_of_le h1 hVb.size) h2).trans (hVb.block g h1)
  have hturn:=c.turn hi hds.symm hd2 (fun g hg=>.inr (hnewV g hg)) (fun x hxm=>.inr (hx2 x hxm)) hM2 (fun x hxm=>?_) (by rw[hB2'];exact c.b2) (by rw[hP2,c.prs,List.map_set]) (fun g h1 _ h3=>hkV g h1 h3)
  rotate_left
  ·obtain⟨j,hj⟩:=Qv.1 hxm
   have h1:(es'.map (·.born))[j]?=some x.born:=by rw[Kv,hj];rfl
   rw[hB2',Kv] at h1
   cases hy:es[j]? with
   |none=>rw[hy] at h1;cases h1
   |some y=>
    rw[hy] at h1
    have:=c.b1 y (J7 hy)
    have h2:y.born=x.born:=Jj h1
    omega
  have hB2:Below w.heap.size w W2:=hb1.grown hG2 hb1.size (fun q hq=>by cases hq;exact hmpw)
  have mem:∀e,e∈E.set i d->e=d\/e∈E:=fun e he=>(List.mem_or_eq_of_mem_set he).symm
  refine⟨W2,E.set i d,es',k,hrun,⟨hturn,fun e he hh=>?_,h.pc,h.pm,fun e he x hxe=>?_,⟨hB2,fun g hg=>⟨(h.low.u g hg).1,fun e he hh=>?_⟩⟩⟩,?_,hk2 p (by have:=hVb.size;omega) h.pm,hB2⟩
  ·rcases mem e he with rfl|h1
   ·have:=hnew _ hh;omega
   ·exact h.u e h1 hh
  ·rcases mem e he with rfl|h1
   ·exact(hx2 x hxe).mono (fun g hg=>by have:=hg.1;omega)
   ·refine((c.tabs e h1 x hxe).and (hV.rows e h1 x hxe)).lt.keep (fun g hg=>?_) |>.mono (fun g hg=>hg.1.2)
    exact hkV g hg.2 hg.1.1.2.2
  ·rcases mem e he with rfl|h1
   ·have:=hnew _ hh;omega
   ·exact(h.low.u g hg).2 e h1 hh
  ·rw[rZ c.names hi hds.symm,fE,Xy]
   rw[<-jR,hf]
   simp
end
section
open Go.RowKit Go.Lib Go.Maps
def fY {α:Type} (am:Bool) (o:Option (α×EN)) (x:α) (l':EN) (am':Bool):Prop:=(am=true->am'=true)/\(am=false->dU false o x l' am')
theorem dU.w {α:Type} {am am':Bool} {o:Option (α×EN)} {x:α} {l':EN} (h:dU am o x l' am'):fY am o x l' am':=⟨h.mono,fun e=>by subst e;exact h⟩
theorem fY.good {α:Type} {am:Bool} {o:Option (α×EN)} {x:α} {l':EN} (h:fY am o x l' false):am=false/\o=some (x,l'):=by
 cases am with
 |true=>exact absurd (h.1 rfl) (by decide)
 |false=>
  refine⟨rfl,?_⟩
  have h2:=h.2 rfl
  cases o with
  |none=>exact absurd (show false=true from h2) (by decide)
  |some y=>obtain⟨rfl,rfl,_⟩:=h2;rfl
theorem fY.no {α:Type} {o:Option (α×EN)} {x:α} {l':EN} (h:fY false o x l' true):o=none:=(h.2 rfl).none
theorem fY.bad {α:Type} {am:Bool} {o:Option (α×EN)} {x:α} {l':EN} (h:am=false->o=none):fY am o x l' true:=⟨fun _=>rfl,fun e=>dU.bad (h e)⟩
theorem fY.refl {α:Type} {am:Bool} {o:Option (α×EN)} {x:α} {l':EN} (h:o=some (x,l')):fY am o x l' am:=⟨id,fun e=>by subst e;subst h;exact⟨rfl,rfl,rfl⟩⟩
theorem qD {am am1 am2:Bool} {j:Nat} {r l1 l2:EN} {ts:List Tb} {t:Tb} (h:fY am (kw j r) ts l1 am1) (h':fY am1 (jH (fC ts) (decide (j=0)) l1) t l2 am2):fY am (kw (j+1) r) (ts++[t]) l2 am2:=by
 refine⟨fun e=>h'.1 (h.1 e),fun e=>?_⟩
 cases am1 with
 |false=>exact Al (h.2 e) (h'.2 rfl)
 |true=>
  obtain rfl:=h'.1 rfl
  subst e
  exact dU.bad (tg h.no (Nat.le_succ _))
theorem iY {am am1 am2:Bool} {j:Nat} {r l1 l2:EN} {L:List Ty} {t:Ty} (h:fY am (dW j r) L l1 am1) (h':fY am1 (ro l1) t l2 am2):fY am (dW (j+1) r) (L++[t]) l2 am2:=by
 refine⟨fun e=>h'.1 (h.1 e),fun e=>?_⟩
 cases am1 with
 |false=>exact yE (h.2 e) (h'.2 rfl)
 |true=>
  obtain rfl:=h'.1 rfl
  subst e
  exact dU.bad (qE h.no (Nat.le_succ _))
theorem tf {am:Bool} {j k:Nat} {r l1 l2:EN} {ts us:List Tb} (h:fY am (kw j r) ts l1 true) (hk:j<=k):fY am (kw k r) us l2 true:=fY.bad fun e=>by subst e;exact tg h.no hk
theorem rD {am am1 am2 am3 am4 am5:Bool} {l l1 l2 l3 l4 l5 bs:EN} {x o la:Nat} {ts:List Tb} (h1:fY am (cJ 1 l) x l1 am1) (h2:fY am1 (dI x l1) bs l2 am2) (h3:fY am2 (cJ 1 l2) o l3 am3) (h4:fY am3 (cJ 1 l3) la l4 am4) (hm:am4=true->am5=true)
 (hc:cu o la (aR bs)=true->fY am4 (kw (la+1 - o) l4) ts l5 am5) (hn:cu o la (aR bs)=false->am5=true):fY am (ro l) ⟨aR bs,o,ts⟩ l5 am5:=by
 refine⟨fun e=>hm (h4.1 (h3.1 (h2.1 (h1.1 e)))),fun e=>?_⟩
 subst e
 have stop:am4=true->(cJ 1 l=none\/∃a,cJ 1 l=some a/\(dI a.1 a.2=none\/∃b,dI a.1 a.2=some b/\(cJ 1 b.2=none\/∃c,cJ 1 b.2=some c/\cJ 1 c.2=none))):=fun e4=>by
  subst e4
  cases am1 with
  |true=>exact .inl h1.no
  |false=>
   refine .inr ⟨_,h1.good.2,?_⟩
   cases am2 with
   |true=>exact .inl h2.no
   |false=>
    refine .inr ⟨_,h2.good.2,?_⟩
    cases am3 with
    |true=>exact .inl h3.no
    |false=>exact .inr ⟨_,h3.good.2,h4.no⟩
 cases am4 with
 |true=>
  obtain rfl:=hm rfl
  refine dU.bad ?_
  unfold ro
  rcases stop rfl with e|⟨a,ea,e|⟨b,eb,e|⟨c,ec,e⟩⟩⟩
  ·rw[e]
  ·rw[ea];simp only;rw[e]
  ·rw[ea];simp only;rw[eb];simp only;rw[e]
  ·rw[ea];simp only;rw[eb];simp only;rw[ec];simp only;rw[e]
 |false=>
  obtain⟨rfl,e4⟩:=h4.good
  obtain⟨rfl,e3⟩:=h3.good
  obtain⟨rfl,e2⟩:=h2.good
  exact Dp (h1.2 rfl) (h2.2 rfl) (h3.2 rfl) (h4.2 rfl) hm (fun hcd=>(hc hcd).2 rfl) hn
theorem io {b l1 l2:EN} {n i:Nat} {am1:Bool} {L:List Ty} (h:fY false (cJ 1 b) n l1 am1) (h':fY am1 (dW i l1) L l2 true) (hi:i<=n):dQ b=none:=by
 cases am1 with
 |true=>unfold dQ;rw[h.no]
 |false=>exact Bp (h.2 rfl) (h'.2 rfl) hi
theorem pa {b l1 l2:EN} {n i:Nat} {am1 am2:Bool} {L:List Ty} (h:fY false (cJ 1 b) n l1 am1) (h':fY am1 (dW i l1) L l2 am2) (hi:i<n) (h16:16<=i):dQ b=none:=by
 cases am1 with
 |true=>unfold dQ;rw[h.no]
 |false=>exact zK (h.2 rfl) (h'.2 rfl) hi h16
theorem nB (D:List Ty) (y:Ty):D.length<=(fE D y).length/\(fE D y).length<=D.length+1:=by
 unfold fE
 split
 ·simp
 ·simp[ik]
theorem yv (L:List Ty) (y:Ty) (D:List Ty) (h:D=L.foldl fE []):fE D y=(L++[y]).foldl fE []:=by rw[List.foldl_append,<-h];rfl
def Ei (am:Bool) (k:Nat) (l:EN) (w:EQ) (e:Ending) (w':EQ):Prop:=∃(s' t:EP) (am':Bool),e=.returned (.tuple #[.agg #[.string s',.bool am'],.string t])/\(bl s').length<=l.length/\(bl t).length<=k/\(bl t).length<=l.length/\dU am (dI k l) (bl t) (bl s') am'/\((bl t).length<k->bl t=[]/\am'=true)/\Below w.heap.size w w'
theorem mh (s:EP) (l:EN) (hs:bl s=l) (hl:l.length<=100000000) (am:Bool) (k:Nat) (hk:k<=100000000) (w:EQ):
 Calls Tryz.prog 54 #[.agg #[.string s,.bool am],.int .i64 k] w fun e w'=>Ei am k l w e w':=by
 have hz:s.size=l.length:=by rw[<-hs,aZ]
 obtain⟨n,hn⟩:∃n,s.size=n:=⟨_,rfl⟩
 have hnl:l.length=n:=by omega
 have B2:∀cs:Array ER,Below w.heap.size w ((w.alloc (.cells #[.string s,.bool am] 124)).alloc (.cells cs 124)):=fun cs=>aB (aA _) (aA _)
 rcases Nat.lt_or_ge n k with hlt|hge
 ·have k1:decide ((n:Int)<(k:Int))=true:=by simp;omega
  have fin:Ei am k l w (.returned (.tuple #[.agg #[.string ⟨#[]⟩,.bool true],.string ⟨#[]⟩])) ((w.alloc (.cells #[.string s,.bool am] 124)).alloc (.cells #[.string ⟨#[]⟩,.bool true] 124)):=by
   refine⟨⟨#[]⟩,⟨#[]⟩,true,rfl,X6 _,X6 _,X6 _,dU.bad ?_,fun _=>⟨rfl,rfl⟩,B2 _⟩
   rw[dI,Xy (by omega)]
  clear hs hnl hz
  go_enter Tryz.func54,Tryz.ntmps54
  go_wp2
  refine Xx (v:=.tuple #[.agg #[.string ⟨#[]⟩,.bool true],.string ⟨#[]⟩]) (by simp[results,Tryz.results54,go_sem, *];done) rfl fin
 ·have k1:decide ((n:Int)<(k:Int))=false:=by simp;omega
  have fin:Ei am k l w (.returned (.tuple #[.agg #[.string (s.extract k n),.bool am],.string (s.extract 0 k)])) ((w.alloc (.cells #[.string s,.bool am] 124)).alloc (.cells #[.string (s.extract k n),.bool am] 124)).drew:=by
   have e1:bl (s.extract k n)=l.drop k:=by rw[jr,hs,Vx (by rw[List.length_drop];omega)]
   have e2:bl (s.extract 0 k)=l.take k:=by rw[jr,hs];simp
   refine⟨_,_,am,rfl,by rw[e1,List.length_drop];omega,by rw[e2,Qx];omega,by rw[e2,Qx];omega,?_,fun h=>?_,(B2 _).drew⟩
   ·rw[dI,Xz (by omega),e1,e2];exact⟨rfl,rfl,rfl⟩
   ·rw[e2,Qx] at h;omega
  clear hs hnl hz
  go_enter Tryz.func54,Tryz.ntmps54
  go_upto_region 3 with fail
  go_region
  all_goals
   go_wp2
   refine Xx (v:=.tuple #[.agg #[.string (s.extract k n),.bool am],.string (s.extract 0 k)]) (by simp[results,Tryz.results54,go_sem, *];done) rfl fin
theorem Ea (t:EP) (k:Nat) (hk:k=1\/k=2) (ht:t.size<=k) (w:EQ):
 Calls Tryz.prog 90 #[.string t,.int .i64 0,.int .i64 k] w fun e w'=>(∃(x:Nat) (ok:Bool),e=.returned (.tuple #[.int .u64 x,.bool ok])/\x<2 ^ (8 * k)/\(t.size=k->x=fJ (bl t)))/\w=w':=by
 by_cases h:t.size=k
 ·refine(qJ t 0 k w (by omega) (by rcases hk with h|h <;> rw[h] <;> rfl) (by omega) (by omega)).mono ?_
  rintro e w' ⟨rfl,hw⟩
  have e1:((bl t).drop 0).take k=bl t:=by rw[List.drop_zero,Vx (by rw[aZ];omega)]
  refine⟨⟨fJ (bl t),true,by rw[e1];rfl,?_,fun _=>rfl⟩,hw⟩
  have:=jV (bl t)
  rwa [aZ,h] at this
 ·refine(qI t 0 k w (by omega) (.inr (by simp[nY];omega))).mono ?_
  rintro e w' ⟨rfl,hw⟩
  exact⟨⟨0,false,rfl,Nat.pos_of_ne_zero (by simp),fun h'=>absurd h' h⟩,hw⟩
def Ev (am:Bool) (k:Nat) (l:EN) (w:EQ) (e:Ending) (w':EQ):Prop:=∃(s':EP) (x:Nat) (am':Bool),e=.returned (.tuple #[.agg #[.string s',.bool am'],.int .i64 (x:Nat)])/\x<2 ^ (8 * k)/\(bl s').length<=l.length/\dU am (cJ k l) x (bl s') am'/\Below w.heap.size w w'
theorem lR (s:EP) (l:EN) (hs:bl s=l) (hl:l.length<=100000000) (am:Bool) (k:Nat) (hk:k=1\/k=2) (w:EQ):
 Calls Tryz.prog 53 #[.agg #[.string s,.bool am],.int .i64 k] w fun e w'=>Ev am k l w e w':=by
 have HK:=J0 hk;have HS:=J0 hs
 have hk2:k<=2:=by omega
 clear hk hs
 have P:=(aD.new w [.string s,.bool am] 124).below (aA (.cells #[.string ⟨#[]⟩,.bool false] 124))
 have Q:=aD.new (w.alloc (.cells #[.string s,.bool am] 124)) [.string ⟨#[]⟩,.bool false] 124
 have B2:Below w.heap.size w ((w.alloc (.cells #[.string s,.bool am] 124)).alloc (.cells #[.string ⟨#[]⟩,.bool false] 124)):=aB (aA _) (aA _)
 go_enter Tryz.func53,Tryz.ntmps53
 go_upto_region 1 with fail
 obtain⟨q,hq⟩:∃q,w.heap.size+1=q:=⟨_,rfl⟩
 obtain⟨b,hb⟩:∃b,w.heap.size=b:=⟨_,rfl⟩
 have hqs:(w.alloc (.cells #[.string s,.bool am] 124)).heap.size=q:=by simp[hq]
 rw[hqs] at Q
 rw[hq,hb]
 rw[hb] at P
 have hbq:b≠q:=by omega
 have hbw:w.heap.size<=b:=by omega
 have hqw:w.heap.size<=q:=by omega
 generalize (w.alloc (.cells #[.string s,.bool am] 124)).alloc (.cells #[.string ⟨#[]⟩,.bool false] 124)=W1 at *
 clear hqs hq hb
 obtain⟨p0,p1,p2,p3⟩:=P.f2
 go_upto_region 2 with (go_at_call 54;refine(mh s l HS.out hl am k (by omega) _).mono ?_;rintro e W2 ⟨s',t,am',rfl,hl',htk,htl,hst,hbad,hb2⟩;replace P:=P.below hb2;replace Q:=Q.below hb2;clear p0 p1 p2 p3;obtain⟨p0,p1,p2,p3⟩:=P.f2)
 have B3:=((B2.trans (hb2.mono B2.size)).setCell (p:=⟨b,0,none⟩) hbw (.string s')).setCell (p:=⟨b,1,none⟩) hbw (.bool am')
 have P3:=aI (aI P 0 (.string s')) 1 (.bool am')
 have Q3:=aD.far (aD.far Q (p:=⟨b,0,none⟩) hbq (.string s')) (p:=⟨b,1,none⟩) hbq (.bool am')
 clear p0 p1 p2 p3 P Q hb2 B2
 generalize (W2.setCell ⟨b,0,none⟩ (.string s')).setCell ⟨b,1,none⟩ (.bool am')=W3 at *
 go_upto_region 3 with (go_at_call 90;refine(Ea t k HK.out (by rw[<-aZ];exact htk) _).mono ?_;rintro e W4 ⟨⟨x,ok,rfl,hx,hxe⟩,rfl⟩)
 have hlt2:x<65536:=Nat.lt_of_lt_of_le hx (by rcases HK.out with h|h <;> rw[h] <;> decide)
 have hw1:IntKind.i64.wrap (x:Int)=(x:Int):=Xj _ (by omega)
 have fin:Ev am k l w (.returned (.tuple #[.agg #[.string s',.bool am'],.int .i64 (x:Nat)])) ((W3.setCell ⟨q,0,none⟩ (.string s')).setCell ⟨q,1,none⟩ (.bool am')):=by
  refine⟨s',x,am',rfl,hx,hl',?_,(B3.setCell (p:=⟨q,0,none⟩) hqw _).setCell (p:=⟨q,1,none⟩) hqw _⟩
  by_cases hkl:k<=l.length
  ·rw[dI,Xz hkl] at hst
   rw[cJ,Xz hkl]
   obtain⟨e1,e2,e3⟩:=hst
   exact⟨by rw[hxe (by rw[<-aZ,e1,Qx];omega),e1],e2,e3⟩
  ·rw[dI,Xy hkl] at hst
   rw[cJ,Xy hkl]
   exact hst
 have FIN:=J0 fin
 clear fin hst hbad hxe hx B3 hl' htk htl
 obtain⟨p0,p1,p2,p3⟩:=P3.f2
 obtain⟨q0,q1,q2,q3⟩:=Q3.f2
 go_wp2
 refine Xx (v:=.tuple #[.agg #[.string s',.bool am'],.int .i64 (x:Nat)]) (by simp[results,Tryz.results53,go_sem, *];done) rfl FIN.out
theorem yP:aK []=true:=by decide
theorem Eb {w W:EQ} {b:Nat} {x y:ER} (h:aD W b [x,y] 124) (hB:Below w.heap.size w W) (hb:w.heap.size<=b) (u v:ER):aD ((W.setCell ⟨b,0,none⟩ u).setCell ⟨b,1,none⟩ v) b [u,v] 124/\Below w.heap.size w ((W.setCell ⟨b,0,none⟩ u).setCell ⟨b,1,none⟩ v):=
 ⟨aI (aI h 0 u) 1 v,(hB.setCell (p:=⟨b,0,none⟩) hb u).setCell (p:=⟨b,1,none⟩) hb v⟩
theorem aD.far2 {W:EQ} {q b:Nat} {cs:EO} {T:ES} (h:aD W q cs T) (hb:b≠q) (u v:ER):aD ((W.setCell ⟨b,0,none⟩ u).setCell ⟨b,1,none⟩ v) q cs T:=aD.far (aD.far h (p:=⟨b,0,none⟩) hb u) (p:=⟨b,1,none⟩) hb v
theorem yD {w:EQ} {base base':Nat} {e:ES} {size n:Nat} {v:ER} {xs:EO} (h:w.ownsRow base e size v n xs) (hb:base'<=base):w.ownsRow base' e size v n xs:=by
 obtain⟨h1,h2|⟨g,cap,cur,a,b,c⟩⟩:=h
 ·exact⟨h1,.inl h2⟩
 ·exact⟨h1,.inr ⟨g,cap,cur,a,Q7 hb b,c⟩⟩
theorem Dt (t:EP) (hl:t.size<=2147483647) (w:EQ):Calls Tryz.prog 91 #[.string t] w fun e w'=>∃(v:ER) (q:Int) (fs:List Fd) (nf:Nat),e=.returned (.tuple #[v,.int .i64 q])/\fs.length=nf/\w'.ownsRow w.heap.size 68 3 v nf (aC fs)/\aK fs=true/\(da (bl t)=some fs/\q=0\/da (bl t)=none/\q=60)/\Below w.heap.size w w':=by
 refine(oI t hl w).mono ?_
 rintro e w' ⟨⟨fs,v,h1,rfl,h2⟩|⟨h1,rfl⟩,hb⟩
 ·exact⟨v,0,fs,_,rfl,rfl,h2,jw h1,.inl ⟨h1,rfl⟩,hb⟩
 ·exact⟨_,60,[],0,rfl,rfl,ai _ _ _ _,yP,.inr ⟨h1,rfl⟩,hb⟩
def Ew (am:Bool) (l:EN) (w:EQ) (e:Ending) (w':EQ):Prop:=∃(s':EP) (fs:List Fd) (v:ER) (nf:Nat) (am':Bool),e=.returned (.tuple #[.agg #[.string s',.bool am'],v])/\fs.length=nf/\w'.ownsRow w.heap.size 68 3 v nf (aC fs)/\aK fs=true/\(bl s').length<=l.length/\dU am (jg l) fs (bl s') am'/\Below w.heap.size w w'
theorem Dw (s:EP) (l:EN) (hs:bl s=l) (hl:l.length<=100000000) (am:Bool) (w:EQ):
 Calls Tryz.prog 55 #[.agg #[.string s,.bool am]] w fun e w'=>Ew am l w e w':=by
 have HS:=J0 hs
 clear hs
 have P:=(aD.new w [.string s,.bool am] 124).below (aA (.cells #[.string ⟨#[]⟩,.bool false] 124))
 have Q:=aD.new (w.alloc (.cells #[.string s,.bool am] 124)) [.string ⟨#[]⟩,.bool false] 124
 have B1:Below w.heap.size w ((w.alloc (.cells #[.string s,.bool am] 124)).alloc (.cells #[.string ⟨#[]⟩,.bool false] 124)):=aB (aA _) (aA _)
 go_enter Tryz.func55,Tryz.ntmps55
 go_upto_region 1 with fail
 obtain⟨q,hq⟩:∃q,w.heap.size+1=q:=⟨_,rfl⟩
 obtain⟨b,hb⟩:∃b,w.heap.size=b:=⟨_,rfl⟩
 have hqs:(w.alloc (.cells #[.string s,.bool am] 124)).heap.size=q:=by simp[hq]
 rw[hqs] at Q
 rw[hq,hb]
 rw[hb] at P
 have hbq:b≠q:=by omega
 have hbw:w.heap.size<=b:=by omega
 have hqw:w.heap.size<=q:=by omega
 generalize (w.alloc (.cells #[.string s,.bool am] 124)).alloc (.cells #[.string ⟨#[]⟩,.bool false] 124)=W1 at *
 clear hqs hq hb
 obtain⟨p0,p1,p2,p3⟩:=P.f2
 go_upto_region 2 with (go_at_call 53;refine(lR s l HS.out hl am 2 (.inr rfl) _).mono ?_;rintro e W2 ⟨s1,x,am1,rfl,hx,hl1,st1,hb2⟩;replace B1:=B1.trans (hb2.mono B1.size);replace P:=P.below hb2;replace Q:=Q.below hb2;clear p0 p1 p2 p3 hb2;obtain⟨p0,p1,p2,p3⟩:=P.f2)
 have hx:x<65536:=by simpa using hx
 obtain⟨P',B'⟩:=Eb P B1 hbw (.string s1) (.bool am1)
 replace Q:=Q.far2 hbq (.string s1) (.bool am1)
 clear p0 p1 p2 p3 P B1
 generalize (W2.setCell ⟨b,0,none⟩ (.string s1)).setCell ⟨b,1,none⟩ (.bool am1)=W3 at *
 obtain⟨p0,p1,p2,p3⟩:=P'.f2
 go_upto_region 3 with (go_at_call 54;refine(mh s1 _ rfl (by omega) am1 x (by omega) _).mono ?_;rintro e W4 ⟨s2,t,am2,rfl,hl2,ht1,ht2,st2,_,hb2⟩;replace B':=B'.trans (hb2.mono B'.size);replace P':=P'.below hb2;replace Q:=Q.below hb2;clear p0 p1 p2 p3 hb2;obtain⟨p0,p1,p2,p3⟩:=P'.f2)
 obtain⟨P,B⟩:=Eb P' B' hbw (.string s2) (.bool am2)
 replace Q:=Q.far2 hbq (.string s2) (.bool am2)
 clear p0 p1 p2 p3 P' B'
 generalize (W4.setCell ⟨b,0,none⟩ (.string s2)).setCell ⟨b,1,none⟩ (.bool am2)=W5 at *
 have hbz:=P.lt
 have hqz:=Q.lt
 obtain⟨p0,p1,p2,p3⟩:=P.f2
 go_upto_region 4 with (go_at_call 91;refine(Dt t (by rw[<-aZ];omega) _).mono ?_;rintro e W6 ⟨v,q6,fs,nf,rfl,hnf,own,hfr,hd,hb2⟩;have hzz:=B.size;replace B:=B.trans (hb2.mono B.size);replace P:=P.below hb2;replace Q:=Q.below hb2;clear p0 p1 p2 p3;obtain⟨p0,p1,p2,p3⟩:=P.f2)
 have fin:∀am3,am3=(am2 || decide (q6≠0))->Ew am l w (.returned (.tuple #[.agg #[.string s2,.bool am3],v])) (((W6.setCell ⟨b,1,none⟩ (.bool am3)).setCell ⟨q,0,none⟩ (.string s2)).setCell ⟨q,1,none⟩ (.bool am3)):=fun am3 h3=>by
  have ho:∀g,v.ownBlock=some g->W5.heap.size<=g:=fun g hg=>aF own g hg
  refine⟨s2,fs,v,nf,am3,rfl,hnf,?_,hfr,by omega,?_,((B.setCell (p:=⟨b,1,none⟩) hbw _).setCell (p:=⟨q,0,none⟩) hqw _).setCell (p:=⟨q,1,none⟩) hqw _⟩
  ·refine aN (yD own hzz) (fun g hg=>?_)
   have:=ho g hg
   exact(J5 _ _ _ _ (by show g≠q;omega)).trans ((J5 _ _ _ _ (by show g≠q;omega)).trans (J5 _ _ _ _ (by show g≠b;omega)))
  ·rcases hd with ⟨hd,rfl⟩|⟨hd,rfl⟩
   ·exact mg st1 st2 (fun _=>by rw[h3];simp) (fun h=>by rw[hd] at h;cases h) (fun h=>by rw[h3,h];rfl) (fun fs' h=>by rw[hd] at h;exact Jj h)
   ·exact mg st1 st2 (fun h=>by rw[hd] at h;cases h) (fun _=>by rw[h3];simp) (fun h=>by rw[h3,h];rfl) (fun fs' h=>by rw[hd] at h;cases h)
 obtain⟨q0,q1,q2,q3⟩:=Q.f2
 have FIN:=J0 fin
 clear fin st1 st2
 have hq6:q6=0\/q6=60:=by rcases hd with ⟨_,h⟩|⟨_,h⟩ <;> simp[h]
 clear hd
 obtain⟨F,cF,rfl,_,_,_⟩:=aL own
 rcases hq6 with rfl|rfl <;> cases am2
 all_goals
  have f:=FIN.out _ rfl
  clear FIN
  go_wp2
  first
   |refine Xx (v:=.tuple #[.agg #[.string s2,.bool true],.slice F nf cF]) (by simp[results,Tryz.results55,go_sem, *];done) rfl (by simpa using f)
   |refine Xx (v:=.tuple #[.agg #[.string s2,.bool false],.slice F nf cF]) (by simp[results,Tryz.results55,go_sem, *];done) rfl (by simpa using f)
structure sD (W8 W:EQ) (p sp o:Nat) (sv:ER) (xs:List bB) (OA:EL) (old:List Fd):Prop where
 box:aD W sp [.int .i64 (o:Nat),sv] 89
 row:W.ownsRow W8.heap.size 96 3 sv xs.length (ah xs)
 sl:∀g,sv.ownBlock=some g->gI wI W g
 tabs:∀x∈xs,x.Is (fun g=>W8.heap.size<=g/\sv.ownBlock≠some g) W
 last:au (fun g=>W8.heap.size<=g/\sv.ownBlock≠some g) W OA (aC old)
 hp:p<W8.heap.size
 hs:sp<W8.heap.size
 hsp:sp≠p
 only:aO (some p) (some sp) W8 W
theorem sD.start {W8:EQ} {p sp o:Nat} (hb:aD W8 sp [.int .i64 (o:Nat),.slice none 0 0] 89) (hp:p<W8.heap.size) (hsp:sp≠p):sD W8 W8 p sp o (.slice none 0 0) [] none []:=
 ⟨hb,ai _ _ _ _,(fun g hg=>by cases hg),(fun x hx=>by cases hx),au.nil _ _ _,hp,hb.lt,hsp,aO.of (Jy _ _)⟩
theorem sD.next {W8 W:EQ} {p sp o:Nat} {sv:ER} {xs:List bB} {OA:EL} {old:List Fd} (h:sD W8 W p sp o sv xs OA old) {W':EQ} (ho:aO (some p) none W W'):sD W8 W' p sp o sv xs OA old:=by
 have hz:=h.only.size
 have hk:∀g,g<W.heap.size->g≠p->W'.heap[g]?=W.heap[g]?:=fun g h1 h2=>ho.block g h1 (by simpa using h2) (by simp)
 have hg:∀g,sv.ownBlock=some g->g<W.heap.size/\g≠p:=fun g hg=>⟨aY h.row g hg,by have:=aF h.row g hg;have:=h.hp;omega⟩
 have hq:∀g,(W8.heap.size<=g/\sv.ownBlock≠some g)/\g<W.heap.size->W'.heap[g]?=W.heap[g]?:=fun g hg=>hk g hg.2 (by have:=h.hp;omega)
 exact⟨(hk sp h.box.lt h.hsp).trans h.box,aN h.row (fun g e=>hk g (hg g e).1 (hg g e).2),fun g e=>(h.sl g e).keep (hk g (hg g e).1 (hg g e).2),fun x hx=>((h.tabs x hx).lt.keep hq).mono (fun g e=>e.1),(h.last.lt.keep hq).mono (fun g e=>e.1),h.hp,h.hs,h.hsp,h.only.then ho.in2⟩
theorem sD.below {W8 W:EQ} {p sp o:Nat} {sv:ER} {xs:List bB} {OA:EL} {old:List Fd} (h:sD W8 W p sp o sv xs OA old) {W':EQ} (hb:Below W.heap.size W W'):sD W8 W' p sp o sv xs OA old:=h.next (aO.of hb)
theorem sD.fresh {W8 W:EQ} {p sp o:Nat} {sv:ER} {xs:List bB} {OA:EL} {old:List Fd} (h:sD W8 W p sp o sv xs OA old) {W':EQ} (ho:aO (some p) none W W') {x:bB} (hx:x.Is (fun g=>(W8.heap.size<=g/\sv.ownBlock≠some g)\/W.heap.size<=g) W'):x.Is (fun g=>W8.heap.size<=g/\sv.ownBlock≠some g) W':=
 hx.mono fun g hg=>by
  have hz:=h.only.size
  rcases hg with hg|hg
  ·exact hg
  ·exact⟨by omega,fun e=>by have:=aY h.row g e;omega⟩
theorem sD.add {W8 W:EQ} {p sp o:Nat} {sv:ER} {xs:List bB} {OA:EL} {old:List Fd} (h:sD W8 W p sp o sv xs OA old) {x:bB} (hx:x.Is (fun g=>W8.heap.size<=g/\sv.ownBlock≠some g) W) {ob:Obj} {W5:EQ} {v':ER} {n:Nat} (hn:xs.length=n) (own6:W5.ownsRow W8.heap.size 96 3 v' (n+1) (ah xs++x.cells)) (gr:(W.drew.alloc ob).grownBy W5 sv.ownBlock)
 (hat:v'.ownBlock=sv.ownBlock\/v'.ownBlock=some (W.drew.alloc ob).heap.size) (hall:∀g,v'.ownBlock=some g->gI wI W5 g) {W0:EQ} {l:EN} {am:Bool} (S:im W0 W p l am) (h0:W0.heap.size<=sp):
 sD W8 (W5.setCell ⟨sp,1,none⟩ v') p sp o v' (xs++[x]) x.B x.t.n/\im W0 (W5.setCell ⟨sp,1,none⟩ v') p l am:=by
 obtain⟨Wa,hWa⟩:∃Wa,W.drew.alloc ob=Wa:=⟨_,rfl⟩
 have hba:Below W.heap.size W Wa:=by rw[<-hWa];exact((Jy _ _).drew).alloc (J9 _) _
 have hza:W.heap.size<Wa.heap.size:=by rw[<-hWa];simp
 rw[hWa] at gr hat
 have hz:=h.only.size
 have hz5:=gr.size
 have k5:∀k,k<W.heap.size->sv.ownBlock≠some k->W5.heap[k]?=W.heap[k]?:=fun k hk hn=>(gr.block k (by omega) (fun e=>hn e.symm)).trans (hba.block k hk)
 have k6:∀k,k≠sp->(W5.setCell ⟨sp,1,none⟩ v').heap[k]?=W5.heap[k]?:=fun k hn=>J5 _ _ _ _ hn
 have hb8:∀g,sv.ownBlock=some g->W8.heap.size<=g:=fun g hg=>aF h.row g hg
 have hb8':∀g,v'.ownBlock=some g->W8.heap.size<=g:=fun g hg=>aF own6 g hg
 have hs8:=h.hs
 have hp8:=h.hp
 have hbx5:aD W5 sp [.int .i64 (o:Nat),sv] 89:=(k5 sp (by omega) (fun e=>by have:=hb8 sp e;omega)).trans h.box
 have hvq:∀g,g<W.heap.size->sv.ownBlock≠some g->v'.ownBlock≠some g:=fun g h1 h2 e=>by
  rcases hat with h3|h3
  ·exact h2 (h3.symm.trans e)
  ·rw[e] at h3;have:=Jj h3;omega
 have hq:∀g,(W8.heap.size<=g/\sv.ownBlock≠some g)/\g<W.heap.size->(W5.setCell ⟨sp,1,none⟩ v').heap[g]?=W.heap[g]?:=fun g hg=>(k6 g (by omega)).trans (k5 g hg.2 hg.1.2)
 have hm:∀g,(W8.heap.size<=g/\sv.ownBlock≠some g)/\g<W.heap.size->W8.heap.size<=g/\v'.ownBlock≠some g:=fun g hg=>⟨hg.1.1,hvq g hg.2 hg.1.2⟩
 have hxx:x.Is (fun g=>W8.heap.size<=g/\v'.ownBlock≠some g) (W5.setCell ⟨sp,1,none⟩ v'):=(hx.lt.keep hq).mono hm
 have hp5:(W5.setCell ⟨sp,1,none⟩ v').heap[p]?=W.heap[p]?:=(k6 p h.hsp.symm).trans (k5 p (by omega) (fun e=>by have:=hb8 p e;omega))
 have s6:(W5.setCell ⟨sp,1,none⟩ v').heap.size=W5.heap.size:=by simp[World.setCell]
 have hO:aO (some p) (some sp) W8 (W5.setCell ⟨sp,1,none⟩ v'):=⟨gr.os.trans (hba.os.trans h.only.os),gr.tape.trans (hba.tape.trans h.only.tape),gr.output.trans (hba.output.trans h.only.output),by rw[s6];omega,fun k hk h1 h2=>(k6 k (fun e=>h2 (congrArg some e))).trans ((k5 k (by omega) (fun e=>by have:=hb8 k e;omega)).trans (h.only.block k hk h1 h2))⟩
 refine⟨⟨aI hbx5 1 v',?_,fun g hg=>(hall g hg).keep (k6 g (by have:=hb8' g hg;omega)),fun y hy=>?_,hxx.n,h.hp,h.hs,h.hsp,hO⟩,?_⟩
 ·rw[Vq,hn,gg]
  have e:ah [x]=x.cells:=by simp[ah]
  rw[e]
  exact aN own6 fun g hg=>k6 g (by have:=hb8' g hg;omega)
 ·rcases X5.1 hy with h1|h1
  ·exact((h.tabs y h1).lt.keep hq).mono hm
  ·simp at h1;subst h1;exact hxx
 ·have hbz:=S.b.size
  have hps:=S.p
  refine S.keep hp5 ⟨gr.os.trans (hba.os.trans S.b.os),gr.tape.trans (hba.tape.trans S.b.tape),gr.output.trans (hba.output.trans S.b.output),by rw[s6];omega,fun k hk=>(k6 k (by omega)).trans ((k5 k (by omega) (fun e=>by have:=hb8 k e;omega)).trans (S.b.block k hk))⟩
theorem Aj {w:EQ} {base:Nat} {e:ES} {size n:Nat} {v:ER} {xs:EO} (h:w.ownsRow base e size v n xs):w.ownsRow 0 e size v n xs:=by
 obtain⟨h1,h2|⟨g,cap,cur,a,b,c⟩⟩:=h
 ·exact⟨h1,.inl h2⟩
 ·exact⟨h1,.inr ⟨g,cap,cur,a,X6 _,c⟩⟩
theorem sD.en {W8 W:EQ} {p sp o:Nat} {sv:ER} {xs:List bB} {OA:EL} {old:List Fd} (h:sD W8 W p sp o sv xs OA old) {ts:List Tb} (ht:xs.map (·.t)=ts) (s:EP):(⟨⟨s,o,ts⟩,sp,sv,xs⟩:En).Is 89 W:=⟨h.box,Aj h.row,ht,h.sl⟩
theorem pi (L D:List Ty):(L.foldl fE D).length<=D.length+L.length:=by
 induction L generalizing D with
 |nil=>simp
 |cons y r ih=>
  have h1:=ih (fE D y)
  have h2:=(nB D y).2
  simp only[List.foldl_cons,Xq]
  omega
theorem yw {D:List Ty} {y:Ty} (h:∀t∈D,t.s≠y.s):fE D y=D++[y]:=by
 rw[fE,Xz]
 cases hf:ak D y.s with
 |none=>rfl
 |some t=>exact absurd (bQ hf).2 (h t (bQ hf).1)
theorem mD (L D:List Ty) (h:((D++L).map (·.s)).Nodup):L.foldl fE D=D++L:=by
 induction L generalizing D with
 |nil=>simp
 |cons y r ih=>
  have hn:∀t∈D,t.s≠y.s:=fun t ht e=>by
   rw[List.map_append,List.nodup_append] at h
   exact h.2.2 t.s (Vy.2 ⟨t,ht,rfl⟩) y.s (by simp) e
  rw[List.foldl_cons,yw hn,ih]
  ·simp
  ·simpa using h
theorem vE (L D:List Ty) (hd:(D.map (·.s)).Nodup) (h:(L.foldl fE D).length=D.length+L.length):((D++L).map (·.s)).Nodup:=by
 induction L generalizing D with
 |nil=>simpa using hd
 |cons y r ih=>
  simp only[List.foldl_cons,Xq] at h
  have h1:=pi r (fE D y)
  have h2:=(nB D y).2
  have hf:ak D y.s=none:=by
   cases hf:ak D y.s with
   |none=>rfl
   |some t=>
    have h3:(fE D y).length=D.length:=by rw[fE,Xy (by rw[hf];simp),ik,Kz]
    omega
  have hy:fE D y=D++[y]:=by rw[fE,Xz hf]
  rw[hy] at h
  have:=ih (D++[y]) (by
   rw[List.map_append,List.nodup_append]
   refine⟨hd,by simp,fun a ha b hb e=>?_⟩
   obtain⟨t,ht,rfl⟩:=Vy.1 ha
   simp at hb
   exact df hf t ht (e.trans hb)) (by rw[h];simp;omega)
  simpa using this
theorem xp {L D:List Ty} {x:Ty} (h:x∈L.foldl fE D):x∈D\/x∈L:=by
 induction L generalizing D with
 |nil=>exact .inl h
 |cons y r ih=>
  rcases ih h with h1|h1
  ·unfold fE at h1
   split at h1
   ·rcases X5.1 h1 with h2|h2
    ·exact .inl h2
    ·simp at h2;subst h2;exact .inr (by simp)
   ·rw[ik] at h1
    obtain⟨z,hz,rfl⟩:=Vy.1 h1
    by_cases e:z.s=y.s
    ·rw[Xz e];exact .inr (by simp)
    ·rw[Xy e];exact .inl hz
  ·exact .inr (List.mem_cons_of_mem _ h1)
theorem yV (L D:List Ty) (hr:bU D) (hn:((D++L).map (·.s)).Nodup):bU (L.foldl jd D)/\(L.foldl jd D).Perm (D++L):=by
 induction L generalizing D with
 |nil=>exact⟨hr,by simp⟩
 |cons y r ih=>
  have hy:∀t∈D,t.s≠y.s:=fun t ht e=>by
   rw[List.map_append,List.nodup_append] at hn
   exact hn.2.2 t.s (Vy.2 ⟨t,ht,rfl⟩) y.s (by simp) e
  have hp:(jd D y).Perm (y :: D):=dC _ _ _
  have hp2:(jd D y++r).Perm (D++y :: r):=(hp.append_right r).trans (by simpa using(List.perm_middle (a:=y) (l₁:=D) (l₂:=r)).symm)
  obtain⟨a,b⟩:=ih (jd D y) (mE hr hy) ((hp2.map _).nodup_iff.2 hn)
  exact⟨a,b.trans hp2⟩
theorem iD {L:List Ty} (hn:(L.map (·.s)).Nodup):bU (dT L)/\(dT L).Perm L:=by
 have:=yV L [] List.Pairwise.nil (by simpa using hn)
 simpa[dT] using this
theorem BU:∀k:Fin 17,fJ (dG (k.val:Int) 1)=k.val:=by decide
theorem Bq {b l1 l2:EN} {n:Nat} {am1:Bool} {L D:List Ty} (h:fY false (cJ 1 b) n l1 am1) (h':fY am1 (dW n l1) L l2 false) (hD:D=L.foldl fE []) (hd:(D.map (·.s)).Nodup) (h16:D.length<=16):
 Wq D/\(eL (dT D)=b->dQ b=some (dT D))/\(eL (dT D)≠b->dQ b=none):=by
 obtain⟨rfl,e2⟩:=h'.good
 obtain⟨_,e1⟩:=h.good
 obtain⟨hLn,hLo⟩:=rE e2
 simp only at hLn hLo
 refine⟨⟨fun t ht=>?_,hd,h16⟩,fun he=>?_,fun he=>?_⟩
 ·rw[hD] at ht
  rcases xp ht with h1|h1
  ·cases h1
  ·exact hLo t h1
 ·have hlen:D.length=n:=by
   have hb:1<=b.length:=by
    unfold cJ at e1
    split at e1
    ·assumption
    ·cases e1
   have hx:fJ (b.take 1)=n:=by
    unfold cJ at e1
    rw[Xz hb] at e1
    exact congrArg Prod.fst (Jj e1)
   rw[<-he,eL,List.take_append_of_le_length (Nat.le_of_eq (aX _ _).symm),Vx (Nat.le_of_eq (aX _ _)),(iD hd).2.length_eq] at hx
   rw[<-hx]
   exact(BU ⟨D.length,by omega⟩).symm
  have hnd:(L.map (·.s)).Nodup:=by
   have:=vE L [] (by simp) (by rw[<-hD];simp;omega)
   simpa using this
  have hDL:D=L:=by rw[hD,mD L [] (by simpa using hnd)];rfl
  unfold dQ
  rw[e1];simp only;rw[e2];simp only
  rw[Xz ⟨hnd,by omega,by rw[<-hDL];exact he⟩,hDL]
 ·unfold dQ
  rw[e1];simp only;rw[e2];simp only
  rw[Xy]
  rintro ⟨a1,a2,a3⟩
  have hDL:D=L:=by rw[hD,mD L [] (by simpa using a1)];rfl
  rw[<-hDL] at a3
  exact he a3
theorem th {j n:Nat} {r:EN} {y z:List Ty×EN} (h:dW j r=some y) (hj:j<=n) (hz:dW n r=some z):∃L',z.1=y.1++L':=by
 induction n generalizing z with
 |zero=>
  obtain rfl:j=0:=by omega
  rw[h] at hz
  obtain rfl:=Jj hz
  exact⟨[],by simp⟩
 |succ n ih=>
  by_cases e:j=n+1
  ·subst e
   rw[h] at hz
   obtain rfl:=Jj hz
   exact⟨[],by simp⟩
  ·rw[dW] at hz
   cases e1:dW n r with
   |none=>rw[e1] at hz;cases hz
   |some u=>
    obtain⟨L1,h1⟩:=ih (by omega) e1
    rw[e1] at hz
    simp only at hz
    cases e2:ro u.2 with
    |none=>rw[e2] at hz;cases hz
    |some v=>
     rw[e2] at hz
     obtain rfl:=Jj hz
     exact⟨L1++[v.1],by simp[h1]⟩
theorem zJ {b l1 l2:EN} {n i:Nat} {am1 am2:Bool} {L:List Ty} (h:fY false (cJ 1 b) n l1 am1) (h':fY am1 (dW i l1) L l2 am2) (hi:i<=n) (hd:¬(L.map (·.s)).Nodup):dQ b=none:=by
 cases am2 with
 |true=>exact io h h' hi
 |false=>
  obtain⟨rfl,e2⟩:=h'.good
  obtain⟨_,e1⟩:=h.good
  unfold dQ
  rw[e1]
  simp only
  cases e3:dW n l1 with
  |none=>rfl
  |some z=>
   simp only
   obtain⟨L',hz⟩:=th e2 hi e3
   rw[Xy]
   rintro ⟨a,_⟩
   rw[hz,List.map_append,List.nodup_append] at a
   exact hd a.1
theorem Bo {b l1 l2:EN} {n:Nat} {am1:Bool} {L:List Ty} (h:fY false (cJ 1 b) n l1 am1) (h':fY am1 (dW n l1) L l2 false) (hd:(L.map (·.s)).Nodup) (h16:L.length<=16):
 Wq (dT L)/\(eL (dT L)=b->dQ b=some (dT L))/\(eL (dT L)≠b->dQ b=none):=by
 obtain⟨rfl,e2⟩:=h'.good
 obtain⟨_,e1⟩:=h.good
 obtain⟨hLn,hLo⟩:=rE e2
 obtain⟨hr,hp⟩:=iD hd
 refine⟨⟨fun t ht=>hLo t (hp.subset ht),(hp.map _).nodup_iff.2 hd,by rw[hp.length_eq];exact h16⟩,fun he=>?_,fun he=>?_⟩
 ·unfold dQ
  rw[e1];simp only;rw[e2];simp only
  rw[Xz ⟨hd,h16,he⟩]
 ·unfold dQ
  rw[e1];simp only;rw[e2];simp only
  rw[Xy]
  rintro ⟨_,_,a⟩
  exact he a
def rj (cs:EO):Prop:=cs=[]\/(∃u r,cs=u :: r/\(∀s,u≠.string s)/\∀b,u≠.bool b)\/∃s u r,cs=.string s :: u :: r/\∀b,u≠.bool b
theorem rj.flds (l:List Fd):rj (aC l):=by
 cases l with
 |nil=>exact .inl rfl
 |cons f r=>exact .inr (.inr ⟨f.s,.int .i64 f.k,_,rfl,fun b h=>by cases h⟩)
theorem rj.moves (l:List Mv):rj (aJ l):=by
 cases l with
 |nil=>exact .inl rfl
 |cons m r=>exact .inr (.inl ⟨.int .i64 m.f,_,rfl,(fun s h=>by cases h),fun b h=>by cases h⟩)
theorem rj.tabs (l:List bB):rj (ah l):=by
 cases l with
 |nil=>exact .inl rfl
 |cons x r=>exact .inr (.inl ⟨.slice x.A x.t.o.length x.a,_,rfl,(fun s h=>by cases h),fun b h=>by cases h⟩)
theorem rj.rows (l:List FV):rj (bJ l):=by
 cases l with
 |nil=>exact .inl rfl
 |cons x r=>exact .inr (.inl ⟨.slice x.A x.l.length x.a,_,rfl,(fun s h=>by cases h),fun b h=>by cases h⟩)
theorem rj.types (l:List bk):rj (ac l):=by
 cases l with
 |nil=>exact .inl rfl
 |cons x r=>exact .inr (.inr ⟨x.y.s,.int .i64 (x.y.old:Nat),_,rfl,fun b h=>by cases h⟩)
theorem pu {W:EQ} {b:Nat} {cs:EO} {T:ES} (h:aD W b cs T) {a:Addr} (ha:a.block=b) {u:ER} (hu:W.cell? a=some u):cs[a.off]?=some u:=by
 unfold aD at h
 subst ha
 unfold World.cell? at hu
 rw[h] at hu
 simp at hu
 first|exact hu|exact hu.2|(obtain⟨_,hu⟩:=hu;exact hu)
theorem Rd.nor {W W':EQ} {A:EL} {cs:EO} (h:Rd W A cs) (hn:rj cs) {rb:Nat} {s:EP} {b:Bool} (hb:aD W rb [.string s,.bool b] 124) (hk:∀g,g<W.heap.size->g≠rb->W'.heap[g]?=W.heap[g]?):Rd W' A cs:=by
 intro hne
 obtain⟨ad,rfl,hc⟩:=h hne
 have key:ad.block≠rb:=by
  intro e
  have c0:=fun u (hu:cs[0]?=some u)=>pu hb (a:=ad.add 0) (by simpa[Addr.add] using e) (hc 0 u hu)
  have c1:=fun u (hu:cs[1]?=some u)=>pu hb (a:=ad.add 1) (by simpa[Addr.add] using e) (hc 1 u hu)
  simp[Addr.add] at c0 c1
  have two:∀(k:Nat) (u:ER),([.string s,.bool b]:EO)[k]?=some u->(k=0/\u=.string s)\/(k=1/\u=.bool b):=fun k u hu=>by
   match k with
   |0=>simp at hu;exact .inl ⟨rfl,hu.symm⟩
   |1=>simp at hu;exact .inr ⟨rfl,hu.symm⟩
   |k+2=>simp at hu
  rcases hn with hn|⟨u,r,rfl,h1,h2⟩|⟨t,u,r,rfl,h2⟩
  ·exact hne hn
  ·rcases two _ _ (c0 u rfl) with ⟨_,e⟩|⟨_,e⟩
   ·exact h1 _ e
   ·exact h2 _ e
  ·have one:∀(k:Nat) (u:ER),([.bool b]:EO)[k]?=some u->u=.bool b:=fun k u hu=>by
    match k with
    |0=>simp at hu;exact hu.symm
    |k+1=>simp at hu
   exact h2 _ (one _ _ (c1 u rfl))
 have hbk:∀j,(ad.add j).block=ad.block:=fun j=>by unfold Addr.add;split <;> rfl
 exact⟨ad,rfl,fun j u hj=>(World.cell?_of_block (a:=ad.add j) (by rw[hbk];exact hk ad.block (by have:=World.block_lt_of_cell? W (ad.add j) (hc j u hj);rwa [hbk] at this) key)).trans (hc j u hj)⟩
end
end Go.Proofs.YteembinfgbapgaaGreat
