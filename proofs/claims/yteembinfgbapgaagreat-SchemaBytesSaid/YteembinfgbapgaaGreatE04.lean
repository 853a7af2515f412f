/- Merged out of: Gu Gv Gw Ha Kn Kp Kq Kr Ks Kt Ma Mb Mc Md Me Mf Mh. -/
import Derived.Test.YteembinfgbapgaaGreatE00
import Derived.Test.YteembinfgbapgaaGreatE03
import Derived.Test.YteembinfgbapgaaGreatE02
import Derived.Deep.DeepCutAuto
import Derived.Laws.CopyOwn
import Derived.BigRegion
set_option linter.unusedSimpArgs false
set_option linter.unusedVariables false
set_option maxRecDepth 100000
set_option maxHeartbeats 8000000
namespace Go.Proofs.YteembinfgbapgaaGreat
section
open Go.RowKit
theorem nQ {c:UInt8} {l0 l:List Fd} {r:EN} (hw:∀f∈l0,xC f) (h:da (c :: (l0.flatMap dm++r))=some l):l0=l.take l0.length/\r=(l.drop l0.length).flatMap dm/\aK l=true:=by
 obtain⟨hr,he⟩:=(gv _ _).1 h
 have h16:=(aQ hr).2
 rw[eQ] at he
 injection he with he1 he2
 have hc:l.length=c.toNat:=by rw[<-he1,lZ (by omega)]
 rcases Nat.lt_or_ge l.length l0.length with hlt|hge
 ·exfalso
  have e1:=iA hw r (k:=l.length) (by omega)
  have e2:=iA (iB hr) [] (J9 l.length)
  rw[List.append_nil,he2,e1] at e2
  simp at e2
  have:=e2.2.1
  cases hd:l0.drop l.length with
  |nil=>have:=congrArg List.length hd;simp at this;omega
  |cons f t=>have:=this f (by rw[hd];exact List.mem_cons_self ..);simp[dm] at this
 ·obtain⟨_,h2,h3,h4⟩:=pZ hw (by omega) h
  exact⟨h2,h3,h4⟩
theorem vB {c:UInt8} {l0:List Fd} {r:EN} (hw:∀f∈l0,xC f) (hne:r≠[]) (hs:fg r=none):da (c :: (l0.flatMap dm++r))=none:=by
 cases hd:da (c :: (l0.flatMap dm++r)) with
 |none=>rfl
 |some l=>
  obtain⟨h2,h3,h4⟩:=nQ hw hd
  cases hdl:l.drop l0.length with
  |nil=>rw[hdl] at h3;exact absurd h3 hne
  |cons f t=>
   rw[h3,hdl,List.flatMap_cons,oY (iB h4 f (List.mem_of_mem_drop (by rw[hdl];exact List.mem_cons_self ..)))] at hs
   cases hs
theorem xm {c:UInt8} {l0:List Fd} (hw:∀f∈l0,xC f):da (c :: l0.flatMap dm)=if aK l0=true/\eQ l0=c :: l0.flatMap dm then some l0 else none:=by
 split
 ·rename_i h;exact(gv _ _).2 h
 ·rename_i hn
  cases hd:da (c :: l0.flatMap dm) with
  |none=>rfl
  |some l=>
   have hd':da (c :: (l0.flatMap dm++[]))=some l:=by rw[List.append_nil];exact hd
   obtain⟨h2,h3,h4⟩:=nQ hw hd'
   have:l.drop l0.length=[]:=by
    cases hdl:l.drop l0.length with
    |nil=>rfl
    |cons f t=>rw[hdl] at h3;simp[dm] at h3
   have hl:l0=l:=by
    have e:=List.take_append_drop l0.length l
    rw[this,<-h2,List.append_nil] at e
    exact e
   subst hl
   exact absurd ((gv _ _).1 hd) hn
theorem ul (s:EP) (i:Nat) (x:UInt8) (h:(bl s)[i]?=some x):∃hi:i<s.size,s[i]'hi=x:=by
 obtain⟨h1,h2⟩:=J6.1 h
 refine⟨by rw[<-aZ];exact h1,?_⟩
 rw[<-h2];rfl
theorem mK (A:EL) (c m:Nat) (fs:List Fd) (hm:fs.length=m) (w:EQ) (hA:Rd w A (aC fs)) (hl:m<=9223372036854775807) (hs:∀f∈fs,f.s.size<=9223372036854775807) (p:EP) (q:Int) (hp:aR (kN fs)=p) (hq:uS fs=q):
 Calls Tryz.prog 123 #[.slice A m c] w fun e w'=>e=.returned (.tuple #[.string p,.int .i64 q])/\Below w.heap.size w w':=by
 subst hp hq hm;exact jJ A c fs w hA hl hs
theorem rQ (w:EQ):
 Calls Tryz.prog 91 #[.string ⟨#[]⟩] w fun e w'=>e=.returned (.tuple #[.slice none 0 0,.int .i64 60])/\Below w.heap.size w w':=by
 have h0:kN []=[0]:=by decide
 have h1:uS []=0:=by decide
 obtain⟨p,hp⟩:∃p,aR (kN [])=p:=⟨_,rfl⟩
 have ht:(p.toList == [])=false:=by rw[<-hp,h0,beq_eq_false_iff_ne,ByteArray.toList_eq];simp[aR]
 have HP:=J0 hp
 have H1:=J0 h1
 clear hp h0 h1
 go_enter Tryz.func91,Tryz.ntmps91
 go_wp2
 go_loopw [4,5] (fun l at_ wr=>l=.slice none 0 0/\at_=.int .i64 1/\wr=w) (fun _ _ _=>0)
 case atStart=>exact⟨rfl,rfl,rfl⟩
 case round=>
  obtain⟨rfl,rfl,rfl⟩:=hrel
  go_wp2_with (go_at_call 123;refine(mK none 0 0 [] rfl _ (Rd.nil _ _) (by omega) (by simp) p 0 HP.out H1.out).mono ?_;rintro e w2 ⟨rfl,hb2⟩)
  go_ret2
  exact⟨rfl,hb2⟩
set_option maxRecDepth 100000 in
theorem pN (s:EP) (cnt:UInt8) (q:EN) (hsq:bl s=cnt :: q) (hl:s.size<=2147483647) (w:EQ):
 Calls Tryz.prog 91 #[.string s] w fun e w'=>wH (bl s) e w w'/\Below w.heap.size w w':=by
 obtain⟨i0,hi,hz0,hz1,hz2⟩:=info_parts fI
 have hcnt:=cnt.toNat_lt
 have hbl:=aZ s
 have HSQ:=J0 hsq
 have hs1:1+q.length=s.size:=by rw[<-hbl,hsq];simp;omega
 clear hsq hbl
 go_enter Tryz.func91,Tryz.ntmps91
 go_wp2
 go_loopw [4,5] (fun v a wr=>∃(p:Nat) (l0:List Fd) (r:EN),a=.int .i64 p/\wr.ownsRow w.heap.size 68 3 v l0.length (aC l0)/\l0.length<=p/\p+r.length=s.size/\Hid (q=l0.flatMap dm++r/\(∀f∈l0,xC f))/\Below w.heap.size w wr) (fun _ a _=>s.size - (intOf a).toNat)
 case atStart=>exact⟨1,[],q,rfl,ai _ _ _ _,by simp,hs1,J0 ⟨rfl,by simp⟩,Jy _ _⟩
 case round=>
  obtain⟨p,l0,r,rfl,hown,hlp,hpr,HQ,HB⟩:=hrel
  have hb:bl s=(cnt :: l0.flatMap dm)++r:=by rw[HSQ.out,HQ.out.1];rfl
  have hbr:=wK hb (by rw[aZ];exact hpr)
  have hdr:=pd hb (by rw[aZ];exact hpr)
  cases r with
  |nil=>
   simp only[List.length_nil,Nat.add_zero] at hpr
   subst hpr
   rw[List.append_nil] at hb
   have hend:=xm (c:=cnt) HQ.out.2
   rw[<-hb] at hend
   obtain⟨B,c',rfl,_,_,hrd⟩:=aL hown
   obtain⟨x,hx⟩:∃x,aR (kN l0)=x:=⟨_,rfl⟩
   obtain⟨e,he⟩:∃x,uS l0=x:=⟨_,rfl⟩
   obtain⟨m,hm⟩:∃m,l0.length=m:=⟨_,rfl⟩
   have hsz:∀f∈l0,f.s.size<=9223372036854775807:=fun f hf=>by have:=(HQ.out.2 f hf).1;omega
   have hcase:(e=0/\(x.toList == s.toList)=true/\da (bl s)=some l0)\/(e=0/\(x.toList == s.toList)=false/\da (bl s)=none)\/(e=60/\da (bl s)=none):=by
    cases hr:aK l0
    ·exact .inr (.inr ⟨by rw[<-he];simp[uS,hr],by rw[hend];simp[hr]⟩)
    ·have h1:kN l0=eQ l0:=by simp[kN,hr]
     have h2:e=0:=by rw[<-he];simp[uS,hr]
     by_cases hxs:x=s
     ·refine .inl ⟨h2,by rw[hxs];simp,?_⟩
      have:eQ l0=bl s:=by rw[<-hxs,<-hx,h1,fi]
      rw[hend,this];simp[hr]
     ·refine .inr (.inl ⟨h2,by rw[beq_eq_false_iff_ne,Ne,og];exact hxs,?_⟩)
      rw[hend,Xy]
      rintro ⟨_,h⟩
      apply hxs
      rw[<-hx,h1,h,cl]
   have HX:=J0 hx
   have HE:=J0 he
   have HM:=J0 hm
   rw[hm] at hown |-
   have hlm:m<=9223372036854775807:=by omega
   clear hend hx he hb hbr hdr hm
   rcases hcase with ⟨rfl,ht,hd⟩|⟨rfl,ht,hd⟩|⟨rfl,hd⟩
   all_goals
    have HD:=J0 hd
    clear hd
    go_wp2_with (go_at_call 123;refine(mK B c' m l0 HM.out _ hrd hlm hsz x _ HX.out HE.out).mono ?_;rintro e w2 ⟨rfl,hb2⟩;have hown2:=aG hown hb2;have HB2:=HB.trans (hb2.mono HB.size))
    go_ret2
    first
     |exact⟨.inr ⟨HD.out,rfl⟩,HB2⟩
     |exact⟨.inl ⟨_,_,HD.out,rfl,ag hown2 HM.out.symm rfl⟩,HB2⟩
  |cons n r=>
   have h0:=hbr 0
   have h1:=hbr (1+n.toNat)
   have h2:=hbr (1+n.toNat+1)
   rw[Xq] at hpr
   have hn:=n.toNat_lt
   rw[show p+0=p by omega] at h0
   rw[show 1+n.toNat=n.toNat+1 by omega,List.getElem?_cons_succ] at h1
   rw[show 1+n.toNat+1=n.toNat+1+1 by omega,List.getElem?_cons_succ] at h2
   obtain⟨g0,G0⟩:=ul s p n h0
   rcases(by omega:r.length<n.toNat+2\/n.toNat+2<=r.length) with hc|hc
   ·have hd:da (bl s)=none:=by
     rw[hb];exact vB HQ.out.2 (by simp) (by rw[fg,Xy (by omega)])
    have HD:=J0 hd
    clear hd hb hbr hdr h0 h1 h2
    go_wp2
    go_ret2
    exact⟨.inr ⟨HD.out,rfl⟩,HB⟩
   ·obtain⟨x1,hx1⟩:∃x,r[n.toNat]?=some x:=⟨_,J4 (by omega)⟩
    obtain⟨x2,hx2⟩:∃x,r[n.toNat+1]?=some x:=⟨_,J4 (by omega)⟩
    rw[hx1] at h1
    rw[hx2] at h2
    obtain⟨g1,G1⟩:=ul s _ x1 h1
    obtain⟨g2,G2⟩:=ul s _ x2 h2
    have hstep:fg (n :: r)=some (⟨aR (r.take n.toNat),x1.toNat,x2.toNat⟩,r.drop (n.toNat+2)):=by
     rw[fg,Xz hc,Yy,Yy,hx1,hx2];rfl
    obtain⟨hrow,hwf⟩:=oR hstep
    have hx1b:=x1.toNat_lt
    have hx2b:=x2.toNat_lt
    have hsub:s.extract (p+1) (p+1+n.toNat)=aR (r.take n.toNat):=by
     rw[<-cl (s.extract _ _),jr]
     have e1:(bl s).drop (p+1)=r:=by rw[<-List.drop_drop,hdr];rfl
     rw[e1,show p+1+n.toNat - (p+1)=n.toNat by omega]
    obtain⟨sub,hsn⟩:∃x,aR (r.take n.toNat)=x:=⟨_,rfl⟩
    rw[hsn] at hsub
    have HRow:=J0 hrow
    have HWf:=J0 hwf
    have HSN:=J0 hsn
    have hix:∀(i:Nat) (x:UInt8) (h:i<s.size) (W:EQ) (j:Int),s[i]'h=x->j=(i:Int)->(Instr.index 9 (.string s) (.int .i64 j)).run Tryz.prog W=.ok (.int .u8 (x.toNat:Int)) W:=fun i x h W j hx hj=>by
     subst hx hj
     rw[run_index_string (P:=Tryz.prog) W 9 s .i64 i Tryz.underlying9]
     simp[h]
    have ix1:∀W:EQ,(Instr.index 9 (.string s) (.int .i64 ((p:Int)+1+(n.toNat:Int)))).run Tryz.prog W=.ok (.int .u8 (x1.toNat:Int)) W:=fun W=>hix _ x1 g1 W _ G1 (by omega)
    have ix2:∀W:EQ,(Instr.index 9 (.string s) (.int .i64 ((p:Int)+2+(n.toNat:Int)))).run Tryz.prog W=.ok (.int .u8 (x2.toNat:Int)) W:=fun W=>hix _ x2 g2 W _ G2 (by omega)
    have s1:(p:Int)+1<=(p:Int)+1+(n.toNat:Int):=by omega
    have s2:(p:Int)+1+(n.toNat:Int)<=(s.size:Int):=by omega
    have s4:((p:Int)+1).toNat=p+1:=by omega
    have s5:((p:Int)+1+(n.toNat:Int)).toNat=p+1+n.toNat:=by omega
    have s6:(0:Int)<=(p:Int)+1:=by omega
    have s7:(0:Int)<=(p:Int)+1+(n.toNat:Int):=by omega
    have hl0:l0.length<=2147483647:=by omega
    clear hb hbr hdr h0 h1 h2 hx1 hx2 hstep hrow hwf hsn hix G1 G2
    go_wp2
    have hw1:IntKind.i64.wrap ((p:Int)+1)=(p:Int)+1:=Xj _ (by omega)
    have hw2:IntKind.i64.wrap ((p:Int)+1+(n.toNat:Int))=(p:Int)+1+(n.toNat:Int):=Xj _ (by omega)
    have hw3:IntKind.i64.wrap ((p:Int)+2)=(p:Int)+2:=Xj _ (by omega)
    have hw4:IntKind.i64.wrap ((p:Int)+2+(n.toNat:Int))=(p:Int)+2+(n.toNat:Int):=Xj _ (by omega)
    have hw5:IntKind.i64.wrap (x1.toNat:Int)=(x1.toNat:Int):=Xj _ (by omega)
    have hw6:IntKind.i64.wrap (x2.toNat:Int)=(x2.toNat:Int):=Xj _ (by omega)
    have hn1:∀j u,[Value.string sub,.int .i64 x1.toNat,.int .i64 x2.toNat][j]?=some u->(wr.alloc (.cells #[.string sub,.int .i64 x1.toNat,.int .i64 x2.toNat] 68)).drew.cell? ((⟨wr.heap.size,0,none⟩:Addr).add j)=some u:=fV wr _ _ _ _
    have hsz:=HB.size
    have hnz:(1:Nat)<=1:=by omega
    go_region_held3 (fun w'=>True) (first|go_keep|trivial)
     ((refine step_append_lies _ (by rfl) _ _ _ (by rfl) w.heap.size 68 i0 (.agg #[.string ⟨#[]⟩,.int .i64 0,.int .i64 0]) 3 32 Tryz.underlying27 hi hz0 hz1 hz2 rfl (by omega) u4 l0.length (aC l0) (by rfl) ((hown.alloc _).drew) ⟨wr.heap.size,0,none⟩ 1 1 [.string sub,.int .i64 x1.toNat,.int .i64 x2.toNat] (by rfl) (by rfl) hn1 (by simp[Value.oneCell']) (by omega) (by unfold maxLen;omega) (by omega) (by simp;omega) (wr.heap.size+1) (by simp) ?_;intro g cap w2 hown2 hgrow1 hat hlt2))
    all_goals
     have hsu:w.heap.size<=(wr.alloc (.cells #[.string sub,.int .i64 x1.toNat,.int .i64 x2.toNat] 68)).drew.heap.size:=Q7 hsz (by simp)
     have HB3:Below w.heap.size w w2:=Below.grown (w:=(wr.alloc (.cells #[.string sub,.int .i64 x1.toNat,.int .i64 x2.toNat] 68)).drew) (HB.alloc hsz _).drew hgrow1 hsu (fun q hq=>aF hown q hq)
     have hown3:w2.ownsRow w.heap.size 68 3 (.slice (some ⟨g,0,none⟩) (l0.length+1) cap) (l0++[(⟨sub,x1.toNat,x2.toNat⟩:Fd)]).length (aC (l0++[⟨sub,x1.toNat,x2.toNat⟩])):=
      ag hown2 (by simp) (by rw[eB];rfl)
     clear hw1 hw2 hw3 hw4 hw5 hw6 hown2 hgrow1 hown hn1 hsu hat hlt2
     go_wp2
     go_roundw
     case rel=>
      refine⟨p+3+n.toNat,l0++[⟨sub,x1.toNat,x2.toNat⟩],r.drop (n.toNat+2),by go_num,hown3,by simp;omega,by simp;omega,J0 ⟨?_,?_⟩,HB3⟩
      ·rw[HQ.out.1,HRow.out,HSN.out];simp
      ·intro f hf
       rcases X5.1 hf with hf|hf
       ·exact HQ.out.2 f hf
       ·simp at hf;subst hf;rw[<-HSN.out];exact HWf.out
     case measure=>simp[intOf];omega
theorem oI (s:EP) (hl:s.size<=2147483647) (w:EQ):
 Calls Tryz.prog 91 #[.string s] w fun e w'=>wH (bl s) e w w'/\Below w.heap.size w w':=by
 cases h:bl s with
 |nil=>
  have hs:s=⟨#[]⟩:=by rw[<-cl s,h];rfl
  subst hs
  refine(rQ w).mono ?_
  rintro e w' ⟨rfl,hb⟩
  exact⟨.inr ⟨rfl,rfl⟩,hb⟩
 |cons x q=>
  have:=pN s x q h hl w
  rwa [h] at this
theorem bY (A:EL) (c m:Nat) (fs:List Fd) (hm:fs.length=m) (r:Bool) (h:aK fs=r) (w:EQ) (hA:Rd w A (aC fs)) (hl:m<=9223372036854775807):
 Calls Tryz.prog 62 #[.slice A m c] w fun e w'=>e=.returned (.bool r)/\Below w.heap.size w w':=by subst hm;exact dA A c fs r h w hA hl
theorem ab (A:EL) (c m:Nat) (fs:List Fd) (hm:fs.length=m) (r:Bool) (h:aK fs=r) (w:EQ) (hA:Rd w A (aC fs)) (hl:m<=9223372036854775807) (hs:∀f∈fs,f.s.size<=9223372036854775807):
 Calls Tryz.prog 77 #[.slice A m c] w fun e w'=>e=.returned (.bool r)/\Below w.heap.size w w':=by subst hm;exact kH A c fs r h w hA hl hs
theorem kR (A:EL) (c m:Nat) (fs:List Fd) (hm:fs.length=m) (z:Nat) (hz:bP fs=z) (ls:List Nat) (hls:fT fs=ls) (n:Nat) (hn:ls.length=n) (w:EQ) (hA:Rd w A (aC fs)) (hl:m<=9223372036854775807):
 Calls Tryz.prog 70 #[.slice A m c] w fun e w'=>∃B c',e=.returned (.tuple #[.slice B n c',.int .i64 (z:Nat)])/\Rd w' B (gw ls)/\Below w.heap.size w w':=by
 subst hm hls hn
 refine(gl A c fs z hz w hA hl).mono ?_
 rintro e w' ⟨B,m,c',rfl,rfl,hr,hb⟩
 exact⟨B,c',rfl,hr,hb⟩
theorem DL (A:EL) (c m:Nat) (fs:List Fd) (hm:fs.length=m) (z:Nat) (hz:bP fs=z) (w:EQ) (hA:Rd w A (aC fs)) (hl:m<=9223372036854775807):
 Calls Tryz.prog 73 #[.slice A m c] w fun e w'=>∃B c',e=.returned (.slice B z c')/\z<=c'/\Rd w' B (aH (List.replicate z 0))/\Below w.heap.size w w':=by
 subst hm hz
 refine(xX A c fs w hA hl).mono ?_
 rintro e w' ⟨v,rfl,⟨B,c',rfl,hc,hr⟩,hb⟩
 rw[List.length_replicate] at *
 exact⟨B,c',rfl,hc,hr,hb⟩
theorem mr (A:EL) (c m:Nat) (fs:List Fd) (hm:fs.length=m) (nm:EP) (r:Int) (h:aW fs nm=r) (w:EQ) (hA:Rd w A (aC fs)) (hl:m<=9223372036854775807):
 Calls Tryz.prog 96 #[.slice A m c,.string nm] w fun e w'=>e=.returned (.int .i64 r)/\Below w.heap.size w w':=by subst hm;exact kO A c fs nm r h w hA hl
theorem ey (A:EL) (c m:Nat) (fs:List Fd) (hm:fs.length=m) (nm:EP) (r:Int) (h:aW fs nm=r) (w:EQ) (hA:Rd w A (aC fs)) (hl:m<=9223372036854775807):
 Calls Tryz.prog 114 #[.slice A m c,.string nm] w fun e w'=>e=.returned (.int .i64 r)/\w=w':=by subst hm;exact oJ A c fs nm r h w hA hl
theorem wC (Ab:EL) (nb cb:Nat) (b:EN) (hb0:b.length=nb) (A:EL) (c m:Nat) (fs:List Fd) (hm:fs.length=m) (nm:EP) (v:Vl) (hv:fR b fs nm=v) (q:Int) (hq:fc b fs nm=q) (w:EQ) (hA:Rd w A (aC fs)) (hl:m<=9223372036854775807) (hb:Rd w Ab (aH b)) (hcb:nb<=cb):
 Calls Tryz.prog 71 #[.slice Ab nb cb,.slice A m c,.string nm] w fun e w'=>e=.returned (.tuple #[.agg #[.int .i64 v.k,.int .u64 v.b,.string v.t],.int .i64 q])/\Below w.heap.size w w':=by
 subst hb0 hm hv hq;exact xU Ab cb b A c fs nm w hA hl hb hcb
theorem DO (Ab:EL) (nb cb:Nat) (b:EN) (hb0:b.length=nb) (A:EL) (c m:Nat) (fs:List Fd) (hm:fs.length=m) (nm:EP) (k u:Int) (t:EP) (h0:0<=u) (h1:u<18446744073709551616) (x:EN) (hx:fq b fs nm ⟨k,u,t⟩=x) (n:Nat) (hn:x.length=n) (q:Int) (hq:kn b fs nm ⟨k,u,t⟩=q) (w:EQ) (hA:Rd w A (aC fs)) (hl:m<=9223372036854775807) (hb:Rd w Ab (aH b)):
 Calls Tryz.prog 75 #[.slice Ab nb cb,.slice A m c,.string nm,.agg #[.int .i64 k,.int .u64 u,.string t]] w fun e w'=>∃B c',e=.returned (.tuple #[.slice B n c',.int .i64 q])/\n<=c'/\Rd w' B (aH x)/\Below w.heap.size w w':=by
 subst hb0 hm hx hq hn
 refine(xZ Ab cb b A c fs nm ⟨k,u,t⟩ h0 h1 w hA hl hb).mono ?_
 rintro e w' ⟨v,rfl,⟨B,c',rfl,hc,hr⟩,hb⟩
 exact⟨B,c',rfl,hc,hr,hb⟩
theorem yp (A:EL) (c m:Nat) (fs:List Fd) (hm:fs.length=m) (x:EN) (hx:kN fs=x) (n:Nat) (hn:x.length=n) (q:Int) (hq:uS fs=q) (w:EQ) (hA:Rd w A (aC fs)) (hl:m<=9223372036854775807):
 Calls Tryz.prog 60 #[.slice A m c] w fun e w'=>∃B c',e=.returned (.tuple #[.slice B n c',.int .i64 q])/\n<=c'/\Rd w' B (aH x)/\Below w.heap.size w w':=by
 subst hm hx hq hn
 refine(ox A c fs w hA hl).mono ?_
 rintro e w' ⟨v,rfl,⟨B,c',rfl,hc,hr⟩,hb⟩
 exact⟨B,c',rfl,hc,hr,hb⟩
theorem qW (A B:EL) (c d m n:Nat) (a b:List Fd) (ha:a.length=m) (hb:b.length=n) (r:Bool) (hr:bh a b=r) (w:EQ) (hA:Rd w A (aC a)) (hB:Rd w B (aC b)) (hm:m<=9223372036854775807) (hn:n<=9223372036854775807):
 Calls Tryz.prog 22 #[.slice A m c,.slice B n d] w fun e w'=>e=.returned (.bool r)/\Below w.heap.size w w':=by
 subst ha hb hr;exact uD A B c d a b w hA hB hm hn
def X0:EN:=[0,0,0,0,2,1,0,0,0,0,0,0,0,0,0,0,0,0,0,0,0,0,0,0]
theorem lQ {fs:List Fd} (hr:aK fs=true) {k:Nat} {f:Fd} (hf:fs[k]?=some f):bI f.s=true/\bW f.k f.l=true/\aW fs f.s=k:=by
 simp only[aK,Qz,Y8] at hr
 obtain⟨h1,h2⟩:=J6.1 hf
 have:=hr.1 k h1
 rw[h2] at this
 simp only[vJ,Qz,Y8] at this
 exact⟨this.1.1,this.1.2,this.2⟩
theorem vz (vk bits:Int) (tx s s2:EP) (k l k2 l2:Int) (h0:0<=bits) (h1:bits<18446744073709551616) (v:ER) (q:Int) (hv:gp vk bits tx k l k2 l2=v) (hq:jj vk bits tx k l k2 l2=q) (w:EQ):
 Calls Tryz.prog 74 #[.agg #[.int .i64 vk,.int .u64 bits,.string tx],.agg #[.string s,.int .i64 k,.int .i64 l],.agg #[.string s2,.int .i64 k2,.int .i64 l2]] w fun e w'=>e=.returned (.tuple #[v,.int .i64 q])/\Below w.heap.size w w':=by
 subst hv hq;exact uW vk bits tx s s2 k l k2 l2 h0 h1 w
theorem uR (b:Int) (h0:0<=b) (e q:Int) (he:b / 4503599627370496 % 2048 - 1075=e) (hq:b % 4503599627370496=q):cN b.toNat=if e=972/\q≠0 then 0 else if 11<=e then(if 9223372036854775808<=b then -9223372036854775808 else 9223372036854775807) else if 9223372036854775808<=b then -(dp (4503599627370496+q.toNat) e:Int) else(dp (4503599627370496+q.toNat) e:Int):=by
 have h1:(fld b.toNat:Int)=e+1075:=by unfold fld;omega
 have h2:kY b.toNat=q.toNat:=by unfold kY;omega
 have h3:(me b.toNat=true)↔9223372036854775808<=b:=by simp[me];omega
 unfold cN
 rw[h2,show(fld b.toNat:Int) - 1075=e by omega]
 have c1:(fld b.toNat=2047/\q.toNat≠0)↔(e=972/\q≠0):=by omega
 have c2:(1086<=fld b.toNat)↔11<=e:=by omega
 simp only[c1,c2,h3]
theorem CZ (d:Nat) (k:Nat):dp d (k:Int)=d * 2 ^ k:=by
 unfold dp
 rw[show (-(k:Int)).toNat=0 by omega,Int.toNat_natCast];simp
theorem tB (d:Nat) (k:Nat):dp d (-(k:Int))=d / 2 ^ k:=by
 unfold dp
 rw[show (-(k:Int)).toNat=0 by omega,show(-(-(k:Int))).toNat=k by omega];simp
theorem qG {d k:Nat} (hd:d<9007199254740992) (hk:k<=10):d * 2 ^ k<9223372036854775808:=by
 have:2 ^ k<=2 ^ 10:=Nat.pow_le_pow_right (by decide) hk
 calc d * 2 ^ k<=d * 2 ^ 10:=Nat.mul_le_mul_left _ this
  _<_:=by omega
theorem rW (b:Int) (h0:0<=b) (h1:b<18446744073709551616) (w:EQ):
 Calls Tryz.prog 119 #[.int .u64 b] w fun e w'=>e=.returned (.int .i64 (cN b.toNat))/\w=w':=by
 obtain⟨r,hr⟩:∃r,cN b.toNat=r:=⟨_,rfl⟩
 rw[hr]
 go_enter Tryz.func119,Tryz.ntmps119
 go_upto_region 4 with fail
 have hp:=uR b h0 _ _ rfl rfl
 have he0:-1075<=b / 4503599627370496 % 2048 - 1075/\b / 4503599627370496 % 2048 - 1075<=972:=by omega
 generalize b / 4503599627370496 % 2048 - 1075=e at *
 rw[hr] at hp
 clear hr
 obtain⟨e0,e1⟩:=he0
 obtain⟨ng,hng⟩:∃ng,decide (9223372036854775808<=b)=ng:=⟨_,rfl⟩
 have hng':(9223372036854775808<=b)↔ng=true:=by rw[<-hng];simp
 simp only[hng'] at hp
 clear hng'
 rw[hng]
 clear hng
 by_cases c1:e=972/\b % 4503599627370496≠0
 ·rw[Xz c1] at hp
  obtain⟨rfl,c2⟩:=c1
  have t1:(b % 4503599627370496 != 0)=true:=by simpa using c2
  subst hp
  go_wp2
  go_ret
  exact⟨rfl,rfl⟩
 ·rw[Xy c1] at hp
  have t1:(e == 972)=false\/(e=972/\(b % 4503599627370496 != 0)=false):=by
   by_cases h:e=972
   ·exact .inr ⟨h,by simpa[h] using c1⟩
   ·exact .inl (by simpa using h)
  clear c1
  by_cases c2:11<=e
  ·rw[Xz c2] at hp
   rcases t1 with t1|⟨rfl,t1⟩ <;> cases ng
   all_goals
    simp only[Bool.false_eq_true,if_true,if_false] at hp
    subst hp
    go_wp2
    go_ret
    exact⟨rfl,rfl⟩
  ·rw[Xy c2] at hp
   have t1:(e == 972)=false:=by simp;omega
   have t2:decide (11<=e)=false:=by simpa using c2
   by_cases c3:e< -52
   ·have hz:dp (4503599627370496+(b % 4503599627370496).toNat) e=0:=by
     obtain⟨J,hJ⟩:∃J:Nat,e=-(J:Int):=⟨(-e).toNat,by omega⟩
     rw[hJ,tB]
     exact Nat.div_eq_of_lt (Nat.lt_of_lt_of_le (show _<2 ^ 53 by omega) (Nat.pow_le_pow_right (by decide) (by omega)))
    rw[hz] at hp
    obtain rfl:r=0:=by rw[hp];cases ng <;> rfl
    have t3:decide (e< -52)=true:=by simpa using c3
    clear hp
    go_wp2
    go_ret
    exact⟨rfl,rfl⟩
   ·have t3:decide (e< -52)=false:=by simpa using c3
    obtain⟨D,hD⟩:∃D:Nat,b % 4503599627370496+4503599627370496=D:=⟨(b % 4503599627370496+4503599627370496).toNat,by omega⟩
    have hD1:D<9007199254740992:=by omega
    rw[show 4503599627370496+(b % 4503599627370496).toNat=D by omega] at hp
    go_upto_region 13 with fail
    try rw[hD]
    by_cases c4:0<=e
    ·obtain⟨n,rfl⟩:∃n:Nat,e=n:=⟨e.toNat,by omega⟩
     rw[CZ] at hp
     have hn:n<=10:=by omega
     go_loop [4,6] (fun a m=>∃k:Nat,k<=n/\a=.int .i64 ((n:Int) - k)/\m=.int .i64 ((D * 2 ^ k:Nat):Int)) (fun a _=>(intOf a).toNat)
     case atStart=>exact⟨0,by omega,by simp,by simp⟩
     case round=>
      obtain⟨k,hk,rfl,rfl⟩:=hrel
      by_cases hlt:k<n
      ·have g1:decide (0<(n:Int) - k)=true:=by simp;omega
       have g2:=qG hD1 (show k+1<=10 by omega)
       rw[Nat.pow_succ,<-Nat.mul_assoc] at g2
       generalize hm:D * 2 ^ k=m at *
       go_wp2
       go_round
       case rel=>exact⟨k+1,by omega,by go_num,by rw[Nat.pow_succ,<-Nat.mul_assoc,hm];go_num⟩
       case measure=>simp[intOf];omega
      ·obtain rfl:k=n:=by omega
       have g1:decide (0<(k:Int) - k)=false:=by simp
       have g2:=qG hD1 hn
       generalize D * 2 ^ k=m at *
       simp only[Int.sub_self] at g1 |-
       go_wp2
       go_loop [4,6] (fun a m'=>a=.int .i64 0/\m'=.int .i64 (m:Int)) (fun _ _=>0)
       case atStart=>exact⟨rfl,rfl⟩
       case round=>
        obtain⟨rfl,rfl⟩:=hrel
        cases ng
        all_goals
         simp only[Bool.false_eq_true,if_true,if_false] at hp
         subst hp
         go_wp2
         go_ret
         exact⟨rfl,rfl⟩
    ·obtain⟨n,rfl⟩:∃n:Nat,e=-(n:Int):=⟨(-e).toNat,by omega⟩
     rw[tB] at hp
     have hn:n<=52:=by omega
     have hn0:0<n:=by omega
     go_loop [4,6] (fun a m'=>a=.int .i64 (-(n:Int))/\m'=.int .i64 (D:Int)) (fun _ _=>0)
     case atStart=>exact⟨rfl,rfl⟩
     case round=>
      obtain⟨rfl,rfl⟩:=hrel
      have g1:decide (0< -(n:Int))=false:=Y9 (by omega)
      go_wp2
      go_loop [4,6] (fun a m=>∃k:Nat,k<=n/\a=.int .i64 (-(n:Int)+k)/\m=.int .i64 ((D / 2 ^ k:Nat):Int)) (fun a _=>(-(intOf a)).toNat)
      case atStart=>exact⟨0,by omega,by simp,by simp⟩
      case round=>
       obtain⟨k,hk,rfl,rfl⟩:=hrel
       have hm2:D / 2 ^ k<=D:=Nat.div_le_self _ _
       by_cases hlt:k<n
       ·have g1:decide (-(n:Int)+k<0)=true:=by simp;omega
        have hs:D / 2 ^ (k+1)=D / 2 ^ k / 2:=by rw[Nat.pow_succ,Nat.div_div_eq_div_mul]
        generalize hm:D / 2 ^ k=m at *
        go_wp2
        go_round
        case rel=>exact⟨k+1,by omega,by go_num,by rw[hs];go_num⟩
        case measure=>simp[intOf];omega
       ·obtain rfl:k=n:=by omega
        have g1:decide (-(k:Int)+k<0)=false:=Y9 (by omega)
        generalize D / 2 ^ k=m at *
        cases ng
        all_goals
         simp only[Bool.false_eq_true,if_true,if_false] at hp
         subst hp
         go_wp2
         go_ret
         exact⟨rfl,rfl⟩
def Dv (k k2:Int) (more:Bool):Bool:=
 if k=k2 then true else if k<=4/\k2<=8 then more else if k=9/\k2<=8 then more || decide (k2=1) else if 5<=k/\k<=8/\5<=k2/\k2<=8 then more else if k<=8/\k2=10 then true else decide (k=10) && decide (k2=8)
theorem jA {k l:Int} (h:bW k l=true):1<=k/\k<=12:=by
 by_cases hk:k=12
 ·omega
 ·have:=fm h hk
  have:=(ko k).1 this.2
  omega
theorem xh {k l k2 l2:Int} (h:bW k l=true) (h2:bW k2 l2=true):aU k l k2 l2=Dv k k2 (decide (aT k l<aT k2 l2)):=by
 have b1:=jA h
 have b2:=jA h2
 have hz:∀{k l:Int},bW k l=true->aT k l≠0:=fun {k l} h=>by
  by_cases hk:k=12
  ·subst hk
   have:=br.1 (eI▸h)
   rw[iQ h];omega
  ·have:=cH h hk;omega
 have n1:=hz h
 have n2:=hz h2
 have e9:k=9->aT k l=1:=fun e=>by subst e;rw[aT,Xz h];rfl
 have e2:k2=2->aT k2 l2=2:=fun e=>by subst e;rw[aT,Xz h2];rfl
 have e3:k2=3->aT k2 l2=4:=fun e=>by subst e;rw[aT,Xz h2];rfl
 have e4:k2=4->aT k2 l2=8:=fun e=>by subst e;rw[aT,Xz h2];rfl
 unfold aU Dv
 generalize aT k l=x at *
 generalize aT k2 l2=y at *
 clear hz h h2
 rw[Qy]
 simp only[eK,Y8]
 rcases(by omega:k<=4\/(5<=k/\k<=8)\/k=9\/10<=k) with c|c|c|c
 all_goals grind (splits:=30)
theorem rK (s s2:EP) (k l k2 l2:Int) (w:EQ):Calls Tryz.prog 116 #[.agg #[.string s,.int .i64 k,.int .i64 l],.agg #[.string s2,.int .i64 k2,.int .i64 l2]] w fun e w'=>e=.returned (.bool (aU k l k2 l2))/\Below w.heap.size w w':=by
 have HB:Below w.heap.size w ((w.alloc (.cells #[.string s,.int .i64 k,.int .i64 l] 68)).alloc (.cells #[.string s2,.int .i64 k2,.int .i64 l2] 68)):=(aA _).alloc (by simp) _
 obtain⟨m1,hm1⟩:∃r,bW k l=r:=⟨_,rfl⟩
 obtain⟨m2,hm2⟩:∃r,bW k2 l2=r:=⟨_,rfl⟩
 have H1:=J0 hm1;have H2:=J0 hm2
 by_cases hb:m1=true/\m2=true
 ·obtain⟨rfl,rfl⟩:=hb
  rw[xh hm1 hm2]
  obtain⟨b1,b2⟩:=jA hm1
  obtain⟨b3,b4⟩:=jA hm2
  clear hm1 hm2
  go_enter Tryz.func116,Tryz.ntmps116
  go_wp2_with (first
   |(go_at_call 113;refine(kJ _ _ _ _).mono ?_;rintro e w1 ⟨rfl,hb⟩;obtain⟨hc,hf⟩:=aS hb;obtain⟨z0,z1⟩:=xA w hb (by (try simp) <;> omega);(first|rw[H1.out]|rw[H2.out]);replace HB:Below w.heap.size w _:=aB (by repeat (first|exact HB|refine J8 ?_ (by dsimp only;omega) _|refine Jk ?_ (by have:=HB.size;(try simp) <;> omega) _|apply Jv)) hb))
  have g1:cG w1 w.heap.size s k l:=⟨by go_simp,by go_simp,by go_simp⟩
  have g2:cG w1 (w.heap.size+1) s2 k2 l2:=⟨by go_simp,by go_simp,by go_simp⟩
  refine RW.start (fun w'=>Below w.heap.size w w'/\cG w' w.heap.size s k l/\cG w' (w.heap.size+1) s2 k2 l2) (by kernel_rfl) (by kernel_rfl) ⟨HB.drew,g1,g2⟩ ?_
  clear g1 g2 hc hf hb HB z0 z1
  repeat (first
   |(refine' RW.val (by rfl) ?_ ?_;rotate_left;(focus (intro w' hS;obtain⟨HB,⟨c0,c1,c2⟩,⟨d0,d1,d2⟩⟩:=hS;go_simp;rfl));simp only[Act.put,J1,J3,J2])
   |(refine RW.off (by rfl) ?_;simp only[Act.put,J1,J3,J2])
   |(refine' RW.call (by rfl) ?_ ?_ ?_
     rotate_left 3
     (focus (intro w' hS;obtain⟨HB,⟨c0,c1,c2⟩,⟨d0,d1,d2⟩⟩:=hS;go_simp;exact⟨rfl,rfl⟩))
     (focus
       intro w' hS
       obtain⟨HB,⟨c0,c1,c2⟩,⟨d0,d1,d2⟩⟩:=hS
       first
        |(refine(jK _ _ _ _).mono ?_;rintro e w1 ⟨rfl,hb⟩;exact⟨rfl,⟨(aB HB hb),⟨(aE (B:=0) hb c0),(aE (B:=0) hb c1),(aE (B:=0) hb c2)⟩,⟨(aE (B:=0) hb d0),(aE (B:=0) hb d1),(aE (B:=0) hb d2)⟩⟩⟩))
     simp only[Act.put,J1,J3,J2]))
  refine RW.done (fun w' hS=>?_)
  obtain⟨HB,⟨c0,c1,c2⟩,⟨d0,d1,d2⟩⟩:=hS
  go_wp2_with fail
  all_goals
   go_ret
   refine⟨al ?_,HB⟩
   clear HB c0 c1 c2 d0 d1 d2
   try simp only[beq_iff_eq,beq_eq_false_iff_ne,ne_eq] at *
   unfold Dv
   generalize aT k l=x at *
   generalize aT k2 l2=y at *
   clear H1 H2
   grind (splits:=30)
 ·have hcf:aU k l k2 l2=false:=by
   rw[aU,Xz]
   by_cases h1:m1=true
   ·have h2:m2=false:=by cases m2 <;> simp_all
    exact .inr (by rw[aT,hm2,h2];rfl)
   ·have h1:m1=false:=by simpa using h1
    exact .inl (by rw[aT,hm1,h1];rfl)
  rw[hcf]
  have hb':m1=false\/(m1=true/\m2=false):=by cases m1 <;> cases m2 <;> simp_all
  clear hm1 hm2 hcf hb
  rcases hb' with rfl|⟨rfl,rfl⟩
  all_goals
   go_enter Tryz.func116,Tryz.ntmps116
   go_wp2_with (first
    |(go_at_call 113;refine(kJ _ _ _ _).mono ?_;rintro e w1 ⟨rfl,hb⟩;obtain⟨hc,hf⟩:=aS hb;obtain⟨z0,z1⟩:=xA w hb (by (try simp) <;> omega);(first|rw[H1.out]|rw[H2.out]);replace HB:Below w.heap.size w _:=aB (by repeat (first|exact HB|refine J8 ?_ (by dsimp only;omega) _|refine Jk ?_ (by have:=HB.size;(try simp) <;> omega) _|apply Jv)) hb))
   go_ret
   exact⟨al rfl,HB⟩
def BA (m:Nat):Nat->Bool
 |0=>false
 |k+1=>(((m / 2 ^ k:Nat):Int) % 2 == 1)
def BN (m:Nat):Nat->Bool
 |0=>false
 |k+1=>!(decide (m % 2 ^ k=0))
theorem BK (m k:Nat):BN m (k+1)=(BN m k || BA m k):=by
 cases k with
 |zero=>simp[BN,BA,Nat.mod_one]
 |succ j=>
  have hp:=Nat.two_pow_pos j
  simp only[BN,BA]
  rw[Nat.mod_pow_succ]
  have h2:m / 2 ^ j % 2=0\/m / 2 ^ j % 2=1:=by omega
  rw[Qy]
  simp only[Bool.not_eq_true',decide_eq_false_iff_not,Bool.or_eq_true,beq_iff_eq]
  generalize 2 ^ j=P at *
  generalize m / P=Q at *
  rcases h2 with h|h
  ·rw[h];omega
  ·rw[h];omega
theorem Dx (m:Nat) (h:52<m.log2):uJ m=(BA m (m.log2 - 52) && (BN m (m.log2 - 52) || ((gj m:Int) % 2 == 1))):=by
 have hs:gj m=m / 2 ^ (m.log2 - 52):=by rw[gj,Xy (by omega)]
 rw[hs,uJ,Yx h,Bool.true_and]
 obtain⟨j,hj⟩:∃j,m.log2 - 52=j+1:=⟨m.log2 - 53,by omega⟩
 rw[hj]
 simp only[BN,BA]
 have e:=Nat.mod_pow_succ (x:=m) (b:=2) (k:=j)
 rw[e]
 clear e
 have hp:=Nat.two_pow_pos j
 have h2:m / 2 ^ j % 2=0\/m / 2 ^ j % 2=1:=by omega
 have hlt:=Nat.mod_lt m hp
 rw[Nat.pow_succ]
 generalize m / (2 ^ j * 2)=R at *
 generalize 2 ^ j=P at *
 generalize m % P=S at *
 generalize m / P=Q at *
 rw[Qy]
 simp only[Bool.or_eq_true,Qz,Y8,beq_iff_eq,Bool.not_eq_true',decide_eq_false_iff_not]
 rcases h2 with h|h
 ·rw[h];omega
 ·rw[h];omega
theorem Br {m k:Nat} (h0:m≠0) (h:k<m.log2 - 52):9007199254740992<=m / 2 ^ k:=by
 have h1:=Nat.log2_self_le h0
 rw[Nat.le_div_iff_mul_le (Nat.two_pow_pos k)]
 calc 9007199254740992 * 2 ^ k=2 ^ (53+k):=by rw[Nat.pow_add]
  _<=2 ^ m.log2:=Nat.pow_le_pow_right (by decide) (by omega)
  _<=m:=h1
theorem xy {m k:Nat} (h0:m≠0) (h:k<52 - m.log2):m * 2 ^ k<4503599627370496:=by
 have h1:m<2 ^ (m.log2+1):=Nat.lt_log2_self
 calc m * 2 ^ k<2 ^ (m.log2+1) * 2 ^ k:=Nat.mul_lt_mul_of_pos_right h1 (Nat.two_pow_pos k)
  _=2 ^ (m.log2+1+k):=by rw[<-Nat.pow_add]
  _<=2 ^ 52:=Nat.pow_le_pow_right (by decide) (by omega)
def oN (m:Nat) (minus:Bool):Int:=if m=0 then 0 else(bL minus m:Int)
theorem uA (minus:Bool) (w:EQ):Calls Tryz.prog 118 #[.int .u64 0,.bool minus] w fun e w'=>e=.returned (.int .u64 0)/\w=w':=by
 go_enter Tryz.func118,Tryz.ntmps118
 go_wp2
 go_ret
 exact⟨rfl,rfl⟩
theorem va (m:Nat) (h0:m≠0) (h1:m<18446744073709551616) (hL:52<m.log2) (minus:Bool) (r:Int) (hr:(bL minus m:Int)=r) (w:EQ):Calls Tryz.prog 118 #[.int .u64 m,.bool minus] w fun e w'=>e=.returned (.int .u64 r)/\w=w':=by
 have hl64:m.log2<64:=by rw[Nat.log2_lt h0];omega
 have t0:((m:Int) == 0)=false:=by simpa using h0
 have hsg:=jN m h0
 have hrp:=Dx m hL
 have hsd:m / 2 ^ (m.log2 - 52)=gj m:=by rw[gj,Xy (by omega)]
 rw[bL,Xy h0] at hr
 have hbig:=fun k=>Br (m:=m) (k:=k) h0
 obtain⟨K,hK⟩:∃K,m.log2 - 52=K:=⟨_,rfl⟩
 rw[hK] at hrp hsd hbig
 have hKL:m.log2=K+52:=by omega
 rw[hKL] at hr
 go_enter Tryz.func118,Tryz.ntmps118
 go_wp2
 go_loop [0,5,6,7] (fun x p lo hf=>∃k:Nat,k<=K/\x=.int .u64 ((m / 2 ^ k:Nat):Int)/\p=.int .i64 (1075+k)/\lo=.bool (BN m k)/\hf=.bool (BA m k)) (fun _ p _ _=>K+1075 - (intOf p).toNat)
 case atStart=>exact⟨0,by omega,by simp,by simp,rfl,rfl⟩
 case round=>
  obtain⟨k,hk,rfl,rfl,rfl,rfl⟩:=hrel
  by_cases hlt:k<K
  ·have hb:=hbig k hlt
   have hle:m / 2 ^ k<=m:=Nat.div_le_self _ _
   have hst:=BK m k
   have hh:BA m (k+1)=(((m / 2 ^ k:Nat):Int) % 2 == 1):=rfl
   have hd:m / 2 ^ (k+1)=m / 2 ^ k / 2:=by rw[Nat.pow_succ,Nat.div_div_eq_div_mul]
   generalize hx:m / 2 ^ k=x at *
   have g1:decide (9007199254740992<=(x:Int))=true:=by simp;omega
   generalize BN m k=a at *
   generalize BA m k=b at *
   clear hrp hsd hsg hr
   cases a
   all_goals
    go_wp2
    go_round
    case rel=>exact⟨k+1,by omega,by rw[hd];go_num,by go_num,by rw[hst];rfl,by rw[hh]⟩
    case measure=>simp[intOf];omega
  ·obtain rfl:k=K:=by omega
   rw[hsd]
   generalize gj m=g at *
   generalize BN m k=a at *
   generalize BA m k=b at *
   generalize uJ m=u at *
   have hkk:k<=11:=by omega
   clear hbig hsd hK hKL h0 h1 hL t0 hl64 hk hlt
   obtain⟨g0,g1⟩:=hsg
   have z1:decide (9007199254740992<=(g:Int))=false:=by simp;omega
   have z2:decide ((g:Int)<4503599627370496)=false:=by simp;omega
   obtain⟨c,hc⟩:∃c,((g:Int) % 2 == 1)=c:=⟨_,rfl⟩
   rw[hc] at hrp
   go_wp2
   go_loop [0,5] (fun x p=>x=.int .u64 (g:Int)/\p=.int .i64 (1075+k)) (fun _ _=>0)
   case atStart=>exact⟨rfl,rfl⟩
   case round=>
    obtain⟨rfl,rfl⟩:=hrel
    cases b <;> cases a <;> cases c <;> cases minus
    all_goals
     simp only[Bool.and_false,Bool.false_and,Bool.and_true,Bool.true_and,Bool.or_true,Bool.true_or,Bool.or_false,Bool.false_or] at hrp
     subst hrp
     simp only[Bool.toNat_false,Bool.toNat_true,Bool.false_eq_true,if_true,if_false] at hr
     go_wp2
     go_ret
     exact⟨cf (by omega),rfl⟩
theorem rU (m:Nat) (h0:m≠0) (h1:m<18446744073709551616) (hL:m.log2<=52) (minus:Bool) (r:Int) (hr:(bL minus m:Int)=r) (w:EQ):Calls Tryz.prog 118 #[.int .u64 m,.bool minus] w fun e w'=>e=.returned (.int .u64 r)/\w=w':=by
 have t0:((m:Int) == 0)=false:=by simpa using h0
 have hsg:=jN m h0
 have hrp:uJ m=false:=by rw[uJ,Y9 (by omega)];rfl
 have hsd:m * 2 ^ (52 - m.log2)=gj m:=by rw[gj,Xz hL]
 have hm:m<9007199254740992:=by
  have:=(Nat.log2_lt (n:=m) (k:=53) h0).1 (by omega)
  omega
 rw[bL,Xy h0,hrp] at hr
 have hbig:=fun k=>xy (m:=m) (k:=k) h0
 obtain⟨K,hK⟩:∃K,52 - m.log2=K:=⟨_,rfl⟩
 rw[hK] at hsd hbig
 obtain⟨L,hKL⟩:∃L,m.log2=L:=⟨_,rfl⟩
 rw[hKL] at hr
 have hLK:L+K=52:=by omega
 have z1:decide (9007199254740992<=(m:Int))=false:=by simp;omega
 go_enter Tryz.func118,Tryz.ntmps118
 go_wp2
 go_loop [0,5,6,7] (fun x p lo hf=>x=.int .u64 (m:Int)/\p=.int .i64 1075/\lo=.bool false/\hf=.bool false) (fun _ _ _ _=>0)
 case atStart=>exact⟨rfl,rfl,rfl,rfl⟩
 case round=>
  obtain⟨rfl,rfl,rfl,rfl⟩:=hrel
  go_wp2
  go_loop [0,5] (fun x p=>∃k:Nat,k<=K/\x=.int .u64 ((m * 2 ^ k:Nat):Int)/\p=.int .i64 (1075 - (k:Int))) (fun _ p=>((intOf p) - 1023).toNat)
  case atStart=>exact⟨0,by omega,by simp,by simp⟩
  case round=>
   obtain⟨k,hk,rfl,rfl⟩:=hrel
   by_cases hlt:k<K
   ·have hb:=hbig k hlt
    have hd:m * 2 ^ (k+1)=m * 2 ^ k * 2:=by rw[Nat.pow_succ,Nat.mul_assoc]
    generalize hx:m * 2 ^ k=x at *
    have g1:decide ((x:Int)<4503599627370496)=true:=by simp;omega
    clear hrp hsd hsg hr hbig
    go_wp2
    go_round
    case rel=>exact⟨k+1,by omega,by rw[hd];(first|rfl|(simp;done)|(simp;omega)),by rw[show (1075 - (k:Int) - 1)=1075 - ((k+1:Nat):Int) by omega]⟩
    case measure=>simp[intOf];omega
   ·obtain rfl:k=K:=by omega
    rw[hsd]
    generalize gj m=g at *
    clear hbig hsd hK h0 hL t0 hk hlt hrp hKL z1
    obtain⟨g0,g1⟩:=hsg
    have z2:decide ((g:Int)<4503599627370496)=false:=by simp;omega
    cases minus
    all_goals
     simp only[Bool.toNat_false,Bool.toNat_true,Bool.false_eq_true,if_true,if_false] at hr
     go_wp2
     go_ret
     exact⟨cf (by omega),rfl⟩
theorem ia (b:Int) (minus:Bool) (h0:0<=b) (h1:b<18446744073709551616) (w:EQ):Calls Tryz.prog 118 #[.int .u64 b,.bool minus] w fun e w'=>e=.returned (.int .u64 (oN b.toNat minus))/\w=w':=by
 obtain⟨m,rfl⟩:=Int.eq_ofNat_of_zero_le h0
 rw[Int.toNat_natCast]
 by_cases h:m=0
 ·subst h;exact uA minus w
 ·have e:oN m minus=(bL minus m:Int):=by rw[oN,Xy h]
  rw[e]
  by_cases hL:52<m.log2
  ·exact va m h (by omega) hL minus _ rfl w
  ·exact rU m h (by omega) (by omega) minus _ rfl w
theorem oO (m:Nat):oN m false=(bL false m:Int):=by
 unfold oN
 split
 ·rename_i h;subst h;rfl
 ·rfl
theorem vo (m:Nat) (h:m≠0):oN m true=(bL true m:Int):=by rw[oN,Xy h]
theorem bf (s s2:EP) (k l k2 l2:Int) (r:Bool) (h:aU k l k2 l2=r) (w:EQ):Calls Tryz.prog 116 #[.agg #[.string s,.int .i64 k,.int .i64 l],.agg #[.string s2,.int .i64 k2,.int .i64 l2]] w fun e w'=>e=.returned (.bool r)/\Below w.heap.size w w':=h▸rK s s2 k l k2 l2 w
theorem tl (vk bits:Int) (tx s s2:EP) (k l k2 l2:Int) (h0:0<=bits) (h1:bits<18446744073709551616) (hr:aM vk bits tx k l=false) (w:EQ):
 Calls Tryz.prog 80 #[.agg #[.int .i64 vk,.int .u64 bits,.string tx],.agg #[.string s,.int .i64 k,.int .i64 l],.agg #[.string s2,.int .i64 k2,.int .i64 l2]] w fun e w'=>e=.returned (.tuple #[.agg #[.int .i64 0,.int .u64 0,.string ⟨#[]⟩],.int .i64 50])/\Below w.heap.size w w':=by
 have HB:=AT vk bits tx s k l s2 k2 l2 w
 have hss:=bC
 have HR:=J0 hr
 clear hr
 go_enter Tryz.func80,Tryz.ntmps80
 go_wp2_with (first
  |(go_at_call 115;refine(aq _ _ _ _ _ _ h0 h1 _ HR.out _).mono ?_;rintro e w1 ⟨rfl,hb⟩;obtain⟨hc,hf⟩:=aS hb;obtain⟨z0,z1,z2,z3⟩:=il w hb (by (try simp) <;> omega);replace HB:Below w.heap.size w _:=aB (by repeat (first|exact HB|refine J8 ?_ (by dsimp only;omega) _|refine Jk ?_ (by have:=HB.size;(try simp) <;> omega) _|apply Jv)) hb))
 refine Xx (v:=.tuple #[.agg #[.int .i64 0,.int .u64 0,.string (⟨#[]⟩:EP)],.int .i64 50]) (by simp[results,Tryz.results80,go_sem, *]) rfl ⟨rfl,?_⟩
 (repeat (first|exact HB|refine J8 ?_ (by dsimp only;omega) _|refine Jk ?_ (by have:=HB.size;(try simp) <;> omega) _|apply Jv))
theorem yG (vk bits:Int) (tx s s2:EP) (k l k2 l2:Int) (h0:0<=bits) (h1:bits<18446744073709551616) (hr:aM vk bits tx k l=true) (hc:aU k l k2 l2=false) (w:EQ):
 Calls Tryz.prog 80 #[.agg #[.int .i64 vk,.int .u64 bits,.string tx],.agg #[.string s,.int .i64 k,.int .i64 l],.agg #[.string s2,.int .i64 k2,.int .i64 l2]] w fun e w'=>e=.returned (.tuple #[.agg #[.int .i64 0,.int .u64 0,.string ⟨#[]⟩],.int .i64 51])/\Below w.heap.size w w':=by
 have HB:=AT vk bits tx s k l s2 k2 l2 w
 have hss:=bC
 have HR:=J0 hr
 have HC:=J0 hc
 clear hr hc
 go_enter Tryz.func80,Tryz.ntmps80
 go_wp2_with (first
  |(go_at_call 115;refine(aq _ _ _ _ _ _ h0 h1 _ HR.out _).mono ?_;rintro e w1 ⟨rfl,hb⟩;obtain⟨hc,hf⟩:=aS hb;obtain⟨z0,z1,z2,z3⟩:=il w hb (by (try simp) <;> omega);replace HB:Below w.heap.size w _:=aB (by repeat (first|exact HB|refine J8 ?_ (by dsimp only;omega) _|refine Jk ?_ (by have:=HB.size;(try simp) <;> omega) _|apply Jv)) hb)
  |(go_at_call 116;refine(bf _ _ _ _ _ _ _ HC.out _).mono ?_;rintro e w2 ⟨rfl,hb⟩;obtain⟨hc,hf⟩:=aS hb;obtain⟨z0,z1,z2,z3⟩:=il w hb (by (try simp) <;> omega);replace HB:Below w.heap.size w _:=aB (by repeat (first|exact HB|refine J8 ?_ (by dsimp only;omega) _|refine Jk ?_ (by have:=HB.size;(try simp) <;> omega) _|apply Jv)) hb))
 refine Xx (v:=.tuple #[.agg #[.int .i64 0,.int .u64 0,.string (⟨#[]⟩:EP)],.int .i64 51]) (by simp[results,Tryz.results80,go_sem, *]) rfl ⟨rfl,?_⟩
 (repeat (first|exact HB|refine J8 ?_ (by dsimp only;omega) _|refine Jk ?_ (by have:=HB.size;(try simp) <;> omega) _|apply Jv))
theorem Ce (vk bits:Int) (tx s s2:EP) (k l k2 l2:Int) (h0:0<=bits) (h1:bits<18446744073709551616) (hr:aM vk bits tx k l=true) (hc:aU k l k2 l2=true) (a12:(k2 == 12)=false) (a10:(k2 == 10)=true) (b4:decide (k<=4)=true) (hb:1<=k) (w:EQ):
 Calls Tryz.prog 80 #[.agg #[.int .i64 vk,.int .u64 bits,.string tx],.agg #[.string s,.int .i64 k,.int .i64 l],.agg #[.string s2,.int .i64 k2,.int .i64 l2]] w fun e w'=>e=.returned (.tuple #[.agg #[.int .i64 k2,.int .u64 (aw bits k k2),.string ⟨#[]⟩],.int .i64 0])/\Below w.heap.size w w':=by
 have HB:=AT vk bits tx s k l s2 k2 l2 w
 have hss:=bC
 have HR:=J0 hr
 have HC:=J0 hc
 have e:aw bits k k2=bL false bits.toNat:=by rw[aw,Xz ⟨by simpa using a10,br.2 ⟨hb,by simpa using b4⟩⟩]
 obtain⟨z,hz⟩:∃z:Int,(bL false bits.toNat:Int)=z:=⟨_,rfl⟩
 rw[hz] at e
 rw[e]
 have F1:Hid (oN bits.toNat false=z):=J0 ((oO _).trans hz)
 have a8:(k2 == 8)=false:=by simp at a10 |-;omega
 have b5:decide (5<=k)=false:=by simp at b4 |-;omega
 clear e hz hb
 clear hr hc
 go_enter Tryz.func80,Tryz.ntmps80
 go_wp2_with (first
  |(go_at_call 115;refine(aq _ _ _ _ _ _ h0 h1 _ HR.out _).mono ?_;rintro e w1 ⟨rfl,hb⟩;obtain⟨hc,hf⟩:=aS hb;obtain⟨z0,z1,z2,z3⟩:=il w hb (by (try simp) <;> omega);replace HB:Below w.heap.size w _:=aB (by repeat (first|exact HB|refine J8 ?_ (by dsimp only;omega) _|refine Jk ?_ (by have:=HB.size;(try simp) <;> omega) _|apply Jv)) hb)
  |(go_at_call 116;refine(bf _ _ _ _ _ _ _ HC.out _).mono ?_;rintro e w2 ⟨rfl,hb⟩;obtain⟨hc,hf⟩:=aS hb;obtain⟨z0,z1,z2,z3⟩:=il w hb (by (try simp) <;> omega);replace HB:Below w.heap.size w _:=aB (by repeat (first|exact HB|refine J8 ?_ (by dsimp only;omega) _|refine Jk ?_ (by have:=HB.size;(try simp) <;> omega) _|apply Jv)) hb)
  |(go_at_call 118;refine(ia _ _ (by omega) (by omega) _).mono ?_;rintro e w' ⟨rfl,rfl⟩;rw[F1.out]))
 refine Xx (v:=.tuple #[.agg #[.int .i64 k2,.int .u64 z,.string (⟨#[]⟩:EP)],.int .i64 0]) (by simp[results,Tryz.results80,go_sem, *]) rfl ⟨rfl,?_⟩
 (repeat (first|exact HB|refine J8 ?_ (by dsimp only;omega) _|refine Jk ?_ (by have:=HB.size;(try simp) <;> omega) _|apply Jv))
theorem Cf (vk bits:Int) (tx s s2:EP) (k l k2 l2:Int) (h0:0<=bits) (h1:bits<18446744073709551616) (hr:aM vk bits tx k l=true) (hc:aU k l k2 l2=true) (a12:(k2 == 12)=false) (a10:(k2 == 10)=true) (b4:decide (k<=4)=false) (b8:decide (k<=8)=true) (hs:decide (9223372036854775808<=bits)=false) (w:EQ):
 Calls Tryz.prog 80 #[.agg #[.int .i64 vk,.int .u64 bits,.string tx],.agg #[.string s,.int .i64 k,.int .i64 l],.agg #[.string s2,.int .i64 k2,.int .i64 l2]] w fun e w'=>e=.returned (.tuple #[.agg #[.int .i64 k2,.int .u64 (aw bits k k2),.string ⟨#[]⟩],.int .i64 0])/\Below w.heap.size w w':=by
 have HB:=AT vk bits tx s k l s2 k2 l2 w
 have hss:=bC
 have HR:=J0 hr
 have HC:=J0 hc
 have e:aw bits k k2=bL false bits.toNat:=by
  simp at a10 b4 b8 hs
  rw[aw,Xy (by simp[eK];omega),Xz ⟨a10,br.2 ⟨by omega,b8⟩⟩,Xy (by omega)]
 obtain⟨z,hz⟩:∃z:Int,(bL false bits.toNat:Int)=z:=⟨_,rfl⟩
 rw[hz] at e
 rw[e]
 have F1:Hid (oN bits.toNat false=z):=J0 ((oO _).trans hz)
 have a8:(k2 == 8)=false:=by simp at a10 |-;omega
 have b5:decide (5<=k)=true:=by simp at b4 |-;omega
 clear e hz
 clear hr hc
 go_enter Tryz.func80,Tryz.ntmps80
 go_wp2_with (first
  |(go_at_call 115;refine(aq _ _ _ _ _ _ h0 h1 _ HR.out _).mono ?_;rintro e w1 ⟨rfl,hb⟩;obtain⟨hc,hf⟩:=aS hb;obtain⟨z0,z1,z2,z3⟩:=il w hb (by (try simp) <;> omega);replace HB:Below w.heap.size w _:=aB (by repeat (first|exact HB|refine J8 ?_ (by dsimp only;omega) _|refine Jk ?_ (by have:=HB.size;(try simp) <;> omega) _|apply Jv)) hb)
  |(go_at_call 116;refine(bf _ _ _ _ _ _ _ HC.out _).mono ?_;rintro e w2 ⟨rfl,hb⟩;obtain⟨hc,hf⟩:=aS hb;obtain⟨z0,z1,z2,z3⟩:=il w hb (by (try simp) <;> omega);replace HB:Below w.heap.size w _:=aB (by repeat (first|exact HB|refine J8 ?_ (by dsimp only;omega) _|refine Jk ?_ (by have:=HB.size;(try simp) <;> omega) _|apply Jv)) hb)
  |(go_at_call 118;refine(ia _ _ (by omega) (by omega) _).mono ?_;rintro e w' ⟨rfl,rfl⟩;rw[F1.out]))
 refine Xx (v:=.tuple #[.agg #[.int .i64 k2,.int .u64 z,.string (⟨#[]⟩:EP)],.int .i64 0]) (by simp[results,Tryz.results80,go_sem, *]) rfl ⟨rfl,?_⟩
 (repeat (first|exact HB|refine J8 ?_ (by dsimp only;omega) _|refine Jk ?_ (by have:=HB.size;(try simp) <;> omega) _|apply Jv))
theorem Cg (vk bits:Int) (tx s s2:EP) (k l k2 l2:Int) (h0:0<=bits) (h1:bits<18446744073709551616) (hr:aM vk bits tx k l=true) (hc:aU k l k2 l2=true) (a12:(k2 == 12)=false) (a10:(k2 == 10)=true) (b4:decide (k<=4)=false) (b8:decide (k<=8)=true) (hs:decide (9223372036854775808<=bits)=true) (w:EQ):
 Calls Tryz.prog 80 #[.agg #[.int .i64 vk,.int .u64 bits,.string tx],.agg #[.string s,.int .i64 k,.int .i64 l],.agg #[.string s2,.int .i64 k2,.int .i64 l2]] w fun e w'=>e=.returned (.tuple #[.agg #[.int .i64 k2,.int .u64 (aw bits k k2),.string ⟨#[]⟩],.int .i64 0])/\Below w.heap.size w w':=by
 have HB:=AT vk bits tx s k l s2 k2 l2 w
 have hss:=bC
 have HR:=J0 hr
 have HC:=J0 hc
 have e:aw bits k k2=bL true (18446744073709551616 - bits).toNat:=by
  simp at a10 b4 b8 hs
  rw[aw,Xy (by simp[eK];omega),Xz ⟨a10,br.2 ⟨by omega,b8⟩⟩,Xz (by omega)]
 obtain⟨z,hz⟩:∃z:Int,(bL true (18446744073709551616 - bits).toNat:Int)=z:=⟨_,rfl⟩
 rw[hz] at e
 rw[e]
 have hng:IntKind.wrap .u64 (-bits)=18446744073709551616 - bits:=by simp at hs;simp[IntKind.wrap,IntKind.signed,IntKind.bits];omega
 have hs':9223372036854775808<=bits:=by simpa using hs
 obtain⟨z0,F1⟩:∃z0,Hid (oN bits.toNat false=z0):=⟨_,J0 rfl⟩
 have F2:Hid (oN (18446744073709551616 - bits).toNat true=z):=J0 ((vo _ (by omega)).trans hz)
 have a8:(k2 == 8)=false:=by simp at a10 |-;omega
 have b5:decide (5<=k)=true:=by simp at b4 |-;omega
 clear e hz
 clear hr hc
 go_enter Tryz.func80,Tryz.ntmps80
 go_wp2_with (first
  |(go_at_call 115;refine(aq _ _ _ _ _ _ h0 h1 _ HR.out _).mono ?_;rintro e w1 ⟨rfl,hb⟩;obtain⟨hc,hf⟩:=aS hb;obtain⟨z0,z1,z2,z3⟩:=il w hb (by (try simp) <;> omega);replace HB:Below w.heap.size w _:=aB (by repeat (first|exact HB|refine J8 ?_ (by dsimp only;omega) _|refine Jk ?_ (by have:=HB.size;(try simp) <;> omega) _|apply Jv)) hb)
  |(go_at_call 116;refine(bf _ _ _ _ _ _ _ HC.out _).mono ?_;rintro e w2 ⟨rfl,hb⟩;obtain⟨hc,hf⟩:=aS hb;obtain⟨z0,z1,z2,z3⟩:=il w hb (by (try simp) <;> omega);replace HB:Below w.heap.size w _:=aB (by repeat (first|exact HB|refine J8 ?_ (by dsimp only;omega) _|refine Jk ?_ (by have:=HB.size;(try simp) <;> omega) _|apply Jv)) hb)
  |(go_at_call 118;refine(ia _ _ (by omega) (by omega) _).mono ?_;rintro e w' ⟨rfl,rfl⟩;(first|rw[F1.out]|rw[F2.out])))
 refine Xx (v:=.tuple #[.agg #[.int .i64 k2,.int .u64 z,.string (⟨#[]⟩:EP)],.int .i64 0]) (by simp[results,Tryz.results80,go_sem, *]) rfl ⟨rfl,?_⟩
 (repeat (first|exact HB|refine J8 ?_ (by dsimp only;omega) _|refine Jk ?_ (by have:=HB.size;(try simp) <;> omega) _|apply Jv))
theorem Ci (vk bits:Int) (tx s s2:EP) (k l k2 l2:Int) (h0:0<=bits) (h1:bits<18446744073709551616) (hr:aM vk bits tx k l=true) (hc:aU k l k2 l2=true) (a12:(k2 == 12)=false) (a10:(k2 == 10)=true) (b4:decide (k<=4)=false) (b8:decide (k<=8)=false) (w:EQ):
 Calls Tryz.prog 80 #[.agg #[.int .i64 vk,.int .u64 bits,.string tx],.agg #[.string s,.int .i64 k,.int .i64 l],.agg #[.string s2,.int .i64 k2,.int .i64 l2]] w fun e w'=>e=.returned (.tuple #[.agg #[.int .i64 k2,.int .u64 (aw bits k k2),.string ⟨#[]⟩],.int .i64 0])/\Below w.heap.size w w':=by
 have HB:=AT vk bits tx s k l s2 k2 l2 w
 have hss:=bC
 have HR:=J0 hr
 have HC:=J0 hc
 have e:aw bits k k2=bits:=by
  simp at a10 b4 b8
  rw[aw,Xy (by simp[eK];omega),Xy (by simp[eK];omega),Xy (by omega)]
 rw[e]
 have a8:(k2 == 8)=false:=by simp at a10 |-;omega
 have b5:decide (5<=k)=true:=by simp at b4 |-;omega
 clear e
 clear hr hc
 go_enter Tryz.func80,Tryz.ntmps80
 go_wp2_with (first
  |(go_at_call 115;refine(aq _ _ _ _ _ _ h0 h1 _ HR.out _).mono ?_;rintro e w1 ⟨rfl,hb⟩;obtain⟨hc,hf⟩:=aS hb;obtain⟨z0,z1,z2,z3⟩:=il w hb (by (try simp) <;> omega);replace HB:Below w.heap.size w _:=aB (by repeat (first|exact HB|refine J8 ?_ (by dsimp only;omega) _|refine Jk ?_ (by have:=HB.size;(try simp) <;> omega) _|apply Jv)) hb)
  |(go_at_call 116;refine(bf _ _ _ _ _ _ _ HC.out _).mono ?_;rintro e w2 ⟨rfl,hb⟩;obtain⟨hc,hf⟩:=aS hb;obtain⟨z0,z1,z2,z3⟩:=il w hb (by (try simp) <;> omega);replace HB:Below w.heap.size w _:=aB (by repeat (first|exact HB|refine J8 ?_ (by dsimp only;omega) _|refine Jk ?_ (by have:=HB.size;(try simp) <;> omega) _|apply Jv)) hb))
 refine Xx (v:=.tuple #[.agg #[.int .i64 k2,.int .u64 bits,.string (⟨#[]⟩:EP)],.int .i64 0]) (by simp[results,Tryz.results80,go_sem, *]) rfl ⟨rfl,?_⟩
 (repeat (first|exact HB|refine J8 ?_ (by dsimp only;omega) _|refine Jk ?_ (by have:=HB.size;(try simp) <;> omega) _|apply Jv))
theorem Cj (vk bits:Int) (tx s s2:EP) (k l k2 l2:Int) (h0:0<=bits) (h1:bits<18446744073709551616) (hr:aM vk bits tx k l=true) (hc:aU k l k2 l2=true) (a12:(k2 == 12)=false) (a10:(k2 == 10)=false) (a8:(k2 == 8)=true) (b10:(k == 10)=true) (w:EQ):
 Calls Tryz.prog 80 #[.agg #[.int .i64 vk,.int .u64 bits,.string tx],.agg #[.string s,.int .i64 k,.int .i64 l],.agg #[.string s2,.int .i64 k2,.int .i64 l2]] w fun e w'=>e=.returned (.tuple #[.agg #[.int .i64 k2,.int .u64 (aw bits k k2),.string ⟨#[]⟩],.int .i64 0])/\Below w.heap.size w w':=by
 have HB:=AT vk bits tx s k l s2 k2 l2 w
 have hss:=bC
 have HR:=J0 hr
 have HC:=J0 hc
 have e:aw bits k k2=cN bits.toNat % 18446744073709551616:=by
  simp at a10 a8 b10
  rw[aw,Xy (by omega),Xy (by omega),Xz ⟨a8,b10⟩]
 obtain⟨z,hz⟩:∃z:Int,cN bits.toNat=z:=⟨_,rfl⟩
 rw[hz] at e
 rw[e]
 have HW:=J0 hz
 have hwr:IntKind.wrap .u64 z=z % 18446744073709551616:=by simp[IntKind.wrap,IntKind.signed,go_sem]
 clear e hz
 clear hr hc
 go_enter Tryz.func80,Tryz.ntmps80
 go_wp2_with (first
  |(go_at_call 115;refine(aq _ _ _ _ _ _ h0 h1 _ HR.out _).mono ?_;rintro e w1 ⟨rfl,hb⟩;obtain⟨hc,hf⟩:=aS hb;obtain⟨z0,z1,z2,z3⟩:=il w hb (by (try simp) <;> omega);replace HB:Below w.heap.size w _:=aB (by repeat (first|exact HB|refine J8 ?_ (by dsimp only;omega) _|refine Jk ?_ (by have:=HB.size;(try simp) <;> omega) _|apply Jv)) hb)
  |(go_at_call 116;refine(bf _ _ _ _ _ _ _ HC.out _).mono ?_;rintro e w2 ⟨rfl,hb⟩;obtain⟨hc,hf⟩:=aS hb;obtain⟨z0,z1,z2,z3⟩:=il w hb (by (try simp) <;> omega);replace HB:Below w.heap.size w _:=aB (by repeat (first|exact HB|refine J8 ?_ (by dsimp only;omega) _|refine Jk ?_ (by have:=HB.size;(try simp) <;> omega) _|apply Jv)) hb)
  |(go_at_call 119;refine(rW _ (by omega) (by omega) _).mono ?_;rintro e w' ⟨rfl,rfl⟩;rw[HW.out]))
 refine Xx (v:=.tuple #[.agg #[.int .i64 k2,.int .u64 (z % 18446744073709551616),.string (⟨#[]⟩:EP)],.int .i64 0]) (by simp[results,Tryz.results80,go_sem, *]) rfl ⟨rfl,?_⟩
 (repeat (first|exact HB|refine J8 ?_ (by dsimp only;omega) _|refine Jk ?_ (by have:=HB.size;(try simp) <;> omega) _|apply Jv))
theorem Ck (vk bits:Int) (tx s s2:EP) (k l k2 l2:Int) (h0:0<=bits) (h1:bits<18446744073709551616) (hr:aM vk bits tx k l=true) (hc:aU k l k2 l2=true) (a12:(k2 == 12)=false) (a10:(k2 == 10)=false) (a8:(k2 == 8)=true) (b10:(k == 10)=false) (w:EQ):
 Calls Tryz.prog 80 #[.agg #[.int .i64 vk,.int .u64 bits,.string tx],.agg #[.string s,.int .i64 k,.int .i64 l],.agg #[.string s2,.int .i64 k2,.int .i64 l2]] w fun e w'=>e=.returned (.tuple #[.agg #[.int .i64 k2,.int .u64 (aw bits k k2),.string ⟨#[]⟩],.int .i64 0])/\Below w.heap.size w w':=by
 have HB:=AT vk bits tx s k l s2 k2 l2 w
 have hss:=bC
 have HR:=J0 hr
 have HC:=J0 hc
 have e:aw bits k k2=bits:=by
  simp at a10 a8 b10
  rw[aw,Xy (by omega),Xy (by omega),Xy (by omega)]
 rw[e]
 clear e
 clear hr hc
 go_enter Tryz.func80,Tryz.ntmps80
 go_wp2_with (first
  |(go_at_call 115;refine(aq _ _ _ _ _ _ h0 h1 _ HR.out _).mono ?_;rintro e w1 ⟨rfl,hb⟩;obtain⟨hc,hf⟩:=aS hb;obtain⟨z0,z1,z2,z3⟩:=il w hb (by (try simp) <;> omega);replace HB:Below w.heap.size w _:=aB (by repeat (first|exact HB|refine J8 ?_ (by dsimp only;omega) _|refine Jk ?_ (by have:=HB.size;(try simp) <;> omega) _|apply Jv)) hb)
  |(go_at_call 116;refine(bf _ _ _ _ _ _ _ HC.out _).mono ?_;rintro e w2 ⟨rfl,hb⟩;obtain⟨hc,hf⟩:=aS hb;obtain⟨z0,z1,z2,z3⟩:=il w hb (by (try simp) <;> omega);replace HB:Below w.heap.size w _:=aB (by repeat (first|exact HB|refine J8 ?_ (by dsimp only;omega) _|refine Jk ?_ (by have:=HB.size;(try simp) <;> omega) _|apply Jv)) hb))
 refine Xx (v:=.tuple #[.agg #[.int .i64 k2,.int .u64 bits,.string (⟨#[]⟩:EP)],.int .i64 0]) (by simp[results,Tryz.results80,go_sem, *]) rfl ⟨rfl,?_⟩
 (repeat (first|exact HB|refine J8 ?_ (by dsimp only;omega) _|refine Jk ?_ (by have:=HB.size;(try simp) <;> omega) _|apply Jv))
theorem Cl (vk bits:Int) (tx s s2:EP) (k l k2 l2:Int) (h0:0<=bits) (h1:bits<18446744073709551616) (hr:aM vk bits tx k l=true) (hc:aU k l k2 l2=true) (a12:(k2 == 12)=false) (a10:(k2 == 10)=false) (a8:(k2 == 8)=false) (w:EQ):
 Calls Tryz.prog 80 #[.agg #[.int .i64 vk,.int .u64 bits,.string tx],.agg #[.string s,.int .i64 k,.int .i64 l],.agg #[.string s2,.int .i64 k2,.int .i64 l2]] w fun e w'=>e=.returned (.tuple #[.agg #[.int .i64 k2,.int .u64 (aw bits k k2),.string ⟨#[]⟩],.int .i64 0])/\Below w.heap.size w w':=by
 have HB:=AT vk bits tx s k l s2 k2 l2 w
 have hss:=bC
 have HR:=J0 hr
 have HC:=J0 hc
 have e:aw bits k k2=bits:=by
  simp at a10 a8
  rw[aw,Xy (by omega),Xy (by omega),Xy (by omega)]
 rw[e]
 clear e
 clear hr hc
 go_enter Tryz.func80,Tryz.ntmps80
 go_wp2_with (first
  |(go_at_call 115;refine(aq _ _ _ _ _ _ h0 h1 _ HR.out _).mono ?_;rintro e w1 ⟨rfl,hb⟩;obtain⟨hc,hf⟩:=aS hb;obtain⟨z0,z1,z2,z3⟩:=il w hb (by (try simp) <;> omega);replace HB:Below w.heap.size w _:=aB (by repeat (first|exact HB|refine J8 ?_ (by dsimp only;omega) _|refine Jk ?_ (by have:=HB.size;(try simp) <;> omega) _|apply Jv)) hb)
  |(go_at_call 116;refine(bf _ _ _ _ _ _ _ HC.out _).mono ?_;rintro e w2 ⟨rfl,hb⟩;obtain⟨hc,hf⟩:=aS hb;obtain⟨z0,z1,z2,z3⟩:=il w hb (by (try simp) <;> omega);replace HB:Below w.heap.size w _:=aB (by repeat (first|exact HB|refine J8 ?_ (by dsimp only;omega) _|refine Jk ?_ (by have:=HB.size;(try simp) <;> omega) _|apply Jv)) hb))
 refine Xx (v:=.tuple #[.agg #[.int .i64 k2,.int .u64 bits,.string (⟨#[]⟩:EP)],.int .i64 0]) (by simp[results,Tryz.results80,go_sem, *]) rfl ⟨rfl,?_⟩
 (repeat (first|exact HB|refine J8 ?_ (by dsimp only;omega) _|refine Jk ?_ (by have:=HB.size;(try simp) <;> omega) _|apply Jv))
theorem Cp (s:EP) (k l:Int) (v:ER) (h:qN k l=v) (w:EQ):Calls Tryz.prog 117 #[.agg #[.string s,.int .i64 k,.int .i64 l]] w fun e w'=>e=.returned v/\Below w.heap.size w w':=h▸uE s k l w
structure CS (w0 w:EQ) (q:Nat) (bits:Int) (tx s s2:EP) (l n:Int):Prop where
 v:eJ w w0.heap.size 12 bits tx
 t:cG w (w0.heap.size+1+1) s2 12 n
 r:eJ w (w0.heap.size+1+1+1) 0 0 ⟨#[]⟩
 o:eJ w q 12 bits ⟨#[]⟩
 fr:∀i,w.frozen? ⟨w0.heap.size+1+1+1,i,none⟩=false
 fo:∀i,w.frozen? ⟨q,i,none⟩=false
 hq:q<w.heap.size
theorem CS.below {w0 w w1:EQ} {q:Nat} {bits:Int} {tx s s2:EP} {l n:Int} (h:CS w0 w q bits tx s s2 l n) (hb:Below w.heap.size w w1):CS w0 w1 q bits tx s s2 l n:=by
 have hr:=World.block_lt_of_cell? w _ h.r.1
 exact⟨h.v.below hb,h.t.below hb,h.r.below hb,h.o.below hb,fun i=>((aS hb).2 _ i hr).trans (h.fr i),fun i=>((aS hb).2 _ i h.hq).trans (h.fo i),by have:=hb.size;have:=h.hq;omega⟩
theorem Dr (tx:EP) (n:Nat):(tx++aR (List.replicate n 0)).extract 0 n=aR (jh (bl tx) n):=by
 have e:tx=aR (bl tx):=(cl tx).symm
 rw[e,bT,kr,fi]
 congr 1
 unfold jh
 rw[List.take_append,List.take_replicate]
 congr 2
 omega
theorem Au (vk bits:Int) (tx s s2:EP) (k l:Int) (n:Nat) (h0:0<=bits) (h1:bits<18446744073709551616) (hr:aM vk bits tx k l=true) (hc:aU k l 12 n=true) (w:EQ):
 Calls Tryz.prog 80 #[.agg #[.int .i64 vk,.int .u64 bits,.string tx],.agg #[.string s,.int .i64 k,.int .i64 l],.agg #[.string s2,.int .i64 12,.int .i64 n]] w fun e w'=>e=.returned (.tuple #[.agg #[.int .i64 12,.int .u64 bits,.string (aR (jh (bl tx) n))],.int .i64 0])/\Below w.heap.size w w':=by
 have hm2:=(gq hc).2
 have hn:n<=64/\1<=n:=by have:=br.1 (eI▸hm2);omega
 obtain⟨hm,hvk,hsz,-⟩:=bg hr
 obtain rfl:=(gq hc).1
 subst hvk
 have htl:tx.size<=64:=by
  have:=br.1 (eI▸hm)
  rw[Xz rfl] at hsz;omega
 have k2:(12:Int)=12:=rfl
 have HB:=AT 12 bits tx s 12 l s2 12 n w
 have hss:=bC
 have hz:qN 12 n=.agg #[.int .i64 12,.int .u64 0,.string (aR (List.replicate n 0))]:=by rw[qN,Xz hm2,ga,Xz rfl];simp
 have HZ:=J0 hz
 have HR:=J0 hr
 have HC:=J0 hc
 have hpad:=Dr tx n
 have hsz2:(tx++aR (List.replicate n 0)).size=tx.size+n:=by rw[ByteArray.size_append,aj,List.length_replicate]
 have hzs:(aR (List.replicate n 0)).size=n:=by rw[aj,List.length_replicate]
 generalize aR (jh (bl tx) n)=out at *
 generalize aR (List.replicate n 0)=zs at *
 have hov:¬9223372036854775807<tx.size+zs.size:=by omega
 have hov2:¬9223372036854775807<tx.size+n:=by omega
 have i2:((n:Int)<=((tx.size+n:Nat):Int)):=by omega
 have i3:((n:Int)<=(tx.size:Int)+n):=by omega
 obtain⟨n64,n1⟩:=hn
 have hap:(tx++zs).size=tx.size+zs.size:=by rw[hzs];exact hsz2
 have i1:((n:Int)<=((tx++zs).size:Int)):=by rw[hsz2];omega
 clear hr hc hz hm hm2 hsz
 go_enter Tryz.func80,Tryz.ntmps80
 go_upto_region 7 with (first
  |(go_at_call 115;refine(aq _ _ _ _ _ _ h0 h1 _ HR.out _).mono ?_;rintro e w1 ⟨rfl,hb⟩;obtain⟨hc,hf⟩:=aS hb;obtain⟨z0,z1,z2,z3⟩:=il w hb (by (try simp) <;> omega);replace HB:Below w.heap.size w _:=aB (by repeat (first|exact HB|refine J8 ?_ (by dsimp only;omega) _|refine Jk ?_ (by have:=HB.size;(try simp) <;> omega) _|apply Jv)) hb)
  |(go_at_call 116;refine(bf _ _ _ _ _ _ _ HC.out _).mono ?_;rintro e w2 ⟨rfl,hb⟩;obtain⟨hc,hf⟩:=aS hb;obtain⟨z0,z1,z2,z3⟩:=il w hb (by (try simp) <;> omega);replace HB:Below w.heap.size w _:=aB (by repeat (first|exact HB|refine J8 ?_ (by dsimp only;omega) _|refine Jk ?_ (by have:=HB.size;(try simp) <;> omega) _|apply Jv)) hb))
 have g1:CS w (w2.alloc (.cells #[.int .i64 12,.int .u64 bits,.string ⟨#[]⟩] 71)) w2.heap.size bits tx s s2 l n:=
  ⟨⟨by go_simp,by go_simp,by go_simp⟩,⟨by go_simp,by go_simp,by go_simp⟩,⟨by go_simp,by go_simp,by go_simp⟩,⟨by go_simp,by go_simp,by go_simp⟩,fun i=>by go_simp,fun i=>by go_simp,by simp⟩
 have hB0:Below w.heap.size w (w2.alloc (.cells #[.int .i64 12,.int .u64 bits,.string ⟨#[]⟩] 71)):=HB.alloc (by have:=HB.size;omega) _
 have hqn:w.heap.size+1+1+1<w2.heap.size:=by omega
 generalize w2.heap.size=q at *
 refine RW.start (fun w'=>Below w.heap.size w w'/\CS w w' q bits tx s s2 l n) (by kernel_rfl) (by kernel_rfl) ⟨hB0.drew,g1.below (Jy _ _).drew⟩ ?_
 clear g1 hB0 HB hc hf hb
 repeat (first
  |(refine' RW.val (by rfl) ?_ ?_;rotate_left;(focus (intro w' hS;obtain⟨HB,hs⟩:=hS;obtain⟨⟨c0,c1,c2⟩,⟨d0,d1,d2⟩,⟨e0,e1,e2⟩,⟨f0,f1,f2⟩,fr,fo,hq⟩:=id hs;go_simp;rfl));simp only[Act.put,J1,J3,J2])
  |(refine RW.off (by rfl) ?_;simp only[Act.put,J1,J3,J2])
  |(refine' RW.call (by rfl) ?_ ?_ ?_
    rotate_left 3
    (focus (intro w' hS;obtain⟨HB,hs⟩:=hS;obtain⟨⟨c0,c1,c2⟩,⟨d0,d1,d2⟩,⟨e0,e1,e2⟩,⟨f0,f1,f2⟩,fr,fo,hq⟩:=id hs;go_simp;exact⟨rfl,rfl⟩))
    (focus
      intro w' hS
      obtain⟨HB,hs⟩:=hS;obtain⟨⟨c0,c1,c2⟩,⟨d0,d1,d2⟩,⟨e0,e1,e2⟩,⟨f0,f1,f2⟩,fr,fo,hq⟩:=id hs
      first
       |(refine(Cp _ _ _ _ HZ.out _).mono ?_;rintro e w1 ⟨rfl,hb⟩;exact⟨rfl,⟨(aB HB hb),(hs.below hb)⟩⟩))
    simp only[Act.put,J1,J3,J2]))
 refine RW.done (fun w' hS=>?_)
 obtain⟨HB,hs⟩:=hS;obtain⟨⟨c0,c1,c2⟩,⟨d0,d1,d2⟩,⟨e0,e1,e2⟩,⟨f0,f1,f2⟩,fr,fo,hq⟩:=id hs
 go_wp2_with fail
 refine Xx (v:=.tuple #[.agg #[.int .i64 12,.int .u64 bits,.string out],.int .i64 0]) (by simp[results,Tryz.results80,go_sem, *]) rfl ⟨rfl,?_⟩
 (repeat (first|exact HB|refine J8 ?_ (by dsimp only;omega) _|refine Jk ?_ (by have:=HB.size;(try simp) <;> omega) _|apply Jv))
theorem tj (vk bits:Int) (tx s s2:EP) (k l k2 l2:Int) (h0:0<=bits) (h1:bits<18446744073709551616) (w:EQ):
 Calls Tryz.prog 80 #[.agg #[.int .i64 vk,.int .u64 bits,.string tx],.agg #[.string s,.int .i64 k,.int .i64 l],.agg #[.string s2,.int .i64 k2,.int .i64 l2]] w fun e w'=>e=.returned (.tuple #[gp vk bits tx k l k2 l2,.int .i64 (jj vk bits tx k l k2 l2)])/\Below w.heap.size w w':=by
 by_cases hr:aM vk bits tx k l=true
 ·by_cases hc:aU k l k2 l2=true
  ·rw[gp,Xz ⟨hr,hc⟩,jj,Xz hr,Xz hc]
   by_cases hk:k2=12
   ·subst hk
    obtain⟨rfl,hm2⟩:=gq hc
    have hb:=br.1 (eI▸hm2)
    obtain⟨n,rfl⟩:∃n:Nat,l2=n:=⟨l2.toNat,by omega⟩
    have e:aw bits 12 12=bits:=by simp[aw]
    rw[e,gQ,Xz rfl,Int.toNat_natCast]
    exact Au vk bits tx s s2 12 l n h0 h1 hr hc w
   ·rw[gQ,Xy hk]
    have a12:(k2 == 12)=false:=by simpa using hk
    have hk1:=(jA (bg hr).1).1
    by_cases c10:k2=10
    ·have a10:(k2 == 10)=true:=by simpa using c10
     by_cases c4:k<=4
     ·exact Ce vk bits tx s s2 k l k2 l2 h0 h1 hr hc a12 a10 (Yx c4) hk1 w
     ·have b4:decide (k<=4)=false:=Y9 c4
      by_cases c8:k<=8
      ·by_cases cs:9223372036854775808<=bits
       ·exact Cg vk bits tx s s2 k l k2 l2 h0 h1 hr hc a12 a10 b4 (Yx c8) (Yx cs) w
       ·exact Cf vk bits tx s s2 k l k2 l2 h0 h1 hr hc a12 a10 b4 (Yx c8) (Y9 cs) w
      ·exact Ci vk bits tx s s2 k l k2 l2 h0 h1 hr hc a12 a10 b4 (Y9 c8) w
    ·have a10:(k2 == 10)=false:=by simpa using c10
     by_cases c8:k2=8
     ·have a8:(k2 == 8)=true:=by simpa using c8
      by_cases d10:k=10
      ·exact Cj vk bits tx s s2 k l k2 l2 h0 h1 hr hc a12 a10 a8 (by simpa using d10) w
      ·exact Ck vk bits tx s s2 k l k2 l2 h0 h1 hr hc a12 a10 a8 (by simpa using d10) w
     ·exact Cl vk bits tx s s2 k l k2 l2 h0 h1 hr hc a12 a10 (by simpa using c8) w
  ·have hc':aU k l k2 l2=false:=by simpa using hc
   rw[gp,Xy (fun h=>hc h.2),jj,Xz hr,Xy hc]
   exact yG vk bits tx s s2 k l k2 l2 h0 h1 hr hc' w
 ·have hr':aM vk bits tx k l=false:=by simpa using hr
  rw[gp,Xy (fun h=>hr h.1),jj,Xy hr]
  exact tl vk bits tx s s2 k l k2 l2 h0 h1 hr' w
structure Mv where
 f:Int
 d:Vl
structure Tb where
 o:List Fd
 n:List Fd
 m:List Mv
instance:DecidableEq Vl:=fun a b=>decidable_of_iff (a.k=b.k/\a.b=b.b/\a.t=b.t) (by cases a;cases b;simp)
instance:DecidableEq Mv:=fun a b=>decidable_of_iff (a.f=b.f/\a.d=b.d) (by cases a;cases b;simp)
def aJ (ms:List Mv):EO:=ms.flatMap fun m=>[.int .i64 m.f,.int .i64 m.d.k,.int .u64 m.d.b,.string m.d.t]
theorem bu (a b:List Mv):aJ (a++b)=aJ a++aJ b:=by simp[aJ]
theorem nH {ms:List Mv} {i:Nat} {m:Mv} (h:ms[i]?=some m):(aJ ms)[i * 4]?=some (.int .i64 m.f)/\(aJ ms)[i * 4+1]?=some (.int .i64 m.d.k)/\(aJ ms)[i * 4+2]?=some (.int .u64 m.d.b)/\(aJ ms)[i * 4+3]?=some (.string m.d.t):=by
 induction ms generalizing i with
 |nil=>simp at h
 |cons g r ih=>
  cases i with
  |zero=>simp at h;subst h;exact⟨rfl,rfl,rfl,rfl⟩
  |succ i=>
   have:=ih (i:=i) (by simpa using h)
   rw[aJ,List.flatMap_cons]
   refine⟨?_,?_,?_,?_⟩
   ·rw[show (i+1) * 4=i * 4+4 by omega,Qk (by simp)];simpa[aJ] using this.1
   ·rw[show (i+1) * 4+1=i * 4+1+4 by omega,Qk (by simp)];simpa[aJ] using this.2.1
   ·rw[show (i+1) * 4+2=i * 4+2+4 by omega,Qk (by simp)];simpa[aJ] using this.2.2.1
   ·rw[show (i+1) * 4+3=i * 4+3+4 by omega,Qk (by simp)];simpa[aJ] using this.2.2.2
theorem Rd.mv {w:EQ} {A:EL} {ms:List Mv} (h:Rd w A (aJ ms)) {k:Nat} {m:Mv} (hm:ms[k]?=some m):∃ad,A=some ad/\w.cell? (ad.add (k * 4))=some (.int .i64 m.f)/\w.cell? ⟨(ad.add (k * 4)).block,(ad.add (k * 4)).off+(0+1),none⟩=some (.int .i64 m.d.k)/\
 w.cell? ⟨(ad.add (k * 4)).block,(ad.add (k * 4)).off+(1+1),none⟩=some (.int .u64 m.d.b)/\w.cell? ⟨(ad.add (k * 4)).block,(ad.add (k * 4)).off+(2+1),none⟩=some (.string m.d.t):=by
 obtain⟨g0,g1,g2,g3⟩:=nH hm
 obtain⟨ad,rfl,h0⟩:=h.at g0
 obtain⟨_,e1,h1⟩:=h.at g1
 obtain⟨_,e2,h2⟩:=h.at g2
 obtain⟨_,e3,h3⟩:=h.at g3
 cases e1;cases e2;cases e3
 rw[ba _ _ 0] at h1
 rw[ba _ _ 1] at h2
 rw[ba _ _ 2] at h3
 exact⟨ad,rfl,h0,h1,h2,h3⟩
def eW (o:List Fd) (g:Fd) (m:Mv):Bool:=
 if m.f=-1 then aM m.d.k m.d.b m.d.t g.k g.l && (decide (g.k≠11) || decide (m.d.b=0))
 else decide (0<=m.f) && (match o[m.f.toNat]? with|none=>false|some f=>decide (m.d=Vl.z) && aU f.k f.l g.k g.l)
def eu (t:Tb) (k:Nat):Bool:=match t.m[k]?,t.n[k]? with|some m,some g=>eW t.o g m|_,_=>false
def ar (t:Tb):Bool:=aK t.o && aK t.n && decide (t.m.length=t.n.length) && decide (∀k,k<t.m.length->eu t k=true)
def bA (l:List Fd):Tb:=if aK l=true then⟨l,l,(List.range l.length).map fun k:Nat=>⟨(k:Int),Vl.z⟩⟩ else⟨[],[],[]⟩
def iG (ms:List Mv):Prop:=∀m∈ms,0<=m.d.b/\m.d.b<18446744073709551616
def TV (w:EQ) (v:ER) (t:Tb):Prop:=∃A c B d C e,v=.agg #[.slice A t.o.length c,.slice B t.n.length d,.slice C t.m.length e]/\Rd w A (aC t.o)/\Rd w B (aC t.n)/\Rd w C (aJ t.m)
theorem TV.below {w w1:EQ} {v:ER} {t:Tb} (h:TV w v t) (hb:Below w.heap.size w w1):TV w1 v t:=by
 obtain⟨A,c,B,d,C,e,hv,h0,h1,h2⟩:=h
 exact⟨A,c,B,d,C,e,hv,h0.below hb,h1.below hb,h2.below hb⟩
def fB (w:EQ) (b:Nat) (x y z:ER):Prop:=w.cell? ⟨b,0,none⟩=some x/\w.cell? ⟨b,1,none⟩=some y/\w.cell? ⟨b,2,none⟩=some z
theorem fB.below {w w1:EQ} {b:Nat} {x y z:ER} (h:fB w b x y z) (hb:Below w.heap.size w w1):fB w1 b x y z:=⟨aE (B:=0) hb h.1,aE (B:=0) hb h.2.1,aE (B:=0) hb h.2.2⟩
theorem fB.new (w:EQ) (x y z:ER) (T:ES):fB (w.alloc (.cells #[x,y,z] T)) w.heap.size x y z:=⟨bD _ _ _ _ _ rfl,bD _ _ _ _ _ rfl,bD _ _ _ _ _ rfl⟩
theorem kB:(Tryz.prog.info? 137).map (fun i=>(i.zero,i.size,i.bytes))=some (some (.agg #[.int .i64 0,.int .i64 0,.int .u64 0,.string ⟨#[]⟩]),4,40):=by kernel_rfl
theorem iO:(Tryz.prog.info? 157).map (fun i=>(i.zero,i.size,i.bytes))=some (some (.agg #[.int .i64 0,.int .i64 0,.int .u64 0,.string ⟨#[]⟩]),4,40):=by kernel_rfl
theorem qO (A:EL) (c:Nat) (l:List Fd) (w:EQ) (hA:Rd w A (aC l)) (hl:l.length<=4398046511104) (hlc:l.length<=c):
 Calls Tryz.prog 35 #[.slice A l.length c] w fun e w'=>∃v,e=.returned v/\w'.ownsRow w.heap.size 68 3 v l.length (aC l)/\Below w.heap.size w w':=by
 obtain⟨i0,hi,hz0,hz1,hz2⟩:=info_parts fI
 cases A with
 |none=>
  obtain rfl:l=[]:=by
   cases l with
   |nil=>rfl
   |cons x r=>obtain⟨ad,e,_⟩:=hA (by simp[aC]);cases e
  have heq:∀w:EQ,(binOp .eql 27 (.slice none 0 c) (.slice none 0 0)).run Tryz.prog w=.ok (.bool true) w:=fun w=>Lib.run_eql_slice_nil (P:=Tryz.prog) w 27 68 none 0 c 0 0 Tryz.underlying27
  go_enter Tryz.func35,Tryz.ntmps35
  go_wp2
  go_ret
  exact⟨_,rfl,ai _ _ _ _,Jy _ _⟩
 |some ad=>
  have heq:∀w:EQ,(binOp .eql 27 (.slice (some ad) l.length c) (.slice none 0 0)).run Tryz.prog w=.ok (.bool false) w:=fun w=>Lib.run_eql_slice_nil (P:=Tryz.prog) w 27 68 (some ad) l.length c 0 0 Tryz.underlying27
  have hown:(w.alloc (.cells #[] 68)).ownsRow w.heap.size 68 3 (.slice (some ⟨w.heap.size,0,none⟩) 0 0) 0 []:=⟨rfl,.inr ⟨_,0,#[],rfl,J9 _,Y7 _ _,J9 _,X6 _,rfl,rfl⟩⟩
  have hA2:=hA.below (aA (.cells #[] 68))
  go_enter Tryz.func35,Tryz.ntmps35
  go_wp2_with (at_builtin;refine Y5 _ rfl _ _ 27 rfl w.heap.size 68 i0 (.agg #[.string ⟨#[]⟩,.int .i64 0,.int .i64 0]) 3 32 Tryz.underlying27 hi hz0 hz1 hz2 rfl (by decide) _ _ _ rfl hown ad l.length c (aC l) rfl ?c0 ?c1 ?c2 ?c3 ?c4 ?c5 ?_)
  case c0=>rw[eC];omega
  case c1=>
   intro j u hj
   obtain⟨ad',e,h⟩:=hA2 (by rintro e;rw[e] at hj;simp at hj)
   cases e;exact h j u hj
  case c2=>
   intro u hu
   simp only[aC,List.mem_flatMap] at hu
   obtain⟨f,_,hu⟩:=hu
   simp at hu
   rcases hu with rfl|rfl|rfl <;> rfl
  case c3=>simp only[maxLen];omega
  case c4=>omega
  case c5=>simp
  intro v' w1 hown' hgrow _
  have hB:=(aA (w:=w) (.cells #[] 68)).grown hgrow (by simp) (fun q hq=>aF hown q hq)
  clear hown hgrow
  go_wp2
  go_ret
  exact⟨_,rfl,ag hown' (by simp) (by simp),hB⟩
theorem oz (A B:EL) (c d:Nat) (a b:List Fd) (w:EQ) (hA:Rd w A (aC a)) (hB:Rd w B (aC b)) (ha:a.length<=9223372036854775807) (hb:b.length<=9223372036854775807):
 Calls Tryz.prog 141 #[.slice A a.length c,.slice B b.length d] w fun e w'=>e=.returned (.bool (bh a b))/\Below w.heap.size w w':=by
 by_cases hlen:a.length=b.length
 ·have hz:((a.length:Int) != (b.length:Int))=false:=by rw[hlen];simp
  obtain⟨r,hr⟩:∃r,bh a b=r:=⟨_,rfl⟩
  rw[hr]
  have HR:=J0 hr
  have HL:=J0 hlen
  clear hr
  obtain⟨m,hm⟩:∃m,b.length=m:=⟨_,rfl⟩
  rw[hm] at hz hlen |-
  have HM:=J0 hm
  clear hm hlen hb
  go_enter Tryz.func141,Tryz.ntmps141
  go_wp2
  go_loopw [5,13] (fun _ i wr=>∃k:Nat,k<=a.length/\i=.int .i64 k/\Below w.heap.size w wr/\Hid (a.take k=b.take k)) (fun _ i _=>a.length - (intOf i).toNat)
  case atStart=>exact⟨0,by omega,rfl,Jy _ _,J0 rfl⟩
  case round=>
   obtain⟨k,hk,rfl,HB,hall⟩:=hrel
   have hAr:=hA.below HB
   have hBr:=hB.below HB
   clear hA hB
   by_cases hlt:k<a.length
   ·have hlb:k<m:=by have:=HL.out;have:=HM.out;omega
    obtain⟨x,hx⟩:∃x,a[k]?=some x:=⟨_,J4 hlt⟩
    obtain⟨y,hy⟩:∃y,b[k]?=some y:=⟨_,J4 (by rw[HM.out];exact hlb)⟩
    obtain⟨ad,rfl,c0,c1,c2⟩:=hAr.fld hx
    obtain⟨bd,rfl,d0,d1,d2⟩:=hBr.fld hy
    have HX:=J0 hx
    have HY:=J0 hy
    clear hx hy hAr hBr
    have hi0:(0:Int)<=(k:Int):=by omega
    have hi1:(k:Int)<(a.length:Int):=by omega
    have hi2:(k:Int)<(m:Int):=by omega
    go_wp2
    rcases wU x y with ⟨hne,h1⟩|⟨hne,h1,h2⟩|⟨hne,h1,h2,h3⟩|⟨he,h1,h2,h3⟩
    ·obtain rfl:r=false:=by
      rw[<-HR.out];simp[bh];intro e
      have h1:=HX.out;rw[e,HY.out] at h1;exact hne (Jj h1).symm
     clear hne hall
     refine RW.start (fun w'=>Below w.heap.size w w'/\(w'.cell? (ad.add (k * 3))=some (.string x.s)/\w'.cell? ⟨(ad.add (k * 3)).block,(ad.add (k * 3)).off+(0+1),none⟩=some (.int .i64 x.k)/\w'.cell? ⟨(ad.add (k * 3)).block,(ad.add (k * 3)).off+(1+1),none⟩=some (.int .i64 x.l))/\(w'.cell? (bd.add (k * 3))=some (.string y.s)/\w'.cell? ⟨(bd.add (k * 3)).block,(bd.add (k * 3)).off+(0+1),none⟩=some (.int .i64 y.k)/\w'.cell? ⟨(bd.add (k * 3)).block,(bd.add (k * 3)).off+(1+1),none⟩=some (.int .i64 y.l))) (by kernel_rfl) (by kernel_rfl) ⟨HB.drew,⟨c0,c1,c2⟩,d0,d1,d2⟩ ?_
     clear HB c0 c1 c2 d0 d1 d2
     repeat (first
      |(refine' RW.val (by rfl) ?_ ?_;rotate_left;(focus (intro w' hS;obtain⟨HB,⟨c0,c1,c2⟩,d0,d1,d2⟩:=hS;go_simp;rfl));simp only[Act.put,J1,J3,J2])
      |(refine RW.off (by rfl) ?_;simp only[Act.put,J1,J3,J2]))
     refine RW.done (fun w' hS=>?_)
     obtain⟨HB,⟨c0,c1,c2⟩,d0,d1,d2⟩:=hS
     go_wp2
     go_ret
     exact⟨rfl,HB⟩
    ·obtain rfl:r=false:=by
      rw[<-HR.out];simp[bh];intro e
      have h1:=HX.out;rw[e,HY.out] at h1;exact hne (Jj h1).symm
     clear hne hall
     refine RW.start (fun w'=>Below w.heap.size w w'/\(w'.cell? (ad.add (k * 3))=some (.string x.s)/\w'.cell? ⟨(ad.add (k * 3)).block,(ad.add (k * 3)).off+(0+1),none⟩=some (.int .i64 x.k)/\w'.cell? ⟨(ad.add (k * 3)).block,(ad.add (k * 3)).off+(1+1),none⟩=some (.int .i64 x.l))/\(w'.cell? (bd.add (k * 3))=some (.string y.s)/\w'.cell? ⟨(bd.add (k * 3)).block,(bd.add (k * 3)).off+(0+1),none⟩=some (.int .i64 y.k)/\w'.cell? ⟨(bd.add (k * 3)).block,(bd.add (k * 3)).off+(1+1),none⟩=some (.int .i64 y.l))) (by kernel_rfl) (by kernel_rfl) ⟨HB.drew,⟨c0,c1,c2⟩,d0,d1,d2⟩ ?_
     clear HB c0 c1 c2 d0 d1 d2
     repeat (first
      |(refine' RW.val (by rfl) ?_ ?_;rotate_left;(focus (intro w' hS;obtain⟨HB,⟨c0,c1,c2⟩,d0,d1,d2⟩:=hS;go_simp;rfl));simp only[Act.put,J1,J3,J2])
      |(refine RW.off (by rfl) ?_;simp only[Act.put,J1,J3,J2]))
     refine RW.done (fun w' hS=>?_)
     obtain⟨HB,⟨c0,c1,c2⟩,d0,d1,d2⟩:=hS
     go_wp2
     go_ret
     exact⟨rfl,HB⟩
    ·obtain rfl:r=false:=by
      rw[<-HR.out];simp[bh];intro e
      have h1:=HX.out;rw[e,HY.out] at h1;exact hne (Jj h1).symm
     clear hne hall
     refine RW.start (fun w'=>Below w.heap.size w w'/\(w'.cell? (ad.add (k * 3))=some (.string x.s)/\w'.cell? ⟨(ad.add (k * 3)).block,(ad.add (k * 3)).off+(0+1),none⟩=some (.int .i64 x.k)/\w'.cell? ⟨(ad.add (k * 3)).block,(ad.add (k * 3)).off+(1+1),none⟩=some (.int .i64 x.l))/\(w'.cell? (bd.add (k * 3))=some (.string y.s)/\w'.cell? ⟨(bd.add (k * 3)).block,(bd.add (k * 3)).off+(0+1),none⟩=some (.int .i64 y.k)/\w'.cell? ⟨(bd.add (k * 3)).block,(bd.add (k * 3)).off+(1+1),none⟩=some (.int .i64 y.l))) (by kernel_rfl) (by kernel_rfl) ⟨HB.drew,⟨c0,c1,c2⟩,d0,d1,d2⟩ ?_
     clear HB c0 c1 c2 d0 d1 d2
     repeat (first
      |(refine' RW.val (by rfl) ?_ ?_;rotate_left;(focus (intro w' hS;obtain⟨HB,⟨c0,c1,c2⟩,d0,d1,d2⟩:=hS;go_simp;rfl));simp only[Act.put,J1,J3,J2])
      |(refine RW.off (by rfl) ?_;simp only[Act.put,J1,J3,J2]))
     refine RW.done (fun w' hS=>?_)
     obtain⟨HB,⟨c0,c1,c2⟩,d0,d1,d2⟩:=hS
     go_wp2
     go_ret
     exact⟨rfl,HB⟩
    ·have hall2:Hid (a.take (k+1)=b.take (k+1)):=J0 (by rw[Vv,Vv,hall.out,HX.out,HY.out,he])
     clear he hall
     refine RW.start (fun w'=>Below w.heap.size w w'/\(w'.cell? (ad.add (k * 3))=some (.string x.s)/\w'.cell? ⟨(ad.add (k * 3)).block,(ad.add (k * 3)).off+(0+1),none⟩=some (.int .i64 x.k)/\w'.cell? ⟨(ad.add (k * 3)).block,(ad.add (k * 3)).off+(1+1),none⟩=some (.int .i64 x.l))/\(w'.cell? (bd.add (k * 3))=some (.string y.s)/\w'.cell? ⟨(bd.add (k * 3)).block,(bd.add (k * 3)).off+(0+1),none⟩=some (.int .i64 y.k)/\w'.cell? ⟨(bd.add (k * 3)).block,(bd.add (k * 3)).off+(1+1),none⟩=some (.int .i64 y.l))) (by kernel_rfl) (by kernel_rfl) ⟨HB.drew,⟨c0,c1,c2⟩,d0,d1,d2⟩ ?_
     clear HB c0 c1 c2 d0 d1 d2
     repeat (first
      |(refine' RW.val (by rfl) ?_ ?_;rotate_left;(focus (intro w' hS;obtain⟨HB,⟨c0,c1,c2⟩,d0,d1,d2⟩:=hS;go_simp;rfl));simp only[Act.put,J1,J3,J2])
      |(refine RW.off (by rfl) ?_;simp only[Act.put,J1,J3,J2]))
     refine RW.done (fun w' hS=>?_)
     obtain⟨HB,⟨c0,c1,c2⟩,d0,d1,d2⟩:=hS
     go_wp2
     go_roundw
     case rel=>exact⟨k+1,by omega,by go_num,HB,hall2⟩
     case measure=>simp[intOf];omega
   ·obtain rfl:k=a.length:=by omega
    obtain rfl:r=true:=by
     rw[<-HR.out];have h:=hall.out
     rw[List.take_length,HL.out,List.take_length] at h
     simpa[bh] using h
    clear hAr hBr
    go_wp2
    go_ret
    exact⟨rfl,HB⟩
 ·have hz:((a.length:Int) != (b.length:Int))=true:=by simp;omega
  have hr:bh a b=false:=by simp[bh];intro e;exact hlen (by rw[e])
  rw[hr]
  clear hr hlen
  go_enter Tryz.func141,Tryz.ntmps141
  go_wp2
  go_ret
  exact⟨rfl,Jy _ _⟩
theorem pW (A B:EL) (c d m n:Nat) (a b:List Fd) (ha:a.length=m) (hb:b.length=n) (r:Bool) (hr:bh a b=r) (w:EQ) (hA:Rd w A (aC a)) (hB:Rd w B (aC b)) (hm:m<=9223372036854775807) (hn:n<=9223372036854775807):
 Calls Tryz.prog 141 #[.slice A m c,.slice B n d] w fun e w'=>e=.returned (.bool r)/\Below w.heap.size w w':=by
 subst ha hb hr;exact oz A B c d a b w hA hB hm hn
def dY (w:EQ) (b:Nat) (m:Mv):Prop:=w.cell? ⟨b,0,none⟩=some (.int .i64 m.f)/\w.cell? ⟨b,1,none⟩=some (.int .i64 m.d.k)/\w.cell? ⟨b,2,none⟩=some (.int .u64 m.d.b)/\w.cell? ⟨b,3,none⟩=some (.string m.d.t)
theorem dY.below {w w1:EQ} {b:Nat} {m:Mv} (h:dY w b m) (hb:Below w.heap.size w w1):dY w1 b m:=⟨aE (B:=0) hb h.1,aE (B:=0) hb h.2.1,aE (B:=0) hb h.2.2.1,aE (B:=0) hb h.2.2.2⟩
theorem ByteArray.toList_nil_beq (t:EP):(t.toList == (⟨#[]⟩:EP).toList)=(t.toList == []):=by
 rw[ByteArray.toList_eq (⟨#[]⟩:EP)]
theorem cZ {w:EQ} {a:Addr} {v:ER} (h:w.cell? a=some v):(∀o,(w.alloc o).cell? a=some v)/\∀o o',((w.alloc o).alloc o').cell? a=some v:=
 ⟨fun o=>aE (B:=0) (aA o) h,fun o o'=>aE (B:=0) (aA o') (aE (B:=0) (aA o) h)⟩
theorem pV (bp:Nat) (t:Tb) (Ao An Am:EL) (co cn cm no nn nm:Nat) (hno:t.o.length=no) (hnn:t.n.length=nn) (hnm:t.m.length=nm) (l0:no<=9223372036854775807) (k:Nat) (x:Mv) (g:Fd) (hx:t.m[k]?=some x) (hg:t.n[k]?=some g) (b0:0<=x.d.b) (b1:x.d.b<18446744073709551616)
 (w:EQ) (O:fB w bp (.slice Ao no co) (.slice An nn cn) (.slice Am nm cm)) (ao:Rd w Ao (aC t.o)) (an:Rd w An (aC t.n)) (am:Rd w Am (aJ t.m)):
 Calls Tryz.prog 107 #[.int .i64 (k:Int),.pointer (some ⟨bp,0,none⟩)] w fun e w'=>e=.returned (.bool (eW t.o g x))/\Below w.heap.size w w':=by
 obtain⟨r,hr⟩:∃r,eW t.o g x=r:=⟨_,rfl⟩
 rw[hr]
 have hk1:k<nn:=by rw[<-hnn];exact(J6.1 hg).1
 have hk2:k<nm:=by rw[<-hnm];exact(J6.1 hx).1
 obtain⟨ad,ea,c0,c1,c2,c3⟩:=am.mv hx
 obtain⟨bd,eb,d0,d1,d2⟩:=an.fld hg
 subst ea eb
 obtain⟨O0,O1,O2⟩:=id O
 have HR:=J0 hr
 have HNO:=J0 hno
 have hi0:(0:Int)<=(k:Int):=by omega
 have hi1:(k:Int)<(nn:Int):=by omega
 have hi2:(k:Int)<(nm:Int):=by omega
 clear hr hno hnn hnm hx hg an am
 go_enter Tryz.func107,Tryz.ntmps107
 go_upto_region 1 with fail
 go_cut [4,5] (fun s4 s5 wx=>∃p q:Nat,s4=.pointer (some ⟨p,0,none⟩)/\s5=.pointer (some ⟨q,0,none⟩)/\dY wx p x/\cG wx q g.s g.k g.l/\Below w.heap.size w wx)
 case first=>
  obtain⟨x0,y0⟩:=cZ c0
  obtain⟨x1,y1⟩:=cZ c1
  obtain⟨x2,y2⟩:=cZ c2
  obtain⟨x3,y3⟩:=cZ c3
  obtain⟨x4,y4⟩:=cZ d0
  obtain⟨x5,y5⟩:=cZ d1
  obtain⟨x6,y6⟩:=cZ d2
  obtain⟨x7,y7⟩:=cZ O1
  obtain⟨x8,y8⟩:=cZ O2
  go_region
  have HB:=Jy w.heap.size w
  all_goals (go_wp2_with fail;go_meet;refine⟨_,_,rfl,rfl,⟨?_,?_,?_,?_⟩,⟨?_,?_,?_⟩,?_⟩)
  all_goals first
   |(simp[World.cell?_alloc_new];done)
   |(have HB:=Jy w.heap.size w;(repeat (first|exact HB|refine J8 ?_ (by dsimp only;omega) _|refine Jk ?_ (by have:=HB.size;(try simp) <;> omega) _|apply Jv)))
 case rest=>
  obtain⟨p,q,rfl,rfl,M,F,HB⟩:=hcut
  replace O:=O.below HB
  replace ao:=ao.below HB
  clear c0 c1 c2 c3 d0 d1 d2 O0 O1 O2
  obtain⟨M0,M1,M2,M3⟩:=id M
  obtain⟨F0,F1,F2⟩:=id F
  obtain⟨O0,O1,O2⟩:=id O
  by_cases hf:x.f=-1
  ·have hfb:(x.f == -1)=true:=by simp[hf]
   have hok:r=(aM x.d.k x.d.b x.d.t g.k g.l && (decide (g.k≠11) || decide (x.d.b=0))):=by rw[<-HR.out,eW,Xz hf]
   obtain⟨r1,hr1⟩:∃y,aM x.d.k x.d.b x.d.t g.k g.l=y:=⟨_,rfl⟩
   rw[hr1] at hok
   have HR1:=J0 hr1
   clear hr1 hf
   cases r1
   ·obtain rfl:r=false:=hok
    go_wp2_with (go_at_call 95;refine(av x.d.k x.d.b x.d.t g.s g.k g.l b0 b1 false HR1.out _).mono ?_;rintro e wM ⟨rfl,hb⟩;replace HB:=HB.trans (hb.mono HB.size);replace F:=F.below hb;obtain⟨F0,F1,F2⟩:=id F;clear hb)
    go_ret
    exact⟨rfl,HB⟩
   ·by_cases hk:g.k=11
    ·have hk1:(g.k != 11)=false:=by simp[hk]
     by_cases hb:x.d.b=0
     ·have hb1:(x.d.b == 0)=true:=by simp[hb]
      obtain rfl:r=true:=by rw[hok];simp[hb]
      clear hok hk hb
      go_wp2_with (go_at_call 95;refine(av x.d.k x.d.b x.d.t g.s g.k g.l b0 b1 true HR1.out _).mono ?_;rintro e wM ⟨rfl,hb⟩;replace HB:=HB.trans (hb.mono HB.size);obtain⟨F0,F1,F2⟩:=F.below hb;obtain⟨M0,M1,M2,M3⟩:=M.below hb;clear hb)
      go_ret
      exact⟨rfl,HB⟩
     ·have hb1:(x.d.b == 0)=false:=by simp[hb]
      obtain rfl:r=false:=by rw[hok];simp[hb,hk]
      clear hok hk hb
      go_wp2_with (go_at_call 95;refine(av x.d.k x.d.b x.d.t g.s g.k g.l b0 b1 true HR1.out _).mono ?_;rintro e wM ⟨rfl,hb⟩;replace HB:=HB.trans (hb.mono HB.size);obtain⟨F0,F1,F2⟩:=F.below hb;obtain⟨M0,M1,M2,M3⟩:=M.below hb;clear hb)
      go_ret
      exact⟨rfl,HB⟩
    ·have hk1:(g.k != 11)=true:=by simp[hk]
     obtain rfl:r=true:=by rw[hok];simp[hk]
     clear hok hk
     go_wp2_with (go_at_call 95;refine(av x.d.k x.d.b x.d.t g.s g.k g.l b0 b1 true HR1.out _).mono ?_;rintro e wM ⟨rfl,hb⟩;replace HB:=HB.trans (hb.mono HB.size);obtain⟨F0,F1,F2⟩:=F.below hb;obtain⟨M0,M1,M2,M3⟩:=M.below hb;clear hb)
     go_ret
     exact⟨rfl,HB⟩
  ·have hfb:(x.f == -1)=false:=by simp[hf]
   have hok:r=(decide (0<=x.f) && (match t.o[x.f.toNat]? with|none=>false|some f=>decide (x.d=Vl.z) && aU f.k f.l g.k g.l)):=by rw[<-HR.out,eW,Xy hf] <;> rfl
   clear hf
   go_upto_region 4 with fail
   by_cases h0:0<=x.f
   ·have h01:decide ((0:Int)<=x.f)=true:=by simpa using h0
    by_cases h1:x.f<(no:Int)
    ·obtain⟨f,hf⟩:∃f,t.o[x.f.toNat]?=some f:=⟨_,J4 (by rw[HNO.out];omega)⟩
     have h11:decide (x.f<(no:Int))=true:=by simpa using h1
     rw[hf] at hok
     have HF:=J0 hf
     clear hf
     by_cases hz:x.d=Vl.z
     ·have hr:aU f.k f.l g.k g.l=r:=by rw[hok];simp[h0,hz]
      have HC:=J0 hr
      obtain⟨od,eo,f0,f1,f2⟩:=ao.fld HF.out
      subst eo
      have z1:x.d.k=0:=by rw[hz];rfl
      have z2:x.d.b=0:=by rw[hz];rfl
      have z3:x.d.t=⟨#[]⟩:=by rw[hz];rfl
      clear hok hr hz
      clear f0 f1 f2 M0 M1 M2 M3 F0 F1 F2 O0 O1 O2
      refine RW.start (fun w'=>Below w.heap.size w w'/\dY w' p x/\cG w' q g.s g.k g.l/\fB w' bp (.slice (some od) no co) (.slice (some bd) nn cn) (.slice (some ad) nm cm)/\Rd w' (some od) (aC t.o)) (by kernel_rfl) (by kernel_rfl) ⟨HB.drew,M,F,O,ao⟩ ?_
      clear HB M F O ao
      repeat (first
       |(refine' RW.val (by rfl) ?_ ?_;rotate_left;(focus (intro w' hS;obtain⟨HB,M,F,O,ao⟩:=hS;obtain⟨M0,M1,M2,M3⟩:=id M;obtain⟨F0,F1,F2⟩:=id F;obtain⟨O0,O1,O2⟩:=id O;rw[z1] at M1;rw[z2] at M2;rw[z3] at M3;obtain⟨_,eo,f0,f1,f2⟩:=ao.fld HF.out;cases eo;go_simp;rfl));simp only[Act.put,J1,J3,J2])
       |(refine RW.off (by rfl) ?_;simp only[Act.put,J1,J3,J2])
       |(refine' RW.call (by rfl) ?_ ?_ ?_
         rotate_left 3
         (focus (intro w' hS;obtain⟨HB,M,F,O,ao⟩:=hS;obtain⟨M0,M1,M2,M3⟩:=id M;obtain⟨F0,F1,F2⟩:=id F;obtain⟨O0,O1,O2⟩:=id O;rw[z1] at M1;rw[z2] at M2;rw[z3] at M3;obtain⟨_,eo,f0,f1,f2⟩:=ao.fld HF.out;cases eo;go_simp;exact⟨rfl,rfl⟩))
         (focus
           intro w' hS
           obtain⟨HB,M,F,O,ao⟩:=hS;obtain⟨M0,M1,M2,M3⟩:=id M;obtain⟨F0,F1,F2⟩:=id F;obtain⟨O0,O1,O2⟩:=id O;rw[z1] at M1;rw[z2] at M2;rw[z3] at M3;obtain⟨_,eo,f0,f1,f2⟩:=ao.fld HF.out;cases eo
           first
            |(refine(dX f.s g.s f.k f.l g.k g.l r HC.out _).mono ?_;rintro e w1 ⟨rfl,hb⟩;exact⟨rfl,⟨(aB HB hb),(M.below hb),(F.below hb),(O.below hb),(ao.below hb)⟩⟩))
         simp only[Act.put,J1,J3,J2]))
      refine RW.done (fun w' hS=>?_)
      obtain⟨HB,M,F,O,ao⟩:=hS;obtain⟨M0,M1,M2,M3⟩:=id M;obtain⟨F0,F1,F2⟩:=id F;obtain⟨O0,O1,O2⟩:=id O;rw[z1] at M1;rw[z2] at M2;rw[z3] at M3;obtain⟨_,eo,f0,f1,f2⟩:=ao.fld HF.out;cases eo
      go_wp2
      go_ret
      exact⟨rfl,HB⟩
     ·obtain rfl:r=false:=by rw[hok];simp[hz]
      have hw:(x.d.k == 0)=false\/((x.d.k == 0)=true/\(x.d.b == 0)=false)\/((x.d.k == 0)=true/\(x.d.b == 0)=true/\(x.d.t.toList == [])=false):=by
       rw[<-ByteArray.toList_nil_beq x.d.t]
       obtain⟨xf,⟨dk,db,dt⟩⟩:=x
       by_cases e1:dk=0
       ·by_cases e2:db=0
        ·refine .inr (.inr ⟨by simp[e1],by simp[e2],?_⟩)
         rw[fU]
         exact Y9 fun e3=>hz (by have e3:dt=_:=e3;show(⟨dk,db,dt⟩:Vl)=Vl.z;rw[e1,e2,e3];rfl)
        ·exact .inr (.inl ⟨by simp[e1],by simp[e2]⟩)
       ·exact .inl (by simp[e1])
      clear hok hz
      rcases hw with z1|⟨z1,z2⟩|⟨z1,z2,z3⟩
      ·skip
       refine RW.start (fun w'=>Below w.heap.size w w'/\dY w' p x/\cG w' q g.s g.k g.l/\fB w' bp (.slice Ao no co) (.slice (some bd) nn cn) (.slice (some ad) nm cm)) (by kernel_rfl) (by kernel_rfl) ⟨HB.drew,M,F,O⟩ ?_
       clear HB M F O
       repeat (first
        |(refine' RW.val (by rfl) ?_ ?_;rotate_left;(focus (intro w' hS;obtain⟨HB,M,F,O⟩:=hS;obtain⟨M0,M1,M2,M3⟩:=id M;obtain⟨F0,F1,F2⟩:=id F;obtain⟨O0,O1,O2⟩:=id O;go_simp;rfl));simp only[Act.put,J1,J3,J2])
        |(refine RW.off (by rfl) ?_;simp only[Act.put,J1,J3,J2]))
       refine RW.done (fun w' hS=>?_)
       obtain⟨HB,M,F,O⟩:=hS;obtain⟨M0,M1,M2,M3⟩:=id M;obtain⟨F0,F1,F2⟩:=id F;obtain⟨O0,O1,O2⟩:=id O
       go_wp2
       go_ret
       exact⟨rfl,HB⟩
      ·skip
       refine RW.start (fun w'=>Below w.heap.size w w'/\dY w' p x/\cG w' q g.s g.k g.l/\fB w' bp (.slice Ao no co) (.slice (some bd) nn cn) (.slice (some ad) nm cm)) (by kernel_rfl) (by kernel_rfl) ⟨HB.drew,M,F,O⟩ ?_
       clear HB M F O
       repeat (first
        |(refine' RW.val (by rfl) ?_ ?_;rotate_left;(focus (intro w' hS;obtain⟨HB,M,F,O⟩:=hS;obtain⟨M0,M1,M2,M3⟩:=id M;obtain⟨F0,F1,F2⟩:=id F;obtain⟨O0,O1,O2⟩:=id O;go_simp;rfl));simp only[Act.put,J1,J3,J2])
        |(refine RW.off (by rfl) ?_;simp only[Act.put,J1,J3,J2]))
       refine RW.done (fun w' hS=>?_)
       obtain⟨HB,M,F,O⟩:=hS;obtain⟨M0,M1,M2,M3⟩:=id M;obtain⟨F0,F1,F2⟩:=id F;obtain⟨O0,O1,O2⟩:=id O
       go_wp2
       go_ret
       exact⟨rfl,HB⟩
      ·skip
       refine RW.start (fun w'=>Below w.heap.size w w'/\dY w' p x/\cG w' q g.s g.k g.l/\fB w' bp (.slice Ao no co) (.slice (some bd) nn cn) (.slice (some ad) nm cm)) (by kernel_rfl) (by kernel_rfl) ⟨HB.drew,M,F,O⟩ ?_
       clear HB M F O
       repeat (first
        |(refine' RW.val (by rfl) ?_ ?_;rotate_left;(focus (intro w' hS;obtain⟨HB,M,F,O⟩:=hS;obtain⟨M0,M1,M2,M3⟩:=id M;obtain⟨F0,F1,F2⟩:=id F;obtain⟨O0,O1,O2⟩:=id O;go_simp;rfl));simp only[Act.put,J1,J3,J2])
        |(refine RW.off (by rfl) ?_;simp only[Act.put,J1,J3,J2]))
       refine RW.done (fun w' hS=>?_)
       obtain⟨HB,M,F,O⟩:=hS;obtain⟨M0,M1,M2,M3⟩:=id M;obtain⟨F0,F1,F2⟩:=id F;obtain⟨O0,O1,O2⟩:=id O
       go_wp2
       go_ret
       exact⟨rfl,HB⟩
    ·obtain rfl:r=false:=by
      rw[hok,Xv (by rw[HNO.out];omega)];simp
     have h11:decide (x.f<(no:Int))=false:=by simpa using h1
     clear hok h1
     refine RW.start (fun w'=>Below w.heap.size w w'/\dY w' p x/\cG w' q g.s g.k g.l/\fB w' bp (.slice Ao no co) (.slice (some bd) nn cn) (.slice (some ad) nm cm)) (by kernel_rfl) (by kernel_rfl) ⟨HB.drew,M,F,O⟩ ?_
     clear HB M F O
     repeat (first
      |(refine' RW.val (by rfl) ?_ ?_;rotate_left;(focus (intro w' hS;obtain⟨HB,M,F,O⟩:=hS;obtain⟨M0,M1,M2,M3⟩:=id M;obtain⟨F0,F1,F2⟩:=id F;obtain⟨O0,O1,O2⟩:=id O;go_simp;rfl));simp only[Act.put,J1,J3,J2])
      |(refine RW.off (by rfl) ?_;simp only[Act.put,J1,J3,J2]))
     refine RW.done (fun w' hS=>?_)
     obtain⟨HB,M,F,O⟩:=hS;obtain⟨M0,M1,M2,M3⟩:=id M;obtain⟨F0,F1,F2⟩:=id F;obtain⟨O0,O1,O2⟩:=id O
     go_wp2
     go_ret
     exact⟨rfl,HB⟩
   ·obtain rfl:r=false:=by rw[hok];simp[h0]
    have h01:decide ((0:Int)<=x.f)=false:=by simpa using h0
    clear hok h0
    refine RW.start (fun w'=>Below w.heap.size w w'/\dY w' p x/\cG w' q g.s g.k g.l/\fB w' bp (.slice Ao no co) (.slice (some bd) nn cn) (.slice (some ad) nm cm)) (by kernel_rfl) (by kernel_rfl) ⟨HB.drew,M,F,O⟩ ?_
    clear HB M F O
    repeat (first
     |(refine' RW.val (by rfl) ?_ ?_;rotate_left;(focus (intro w' hS;obtain⟨HB,M,F,O⟩:=hS;obtain⟨M0,M1,M2,M3⟩:=id M;obtain⟨F0,F1,F2⟩:=id F;obtain⟨O0,O1,O2⟩:=id O;go_simp;rfl));simp only[Act.put,J1,J3,J2])
     |(refine RW.off (by rfl) ?_;simp only[Act.put,J1,J3,J2]))
    refine RW.done (fun w' hS=>?_)
    obtain⟨HB,M,F,O⟩:=hS;obtain⟨M0,M1,M2,M3⟩:=id M;obtain⟨F0,F1,F2⟩:=id F;obtain⟨O0,O1,O2⟩:=id O
    go_wp2
    go_ret
    exact⟨rfl,HB⟩
theorem dB (t:Tb) (Ao An Am:EL) (co cn cm no nn nm:Nat) (hno:t.o.length=no) (hnn:t.n.length=nn) (hnm:t.m.length=nm) (l0:no<=9223372036854775807) (l1:nn<=9223372036854775807) (l2:nm<=9223372036854775807) (hw:iG t.m)
 (w:EQ) (ao:Rd w Ao (aC t.o)) (an:Rd w An (aC t.n)) (am:Rd w Am (aJ t.m)):
 Calls Tryz.prog 72 #[.agg #[.slice Ao no co,.slice An nn cn,.slice Am nm cm]] w fun e w'=>e=.returned (.bool (ar t))/\Below w.heap.size w w':=by
 have hmf:∀(fn:Fn) (first cap:Array ER) (w:EQ),(Instr.makeFunc fn first cap).run Tryz.prog w=.ok (.func fn first cap) w:=fun _ _ _ _=>rfl
 obtain⟨r,hr⟩:∃r,ar t=r:=⟨_,rfl⟩
 obtain⟨r1,hr1⟩:∃r,aK t.o=r:=⟨_,rfl⟩
 obtain⟨r2,hr2⟩:∃r,aK t.n=r:=⟨_,rfl⟩
 have hrr:r=(r1 && r2 && decide (nm=nn) && decide (∀k,k<nm->eu t k=true)):=by rw[<-hr,<-hr1,<-hr2,<-hnm,<-hnn,ar]
 rw[hr]
 have hb1:=aA (w:=w) (.cells #[.slice Ao no co,.slice An nn cn,.slice Am nm cm] 96)
 have O:=fB.new w (.slice Ao no co) (.slice An nn cn) (.slice Am nm cm) 96
 have HB:=hb1
 replace ao:=ao.below hb1
 replace an:=an.below hb1
 replace am:=am.below hb1
 obtain⟨O0,O1,O2⟩:=id O
 have HR1:=J0 hr1
 have HR2:=J0 hr2
 have HRR:=J0 hrr
 have HNO:=J0 hno
 have HNN:=J0 hnn
 have HNM:=J0 hnm
 have HW:=J0 hw
 have tok1:=Yz
 clear hr hr1 hr2 hrr hno hnn hnm hb1 hw
 cases r1
 ·obtain rfl:r=false:=by rw[HRR.out];rfl
  go_enter Tryz.func72,Tryz.ntmps72
  go_wp2_with (go_at_call 62;refine(bY Ao co no t.o HNO.out false HR1.out _ ao l0).mono ?_;rintro e wM ⟨rfl,hb⟩;replace HB:=HB.trans (hb.mono HB.size);replace O:=O.below hb;obtain⟨O0,O1,O2⟩:=id O;clear hb)
  go_ret
  exact⟨rfl,HB⟩
 cases r2
 ·obtain rfl:r=false:=by rw[HRR.out];rfl
  go_enter Tryz.func72,Tryz.ntmps72
  go_wp2_with (first
   |(have _t:=tok1;go_at_call 62;refine(bY Ao co no t.o HNO.out true HR1.out _ ao l0).mono ?_;rintro e wM ⟨rfl,hb⟩;replace HB:=HB.trans (hb.mono HB.size);replace an:=an.below hb;replace am:=am.below hb;replace O:=O.below hb;obtain⟨O0,O1,O2⟩:=id O;clear hb tok1;have tok2:=Yz)
   |(have _t:=tok2;go_at_call 62;refine(bY An cn nn t.n HNN.out false HR2.out _ an l1).mono ?_;rintro e wM ⟨rfl,hb⟩;replace HB:=HB.trans (hb.mono HB.size);replace O:=O.below hb;obtain⟨O0,O1,O2⟩:=id O;clear hb tok2;have tok3:=Yz))
  go_ret
  exact⟨rfl,HB⟩
 by_cases hlen:nm=nn
 ·have hz:((nm:Int) != (nn:Int))=false:=by rw[hlen];simp
  have HL:=J0 hlen
  clear hlen
  go_enter Tryz.func72,Tryz.ntmps72
  go_wp2_with (first
   |(have _t:=tok1;go_at_call 62;refine(bY Ao co no t.o HNO.out true HR1.out _ ao l0).mono ?_;rintro e wM ⟨rfl,hb⟩;replace HB:=HB.trans (hb.mono HB.size);replace ao:=ao.below hb;replace an:=an.below hb;replace am:=am.below hb;replace O:=O.below hb;obtain⟨O0,O1,O2⟩:=id O;clear hb tok1;have tok2:=Yz)
   |(have _t:=tok2;go_at_call 62;refine(bY An cn nn t.n HNN.out true HR2.out _ an l1).mono ?_;rintro e wM ⟨rfl,hb⟩;replace HB:=HB.trans (hb.mono HB.size);replace ao:=ao.below hb;replace an:=an.below hb;replace am:=am.below hb;replace O:=O.below hb;obtain⟨O0,O1,O2⟩:=id O;clear hb tok2;have tok3:=Yz))
  rename EQ=>W1
  have ao0:=ao
  have an0:=an
  have am0:=am
  have O':=O
  have HB0:=HB
  clear ao an am O HB
  go_loopw [4,28] (fun _ i wr=>∃k:Nat,k<=nm/\i=.int .i64 k/\Below w.heap.size w wr/\Rd wr Ao (aC t.o)/\Rd wr An (aC t.n)/\Rd wr Am (aJ t.m)/\fB wr w.heap.size (.slice Ao no co) (.slice An nn cn) (.slice Am nm cm)/\Hid (∀j,j<k->eu t j=true)) (fun _ i _=>nm - (intOf i).toNat)
  case atStart=>exact⟨0,by omega,rfl,HB0,ao0,an0,am0,O',J0 (fun j hj=>by omega)⟩
  case round=>
   obtain⟨k,hk,rfl,HB,ao,an,am,O,hall⟩:=hrel
   clear HB0 ao0 an0 am0 O' O0 O1 O2
   obtain⟨O0,O1,O2⟩:=id O
   by_cases hlt:k<nm
   ·obtain⟨x,hx⟩:∃x,t.m[k]?=some x:=⟨_,J4 (by rw[HNM.out];exact hlt)⟩
    have hln:k<nn:=by have:=HL.out;omega
    obtain⟨g,hg⟩:∃y,t.n[k]?=some y:=⟨_,J4 (by rw[HNN.out];exact hln)⟩
    have hat:eu t k=eW t.o g x:=by simp[eu,hx,hg]
    obtain⟨b0,b1⟩:=HW.out x (J7 hx)
    obtain⟨s,hs⟩:∃s,eW t.o g x=s:=⟨_,rfl⟩
    have HX:=J0 hx
    have HG:=J0 hg
    have HS:=J0 hs
    have HAT:=J0 (hat.trans hs)
    clear hx hg hat hs
    cases s
    ·obtain rfl:r=false:=by
      have hn:¬∀j,j<nm->eu t j=true:=fun h=>by have:=h k hlt;rw[HAT.out] at this;cases this
      rw[HRR.out,Y9 hn];simp
     go_wp2_with (go_at_call 107;refine(pV w.heap.size t Ao An Am co cn cm no nn nm HNO.out HNN.out HNM.out l0 k x g HX.out HG.out b0 b1 _ O ao an am).mono ?_;rintro e wM ⟨rfl,hb⟩;rw[HS.out];replace HB:=HB.trans (hb.mono HB.size);clear hb)
     go_ret
     exact⟨rfl,HB⟩
    ·have hall2:Hid (∀j,j<k+1->eu t j=true):=J0 (fun j hj=>by
      rcases(by omega:j<k\/j=k) with h|rfl
      ·exact hall.out j h
      ·exact HAT.out)
     go_wp2_with (go_at_call 107;refine(pV w.heap.size t Ao An Am co cn cm no nn nm HNO.out HNN.out HNM.out l0 k x g HX.out HG.out b0 b1 _ O ao an am).mono ?_;rintro e wM ⟨rfl,hb⟩;rw[HS.out];replace HB:=HB.trans (hb.mono HB.size);replace ao:=ao.below hb;replace an:=an.below hb;replace am:=am.below hb;replace O:=O.below hb;clear hb)
     go_roundw
     case rel=>exact⟨k+1,by omega,by go_num,HB,ao,an,am,O,hall2⟩
     case measure=>simp[intOf];omega
   ·obtain rfl:k=nm:=by omega
    obtain rfl:r=true:=by
     rw[HRR.out,Yx HL.out,Yx hall.out];rfl
    go_wp2
    go_ret
    exact⟨rfl,HB⟩
 ·have hz:((nm:Int) != (nn:Int))=true:=by simp;omega
  obtain rfl:r=false:=by rw[HRR.out,Y9 hlen];rfl
  clear hlen
  go_enter Tryz.func72,Tryz.ntmps72
  go_wp2_with (first
   |(have _t:=tok1;go_at_call 62;refine(bY Ao co no t.o HNO.out true HR1.out _ ao l0).mono ?_;rintro e wM ⟨rfl,hb⟩;replace HB:=HB.trans (hb.mono HB.size);replace an:=an.below hb;replace am:=am.below hb;replace O:=O.below hb;obtain⟨O0,O1,O2⟩:=id O;clear hb tok1;have tok2:=Yz)
   |(have _t:=tok2;go_at_call 62;refine(bY An cn nn t.n HNN.out true HR2.out _ an l1).mono ?_;rintro e wM ⟨rfl,hb⟩;replace HB:=HB.trans (hb.mono HB.size);replace O:=O.below hb;obtain⟨O0,O1,O2⟩:=id O;clear hb tok2;have tok3:=Yz))
  go_ret
  exact⟨rfl,HB⟩
def kM (k:Nat):List Mv:=(List.range k).map fun k:Nat=>⟨(k:Int),Vl.z⟩
theorem du (k:Nat):kM (k+1)=kM k++[⟨(k:Int),Vl.z⟩]:=by simp[kM,List.range_succ]
theorem aP (k:Nat):(kM k).length=k:=by simp[kM]
theorem eR (w:EQ) (a b c d:ER) (T:ES):∀j x,[a,b,c,d][j]?=some x->(w.alloc (.cells #[a,b,c,d] T)).cell? ((⟨w.heap.size,0,none⟩:Addr).add j)=some x:=by
 intro j x hj
 have:=gh w [a,b,c,d] T (by simp)
 obtain⟨ad,e,h⟩:=this
 cases e
 exact h j x hj
theorem aI {w:EQ} {b:Nat} {cs:EO} {T:ES} (h:aD w b cs T) (j:Nat) (v:ER):aD (w.setCell ⟨b,j,none⟩ v) b (cs.set j v) T:=by
 obtain⟨hlt,hk⟩:=Qq.1 h
 show(w.heap.modify b _)[b]?=_
 rw[Array.getElem?_eq_getElem (by rw[Array.size_modify];exact hlt),Array.getElem_modify_self,hk]
 simp
theorem vj (A:EL) (c m:Nat) (l:List Fd) (hm:l.length=m) (hr:aK l=true) (w:EQ) (hA:Rd w A (aC l)) (hl:m<=9223372036854775807) (hs:∀f∈l,f.s.size<=9223372036854775807):
 Calls Tryz.prog 153 #[.slice A m c] w fun e w'=>∃v,e=.returned (.agg #[.slice A m c,.slice A m c,v])/\w'.ownsRow w.heap.size 157 4 v m (aJ (kM m))/\Below w.heap.size w w':=by
 obtain⟨i0,hi,hz0,hz1,hz2⟩:=info_parts iO
 have h16:m<=16:=by rw[<-hm];exact(aQ hr).2
 have hb1:=aA (w:=w) (.cells #[.slice none 0 0,.slice none 0 0,.slice none 0 0] 110)
 have R:=aD.new w [.slice none 0 0,.slice none 0 0,.slice none 0 0] 110
 have HB:=hb1
 replace hA:=hA.below hb1
 have HM:=J0 hm
 have HR:=J0 hr
 clear hm hr hb1
 go_enter Tryz.func153,Tryz.ntmps153
 go_wp2_with (go_at_call 77;refine(ab A c m l HM.out true HR.out _ hA hl hs).mono ?_;rintro e W1 ⟨rfl,hb⟩;replace HB:=HB.trans (hb.mono HB.size);replace R:=R.below hb;clear hb)
 have O:=aD.new W1 [.slice A m c,.slice A m c,.slice none 0 0] 110
 have hb2:=aA (w:=W1) (.cells #[.slice A m c,.slice A m c,.slice none 0 0] 110)
 have hzW:w.heap.size<W1.heap.size:=R.lt
 have R0:=R.below hb2
 have HB0:=HB.trans (hb2.mono HB.size)
 clear hb2 HB R
 go_loopw [4] (fun i wr=>∃(k:Nat) (v:ER),k<=m/\i=.int .i64 k/\wr.ownsRow (W1.heap.size+1) 157 4 v k (aJ (kM k))/\aD wr W1.heap.size [.slice A m c,.slice A m c,v] 110/\aD wr w.heap.size [.slice none 0 0,.slice none 0 0,.slice none 0 0] 110/\Below w.heap.size w wr/\W1.heap.size<wr.heap.size) (fun i _=>m - (intOf i).toNat)
 case atStart=>exact⟨0,_,by omega,rfl,ai _ _ _ _,O,R0,HB0,by simp⟩
 case round=>
  obtain⟨k,v,hk,rfl,hown,O,R,HB,hz⟩:=hrel
  clear R0 HB0 hA
  by_cases hlt:k<m
  ·have HK:=J0 (du k)
   obtain⟨k0,k1,k2,f0,f1,f2⟩:=(O.below (aA (w:=wr) (.cells #[.int .i64 k,.int .i64 0,.int .u64 0,.string ⟨#[]⟩] 157))).f3
   obtain⟨q0,q1,q2,p0,p1,p2⟩:=O.f3
   go_wp2_with (at_builtin;refine Y5 _ rfl _ _ 108 rfl (W1.heap.size+1) 157 i0 (.agg #[.int .i64 0,.int .i64 0,.int .u64 0,.string ⟨#[]⟩]) 4 40 Tryz.underlying108 hi hz0 hz1 hz2 rfl (by decide) _ _ _ rfl (hown.alloc _) ⟨wr.heap.size,0,none⟩ 1 1 [.int .i64 k,.int .i64 0,.int .u64 0,.string ⟨#[]⟩] rfl rfl ?c1 ?c2 ?c3 ?c4 ?c5 ?_)
   case c1=>exact eR _ _ _ _ _ _
   case c2=>intro u hu;simp at hu;rcases hu with rfl|rfl|rfl|rfl <;> rfl
   case c3=>simp only[maxLen];omega
   case c4=>omega
   case c5=>simp;omega
   intro v' w3 hown' hgrow _
   have BG:Below (W1.heap.size+1) wr w3:=((Jy _ _).alloc (by omega) (.cells #[.int .i64 k,.int .i64 0,.int .u64 0,.string ⟨#[]⟩] 157)).grown hgrow (by simp;omega) (fun q hq=>aF hown q hq)
   have O3:aD w3 W1.heap.size [.slice A m c,.slice A m c,v] 110:=(BG.block _ (by omega)).trans O
   have R3:aD w3 w.heap.size [.slice none 0 0,.slice none 0 0,.slice none 0 0] 110:=(BG.block _ (by omega)).trans R
   have HB3:=HB.trans (BG.mono (by omega))
   have hown3:w3.ownsRow (W1.heap.size+1) 157 4 v' (k+1) (aJ (kM (k+1))):=ag hown' (by simp) (by rw[HK.out,bu];rfl)
   have hz3:=BG.size
   obtain⟨B',c',rfl,_,_,_⟩:=aL hown3
   clear hown' hgrow hown k0 k1 k2 f0 f1 f2 q0 q1 q2 p0 p1 p2
   obtain⟨k0,k1,k2,f0,f1,f2⟩:=O3.f3
   go_wp2
   go_roundw
   case rel=>exact⟨k+1,_,by omega,by go_num,Y3 hown3 (by show _<_;simp) _,aI O3 2 _,(J5 _ _ _ _ (by show _≠_;simp;omega)).trans R3,HB3.setCell (by show _<=_;simp;omega) _,by simp;omega⟩
   case measure=>simp[intOf];omega
  ·obtain rfl:k=m:=by omega
   obtain⟨B',c',rfl,_,_,_⟩:=aL hown
   obtain⟨k0,k1,k2,f0,f1,f2⟩:=O.f3
   obtain⟨q0,q1,q2,p0,p1,p2⟩:=R.f3
   go_wp2
   refine Xx (v:=.agg #[.slice A k c,.slice A k c,.slice B' k c']) (by simp[results,Tryz.results153,go_sem, *];done) rfl ⟨_,rfl,?_,?_⟩
   ·refine hQ (Y3 (Y3 (Y3 hown ?_ _) ?_ _) ?_ _) (by omega) <;> (show _<_;simp;omega)
   ·(repeat (first|exact HB|refine J8 ?_ (by dsimp only;omega) _|refine Jk ?_ (by have:=HB.size;(try simp) <;> omega) _|apply Jv))
end
end Go.Proofs.YteembinfgbapgaaGreat
