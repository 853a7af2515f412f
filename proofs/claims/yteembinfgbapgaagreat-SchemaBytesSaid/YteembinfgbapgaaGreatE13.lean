/- Merged out of: Vf Vg Vh Vi Vj Vk Ue. -/
import Derived.Test.YteembinfgbapgaaGreatE00
import Derived.Test.YteembinfgbapgaaGreatE12
import Derived.Test.YteembinfgbapgaaGreatE11
set_option linter.unusedSimpArgs false
set_option linter.unusedVariables false
set_option maxRecDepth 100000
set_option maxHeartbeats 8000000
namespace Go.Proofs.YteembinfgbapgaaGreat
section
open Go.RowKit Go.Lib Go.Maps
theorem zX:(Tryz.prog.info? 27).map (fun i=>(i.zero,i.size,i.bytes))=some (some (.slice none 0 0),1,24):=by kernel_rfl
theorem zY:(Tryz.prog.info? 110).map (fun i=>(i.zero,i.size,i.bytes))=some (some (.agg #[.slice none 0 0,.slice none 0 0,.slice none 0 0]),3,72):=by kernel_rfl
theorem Rd.fv {w:EQ} {A:EL} {fv:List FV} (h:Rd w A (bJ fv)) {k:Nat} {v:FV} (hv:fv[k]?=some v):∃ad,A=some ad/\w.cell? (ad.add k)=some (.slice v.A v.l.length v.a):=h.at (by simp[bJ,hv])
theorem vV {Q:Nat->Prop} {w:EQ} {A:EL} {c:Nat} {X:List bk} (h:bZ Q w A c X) (n:Nat) (hn:X.length=n) (h16:n<=16) (hok:∀x∈X,x.y.Ok) (hnd:(X.map (·.y.s)).Nodup) (nm:EP) {x:bk} (i:Nat) (hi:X[i]?=some x) (hf:it (X.map (·.y)) nm=(i:Int)) (h64:x.y.top<64) (K:EL) (cK nc:Nat) (cs:List (Ch×ER)) (hnc:cs.length=nc) (hk:nc<=9223372036854775807) (hw:∀p∈cs,wA p) (hK:Rd w K (bV cs)) (ho:∀p∈cs,ou w p) (T:Tb) (q:Int) (hT:gb x.y.last (cs.map (·.1))=(T,q)):
 Calls Tryz.prog 68 #[.slice A n c,.string nm,.slice K nc cK] w fun e w'=>
  (q≠0/\e=.returned (.tuple #[.slice A n c,.int .i64 0,.int .i64 q])/\Below w.heap.size w w')\/
  (q=0/\∃B d x',e=.returned (.tuple #[.slice B n d,.int .i64 ((x.y.top+1:Nat):Int),.int .i64 0])/\n<=d/\x'.y=rm x.y (cs.map (·.1))/\x'.Is (fun g=>Q g\/w.heap.size<=g) w'/\Rd w' B (ac (X.set i x'))/\Below w.heap.size w w'):=by
 have hrow:=h.row
 have hxm:=J7 hi
 have hxo:=hok x hxm
 have hI:=h.ty x hxm
 obtain⟨hfl,htl⟩:=hI.len
 obtain⟨nf,hnf⟩:∃m,x.fv.length=m:=⟨_,rfl⟩
 obtain⟨nt,hnt⟩:∃m,x.tv.length=m:=⟨_,rfl⟩
 obtain⟨top,htop⟩:∃m,x.y.top=m:=⟨_,rfl⟩
 have hlen:0<x.y.ts.length:=by cases hx:x.y.ts with|nil=>exact absurd hx hxo.ne|cons a r=>simp
 have hsum:x.y.old+nf=top+1:=by have h2:x.y.top=x.y.old+x.y.ts.length - 1:=rfl;omega
 have hhi:top<=64:=by have:=hxo.hi;omega
 have hnf64:nf<=64:=by have:=hxo.lo;omega
 have hnt64:nt<=64:=by omega
 obtain⟨k,hk1⟩:∃k,nf=k+1:=⟨nf - 1,by omega⟩
 obtain⟨V,hV⟩:∃V,x.fv[k]?=some V:=⟨_,J4 (by omega)⟩
 have hlast:x.y.last=V.l:=by
  have h1:(x.fv.map (·.l))[k]?=some V.l:=by rw[Kv,hV];rfl
  rw[hI.eF,Kv] at h1
  rw[Ty.last,List.getLast?_eq_getElem?,show x.y.ts.length - 1=k by omega]
  cases hx:x.y.ts[k]? with
  |none=>rw[hx] at h1;cases h1
  |some t=>rw[hx] at h1;exact Jj h1
 have hNm:=(dh hxo).2
 have hrt:=(dh hxo).1
 rw[hlast] at hT hNm hrt
 have hm16:=(aQ hrt).2
 obtain⟨m,hm⟩:∃m,V.l.length=m:=⟨_,rfl⟩
 rw[hm] at hm16
 obtain⟨fa,hfa,hVc⟩:=hI.rF.rd.fv hV
 rw[hm] at hVc
 have hVl:=hI.fl V (J7 hV)
 rw[htop] at h64 |-
 have d1:decide ((64:Int)<=(top:Int))=false:=by simp;omega
 have d2:¬(64:Int)<=(top:Int):=by omega
 have hil:i<n:=by rw[<-hn];exact(J6.1 hi).1
 have i0:(0:Int)<=(i:Int):=by omega
 have i1:(i:Int)<(n:Int):=by omega
 have i2:decide ((i:Int)<0)=false:=by simp
 have hwr:IntKind.i64.wrap ((nf:Int) - 1)=(k:Int):=(Xj _ (by omega)).trans (by omega)
 have k0:(0:Int)<=(k:Int):=by omega
 have k1:(k:Int)<(nf:Int):=by omega
 have HN:=J0 hn;have HZ:=J0 hf;have HS:=J0 hsum;have HI:=J0 hi;have HNF:=J0 hnf;have HNT:=J0 hnt;have HH:=J0 h;have HM:=J0 hm;have HIS:=J0 hI;have HTP:=J0 htop;have HNS:=J0 hNm;have HLA:=J0 hlast;have HNC:=J0 hnc;have HW:=J0 hw;have HO:=J0 ho;have HT:=J0 hT;have HOK:=J0 hxo;have HFA:=J0 hfa;have HKN:=J0 hk1
 have HB:=Jy w.heap.size w
 clear hn hf h hxo hfl htl htop hsum hi hnf hnt hlen hok hnd hxm hI hV hm hNm hlast hnc hw ho hT hrt hfa hk1
 go_enter Tryz.func68,Tryz.ntmps68
 go_upto_region 4 with (go_at_call 42;refine(cS A c n X HN.out (by omega) nm _ HZ.out _ (hrow.below HB)).mono ?_;rintro e W3 ⟨rfl,hb⟩;replace HB:=HB.trans (hb.mono HB.size);clear hb)
 obtain⟨ad,rfl,c0,c1,c2,c3⟩:=(hrow.below HB).ty HI.out
 rw[HNF.out] at c2;rw[HNT.out] at c3
 rename EQ=>W3
 have nb:=aA (w:=W3) (.cells #[.string x.y.s,.int .i64 (x.y.old:Nat),.slice x.F nf x.f,.slice x.T nt x.t] 58)
 have P:=aD.new W3 [.string x.y.s,.int .i64 (x.y.old:Nat),.slice x.F nf x.f,.slice x.T nt x.t] 58
 go_upto_region 5 with fail
 have hz3:=HB.size
 generalize W3.alloc (.cells #[.string x.y.s,.int .i64 (x.y.old:Nat),.slice x.F nf x.f,.slice x.T nt x.t] 58)=W4 at *
 generalize W3.heap.size=pb at *
 obtain⟨p0,p1,p2,p3⟩:=P.f4
 clear c0 c1 c2 c3
 replace HB:=HB.trans (nb.mono hz3)
 go_upto_region 7 with (go_at_call 24;refine(dO x.y.s x.y.old nf x.F x.f x.T nt x.t top HS.out (by omega) _).mono ?_;rintro e W5 ⟨rfl,hb⟩;replace HB:=HB.trans (hb.mono HB.size);replace P:=P.below hb;clear hb p0 p1 p2 p3)
 obtain⟨p0,p1,p2,p3⟩:=P.f4
 rw[HFA.out] at p2
 have hVc':=aE (B:=0) HB hVc
 obtain⟨lo,hlo⟩:∃y,T.o.length=y:=⟨_,rfl⟩
 obtain⟨ln,hln⟩:∃y,T.n.length=y:=⟨_,rfl⟩
 obtain⟨lm,hlm⟩:∃y,T.m.length=y:=⟨_,rfl⟩
 have HLO:=J0 hlo;have HLN:=J0 hln;have HLM:=J0 hlm
 clear hlo hln hlm
 go_upto_region 8 with (go_at_call 102;refine(Ds V.l m HM.out (by omega) V.A V.a K cK nc cs HNC.out hk HNS.out HW.out _ (hVl.below HB) (hK.below HB) (fun p hp=>(HO.out p hp).below HB)).mono ?_;rw[HT.out];rintro e W6 ⟨Y0,y0,Y1,y1,Y2,y2,rfl,r0,r1,r2,hb6⟩;rw[HLO.out,HLN.out,HLM.out])
 by_cases hq:q=0
 ·subst hq
  obtain⟨iF,hiF,hzF0,hzF1,hzF2⟩:=info_parts zX
  obtain⟨iT,hiT,hzT0,hzT1,hzT2⟩:=info_parts zY
  have nb7:=aA (w:=W6) (.cells #[.slice Y0 lo y0,.slice Y1 ln y1,.slice Y2 lm y2] 110)
  have TB:=aD.new W6 [.slice Y0 lo y0,.slice Y1 ln y1,.slice Y2 lm y2] 110
  have P7:=(P.below hb6).below nb7
  have htp:=(P.below hb6).lt
  have HB7:=(HB.trans (hb6.mono HB.size)).trans (nb7.mono (by have:=HB.size;have:=hb6.size;omega))
  replace r0:=r0.below nb7;replace r1:=r1.below nb7;replace r2:=r2.below nb7
  clear P p0 p1 p2 p3 hVc' HB hb6 nb
  generalize W6.alloc (.cells #[.slice Y0 lo y0,.slice Y1 ln y1,.slice Y2 lm y2] 110)=W7 at *
  have htb:=TB.lt
  generalize W6.heap.size=tb at *
  have hpb:=P7.lt
  have hF7:=HIS.out.rF.rd.below HB7
  rw[HFA.out] at hF7
  have P7a:=P7.below (aA (.cells #[] 27))
  have hF7a:=hF7.below (aA (.cells #[] 27))
  obtain⟨_,_,p2,_⟩:=P7a.f4
  rw[HFA.out] at p2
  have hownF:(W7.alloc (.cells #[] 27)).ownsRow W7.heap.size 27 1 (.slice (some ⟨W7.heap.size,0,none⟩) 0 0) 0 []:=⟨rfl,.inr ⟨_,0,#[],rfl,J9 _,Y7 _ _,J9 _,X6 _,rfl,rfl⟩⟩
  have hfl1:(bJ x.fv).length=nf:=by rw[bJ,Kz];exact HNF.out
  have HFL:=J0 hfl1
  clear hfl1
  go_upto_region 11 with (at_builtin;refine Y5 _ rfl _ _ 55 rfl W7.heap.size 27 iF (.slice none 0 0) 1 24 Tryz.underlying55 hiF hzF0 hzF1 hzF2 rfl (by decide) _ _ _ rfl hownF fa nf x.f (bJ x.fv) rfl ?c0 ?c1 ?c2 ?c3 ?c4 ?c5 ?_)
  case c0=>rw[HFL.out];omega
  case c1=>
   intro j u hj
   obtain⟨ad',e,h⟩:=hF7a (by rintro e;rw[e] at hj;simp at hj)
   cases e;exact h j u hj
  case c2=>
   intro u hu
   simp only[bJ,Vy] at hu
   obtain⟨f,_,rfl⟩:=hu
   rfl
  case c3=>simp only[maxLen];omega
  case c4=>omega
  case c5=>simp
  intro v8 w8 hown' hgrow _
  have BG8:Below W7.heap.size W7 w8:=((Jy _ _).alloc (J9 _) (.cells #[] 27)).grown hgrow (by simp) (fun q hq=>aF hownF q hq)
  have ownF8:w8.ownsRow W7.heap.size 27 1 v8 nf (bJ x.fv):=ag hown' (by simp) (by simp)
  clear hown' hgrow hownF p2 P7a hF7a hF7
  obtain⟨gF,cF,rfl,hgF,hgFl,_,_,_⟩:=ce ownF8 (by omega)
  have P8:=P7.below BG8
  have TB8:=TB.below BG8
  have HB8:=HB7.trans (BG8.mono HB7.size)
  have hz78:=BG8.size
  obtain⟨_,_,_,q3⟩:=(P8.below (aA (.cells #[] 110))).f4
  go_upto_region 11 with fail
  go_cut [14] (fun s14 wx=>∃gT cT,s14=.slice (some ⟨gT,0,none⟩) nt cT/\wx.ownsRow w8.heap.size 110 3 (.slice (some ⟨gT,0,none⟩) nt cT) nt (ah x.tv)/\Below w8.heap.size w8 wx)
  case first=>
   have hownT:(w8.alloc (.cells #[] 110)).ownsRow w8.heap.size 110 3 (.slice (some ⟨w8.heap.size,0,none⟩) 0 0) 0 []:=⟨rfl,.inr ⟨_,0,#[],rfl,J9 _,Y7 _ _,J9 _,X6 _,rfl,rfl⟩⟩
   have hT8:=HIS.out.rT.rd.below (HB8.trans ((aA (.cells #[] 110)).mono HB8.size))
   have htl1:(ah x.tv).length=3 * nt:=by rw[pE,HNT.out]
   have HTL:=J0 htl1
   clear htl1
   by_cases hnt0:nt=0
   ·have htv:x.tv=[]:=List.eq_nil_of_length_eq_zero (by rw[HNT.out];exact hnt0)
    obtain⟨eT,et⟩:=HIS.out.cT htv
    rw[eT,et,hnt0] at q3
    have hap:∀ty,(Builtin.append_ #[56,56] ty #[.slice (some ⟨w8.heap.size,0,none⟩) 0 0,.slice none 0 0]).run Tryz.prog (w8.alloc (.cells #[] 110))=.ok (.slice (some ⟨w8.heap.size,0,none⟩) 0 0) (w8.alloc (.cells #[] 110)):=fun ty=>run_append_owned_none _ w8.heap.size 56 ty 110 iT 3 Tryz.underlying56 hiT _ 0 [] hownT
    have HTV:=J0 htv;have HN0:=J0 hnt0
    clear htv eT et hnt0 hT8
    go_wp2
    go_meet
    refine⟨w8.heap.size,0,by rw[HN0.out],?_,aA _⟩
    rw[HTV.out,HN0.out]
    exact hownT
   ·obtain⟨ta,hta⟩:∃ta,x.T=some ta:=by
     obtain⟨ta,e,_⟩:=hT8 (by intro e;have:=HTL.out;rw[e] at this;simp at this;omega)
     exact⟨ta,e⟩
    rw[hta] at q3 hT8
    clear hta
    go_wp2_with (at_builtin;refine Y5 _ rfl _ _ 56 rfl w8.heap.size 110 iT (.agg #[.slice none 0 0,.slice none 0 0,.slice none 0 0]) 3 72 Tryz.underlying56 hiT hzT0 hzT1 hzT2 rfl (by decide) _ _ _ rfl hownT ta nt x.t (ah x.tv) rfl ?c0 ?c1 ?c2 ?c3 ?c4 ?c5 ?_)
    case c0=>rw[HTL.out];omega
    case c1=>
     intro j u hj
     obtain⟨ad',e,h⟩:=hT8 (by rintro e;rw[e] at hj;simp at hj)
     cases e;exact h j u hj
    case c2=>
     intro u hu
     simp only[ah,List.mem_flatMap] at hu
     obtain⟨f,_,hf⟩:=hu
     simp[bB.cells] at hf
     rcases hf with rfl|rfl|rfl <;> rfl
    case c3=>simp only[maxLen];omega
    case c4=>omega
    case c5=>simp
    intro v9 w9 hown' hgrow _
    have BG9:Below w8.heap.size w8 w9:=((Jy _ _).alloc (J9 _) (.cells #[] 110)).grown hgrow (by simp) (fun q hq=>aF hownT q hq)
    have ownT9:w9.ownsRow w8.heap.size 110 3 v9 nt (ah x.tv):=ag hown' (by simp) (by simp)
    obtain⟨gT,cT,rfl,_,_,_,_,_⟩:=ce ownT9 (by omega)
    clear hown' hgrow hownT q3 hT8
    go_wp2
    go_meet
    exact⟨gT,cT,rfl,ownT9,BG9⟩
  case rest=>
   obtain⟨gT,cT,rfl,ownT9,BG9⟩:=hcut
   rename EQ=>w9
   have HB9:=HB8.trans (BG9.mono HB8.size)
   have hz89:=BG9.size
   have hgT:w8.heap.size<=gT:=aF ownT9 gT rfl
   have hgTl:gT<w9.heap.size:=aY ownT9 gT rfl
   have ownF9:=aG ownF8 BG9
   have P9:=P8.below BG9
   have TB9:=TB8.below BG9
   obtain⟨t0,t1,t2,_,_,_⟩:=TB9.f3
   have nb9:=aA (w:=w9) (.cells #[.slice Y1 ln y1] 27)
   have own9a:=aG ownF9 nb9
   clear q3 ownF8 P8 TB8
   go_upto_region 13 with (at_builtin;refine Y4 _ rfl _ _ 55 rfl W7.heap.size 27 iF (.slice none 0 0) 1 24 Tryz.underlying55 hiF hzF0 hzF1 hzF2 rfl (by decide) _ _ _ rfl own9a ⟨w9.heap.size,0,none⟩ 1 1 [.slice Y1 ln y1] rfl rfl ?c1 ?c2 ?c3 ?c4 ?c5 ?_)
   case c1=>exact jD _ _ _ (by simp)
   case c2=>intro u hu;simp at hu;subst hu;rfl
   case c3=>simp only[maxLen];omega
   case c4=>omega
   case c5=>simp <;> omega
   intro v10 w10 hown' hgrow _ hat
   have gr10:(w9.alloc (.cells #[.slice Y1 ln y1] 27)).grownBy w10 (some gF):=hgrow
   have P10:=(P9.below nb9).grown gr10 (by intro e;have:=Jj e;omega)
   have TB10:=(TB9.below nb9).grown gr10 (by intro e;have:=Jj e;omega)
   have ownT10:=cY (aG ownT9 nb9) gr10 (fun q hq=>by have hq2:some gT=some q:=hq;cases hq2;intro e;have:=Jj e;omega)
   have k10:∀q,q<W7.heap.size->w10.heap[q]?=W7.heap[q]?:=fun q hq=>(gr10.block q (by simp;omega) (by intro e;have:=Jj e;omega)).trans ((nb9.block q (by omega)).trans ((BG9.block q (by omega)).trans (BG8.block q hq)))
   have HB10:Below w.heap.size w w10:=(HB9.trans (nb9.mono HB9.size)).grown gr10 (by have:=HB9.size;simp;omega) (fun q hq=>by cases hq;omega)
   have hz10:w9.heap.size<w10.heap.size:=by have:=gr10.size;simp at this;omega
   obtain⟨gF2,cF2,rfl,hgF2,hgF2l,hcF2,_,_⟩:=ce hown' (by omega)
   have hne:gF2≠gT:=by
    rcases hat with h|h
    ·have h2:some gF2=some gF:=h
     have:=Jj h2
     omega
    ·have h2:some gF2=some (w9.heap.size+1):=h
     have:=Jj h2
     omega
   have hnp:gF2≠pb:=by omega
   obtain⟨_,_,s2,_⟩:=P10.f4
   have s2f:=P10.frz 2
   clear hgrow hat own9a ownF9 P9 TB9 t0 t1 t2 nb9 ownT9
   go_upto_region 13 with fail
   have P11:=aI P10 2 (.slice (some ⟨gF2,0,none⟩) (nf+1) cF2)
   simp only[J2,J3] at P11
   have hset:∀q,q≠pb->(w10.setCell ⟨pb,2,none⟩ (.slice (some ⟨gF2,0,none⟩) (nf+1) cF2)).heap[q]?=w10.heap[q]?:=fun q hq=>J5 _ _ _ _ hq
   have s11:(w10.setCell ⟨pb,2,none⟩ (.slice (some ⟨gF2,0,none⟩) (nf+1) cF2)).heap.size=w10.heap.size:=by simp[World.setCell]
   have ownF11:=aN hown' (fun q hq=>hset q (by have h2:some gF2=some q:=hq;have:=Jj h2;omega))
   have ownT11:=aN ownT10 (fun q hq=>hset q (by have h2:some gT=some q:=hq;have:=Jj h2;omega))
   have TB11:aD _ tb _ 110:=(hset tb (by omega)).trans TB10
   have k11:∀q,q<W7.heap.size->q≠pb->(w10.setCell ⟨pb,2,none⟩ (.slice (some ⟨gF2,0,none⟩) (nf+1) cF2)).heap[q]?=W7.heap[q]?:=fun q hq hn=>(hset q hn).trans (k10 q hq)
   have HB11:Below w.heap.size w (w10.setCell ⟨pb,2,none⟩ (.slice (some ⟨gF2,0,none⟩) (nf+1) cF2)):=HB10.setCell (by show w.heap.size<=pb;omega) _
   clear P10 TB10 ownT10 hown' k10 HB10 s2 s2f hset
   generalize w10.setCell ⟨pb,2,none⟩ (.slice (some ⟨gF2,0,none⟩) (nf+1) cF2)=w11 at *
   obtain⟨t0,t1,t2,_,_,_⟩:=TB11.f3
   have nbA:=aA (w:=w11) (.cells #[.slice Y0 lo y0,.slice Y1 ln y1,.slice Y2 lm y2] 110)
   have own11a:=aG ownT11 nbA
   go_upto_region 14 with (at_builtin;refine Y4 _ rfl _ _ 56 rfl w8.heap.size 110 iT (.agg #[.slice none 0 0,.slice none 0 0,.slice none 0 0]) 3 72 Tryz.underlying56 hiT hzT0 hzT1 hzT2 rfl (by decide) _ nt (ah x.tv) ?g1 own11a ⟨w11.heap.size,0,none⟩ 1 1 [.slice Y0 lo y0,.slice Y1 ln y1,.slice Y2 lm y2] ?g2 rfl ?c1 ?c2 ?c3 ?c4 ?c5 ?_)
   case g1=>simp[Act.eval]
   case g2=>simp[Act.eval]
   case c1=>exact jD _ _ _ (by simp)
   case c2=>intro u hu;simp at hu;rcases hu with rfl|rfl|rfl <;> rfl
   case c3=>simp only[maxLen];omega
   case c4=>omega
   case c5=>simp <;> omega
   intro v12 w12 hown' hgrow _ hat
   have gr12:(w11.alloc (.cells #[.slice Y0 lo y0,.slice Y1 ln y1,.slice Y2 lm y2] 110)).grownBy w12 (some gT):=hgrow
   have P12:=(P11.below nbA).grown gr12 (by intro e;have:=Jj e;omega)
   have ownF12:=cY (aG ownF11 nbA) gr12 (fun q hq=>by have hq2:some gF2=some q:=hq;cases hq2;intro e;exact hne (Jj e))
   have k12:∀q,q<W7.heap.size->q≠pb->w12.heap[q]?=W7.heap[q]?:=fun q hq hn=>(gr12.block q (by simp;omega) (by intro e;have:=Jj e;omega)).trans ((nbA.block q (by omega)).trans (k11 q hq hn))
   have HB12:Below w.heap.size w w12:=(HB11.trans (nbA.mono HB11.size)).grown gr12 (by have:=HB11.size;simp;omega) (fun q hq=>by cases hq;omega)
   have hz12:w11.heap.size<w12.heap.size:=by have:=gr12.size;simp at this;omega
   obtain⟨gT2,cT2,rfl,hgT2,hgT2l,hcT2,_,_⟩:=ce hown' (by omega)
   obtain⟨_,_,_,s3⟩:=P12.f4
   have s3f:=P12.frz 3
   clear hgrow hat own11a ownF11 P11 TB11 t0 t1 t2 nbA ownT11 k11 HB11 gr12
   go_upto_region 14 with fail
   have P13:=aI P12 3 (.slice (some ⟨gT2,0,none⟩) (nt+1) cT2)
   simp only[J2,J3] at P13
   have hset:∀q,q≠pb->(w12.setCell ⟨pb,3,none⟩ (.slice (some ⟨gT2,0,none⟩) (nt+1) cT2)).heap[q]?=w12.heap[q]?:=fun q hq=>J5 _ _ _ _ hq
   have s13:(w12.setCell ⟨pb,3,none⟩ (.slice (some ⟨gT2,0,none⟩) (nt+1) cT2)).heap.size=w12.heap.size:=by simp[World.setCell]
   have ownF13:=aN ownF12 (fun q hq=>hset q (by have h2:some gF2=some q:=hq;have:=Jj h2;omega))
   have ownT13:=aN hown' (fun q hq=>hset q (by have h2:some gT2=some q:=hq;have:=Jj h2;omega))
   have k13:∀q,q<W7.heap.size->q≠pb->(w12.setCell ⟨pb,3,none⟩ (.slice (some ⟨gT2,0,none⟩) (nt+1) cT2)).heap[q]?=W7.heap[q]?:=fun q hq hn=>(hset q hn).trans (k12 q hq hn)
   have HB13:Below w.heap.size w (w12.setCell ⟨pb,3,none⟩ (.slice (some ⟨gT2,0,none⟩) (nt+1) cT2)):=HB12.setCell (by show w.heap.size<=pb;omega) _
   clear P12 ownF12 hown' k12 HB12 s3 s3f hset
   generalize w12.setCell ⟨pb,3,none⟩ (.slice (some ⟨gT2,0,none⟩) (nt+1) cT2)=w13 at *
   have hz13:W7.heap.size<=w13.heap.size:=by omega
   obtain⟨x',hx'⟩:∃x':bk,x'=⟨rm x.y (cs.map (·.1)),some ⟨gF2,0,none⟩,cF2,some ⟨gT2,0,none⟩,cT2,x.fv++[⟨T.n,Y1,y1⟩],x.tv++[⟨T,Y0,y0,Y1,y1,Y2,y2⟩]⟩:=⟨_,rfl⟩
   have hall:∀W',Below w13.heap.size w13 W'->W'.cell? ⟨pb,0,none⟩=some (.string x.y.s)/\W'.cell? ⟨pb,1,none⟩=some (.int .i64 (x.y.old:Nat))/\W'.cell? ⟨pb,2,none⟩=some (.slice (some ⟨gF2,0,none⟩) (nf+1) cF2)/\W'.cell? ⟨pb,3,none⟩=some (.slice (some ⟨gT2,0,none⟩) (nt+1) cT2)/\Below w13.heap.size w13 W':=fun W' hb=>by
    obtain⟨a0,a1,a2,a3⟩:=(P13.below hb).f4
    exact⟨a0,a1,a2,a3,hb⟩
   have hwith:∀W',Below w13.heap.size w13 W'->Calls Tryz.prog 103 #[.slice (some ad) n c,.int .i64 (i:Nat),.agg #[.string x.y.s,.int .i64 (x.y.old:Nat),.slice (some ⟨gF2,0,none⟩) (nf+1) cF2,.slice (some ⟨gT2,0,none⟩) (nt+1) cT2]] W' fun e w'=>∃B d,e=.returned (.slice B n d)/\n<=d/\Rd w' B (ac (X.set i x'))/\Below W'.heap.size W' w':=fun W' hb=>by
    have:=wu (some ad) c n X HN.out (by omega) (by have h1:=HH.out.cap;have h2:=HN.out;omega) i hil x' (nf+1) (nt+1) (by rw[hx'];simp[HNF.out]) (by rw[hx'];simp[HNT.out]) W' ((hrow.below HB13).below hb)
    rw[hx'] at this |-
    exact this
   have hkeep:∀{A:EL} {cs:EO},Rd W7 A cs->qV cs->Rd w13 A cs:=fun hA hl=>((hA.ne4 P7 hl).lt.keep (fun g hg=>k13 g hg.2 hg.1)).rd
   have r0':=hkeep r0 (qV.flds _)
   have r1':=hkeep r1 (qV.flds _)
   have r2':=hkeep r2 (qV.moves _)
   have hwz:w.heap.size<=W7.heap.size:=HB7.size
   have hIs:∀Wf,Below w13.heap.size w13 Wf->x'.Is (fun g=>Q g\/w.heap.size<=g) Wf:=fun Wf hb=>by
    have HBf:=HB13.trans (hb.mono HB13.size)
    have hlT:gb x.y.last (cs.map (·.1))=(T,0):=by rw[HLA.out];exact HT.out
    have hts:(rm x.y (cs.map (·.1))).ts=x.y.ts++[T]:=by rw[rm,hlT]
    rw[hx']
    refine⟨?_,?_,fun v hv=>?_,fun v hv=>?_,?_,?_,?_,fun he=>?_⟩
    ·have e:bJ (x.fv++[⟨T.n,Y1,y1⟩])=bJ x.fv++[.slice Y1 ln y1]:=by simp[bJ,HLN.out]
     show au _ Wf _ (bJ (x.fv++[⟨T.n,Y1,y1⟩]))
     rw[e]
     exact(dj (P:=fun g=>Q g\/w.heap.size<=g) ownF13 (fun g hg=>.inr (Q7 hwz (aF ownF13 g hg)))).up hb
    ·have e:ah (x.tv++[⟨T,Y0,y0,Y1,y1,Y2,y2⟩])=ah x.tv++[.slice Y0 lo y0,.slice Y1 ln y1,.slice Y2 lm y2]:=by simp[ah,bB.cells,HLO.out,HLN.out,HLM.out]
     show au _ Wf _ (ah (x.tv++[⟨T,Y0,y0,Y1,y1,Y2,y2⟩]))
     rw[e]
     exact(dj (P:=fun g=>Q g\/w.heap.size<=g) ownT13 (fun g hg=>.inr (Q7 (Q7 hwz hz78) (aF ownT13 g hg)))).up hb
    ·rcases X5.1 hv with h1|h1
     ·exact(HIS.out.fl v h1).below HBf
     ·simp at h1;subst h1;exact r1'.below hb
    ·rcases X5.1 hv with h1|h1
     ·exact(HIS.out.tb v h1).below HBf
     ·simp at h1;subst h1;exact⟨r0'.below hb,r1'.below hb,r2'.below hb⟩
    ·show(x.fv++[⟨T.n,Y1,y1⟩]:List FV).map (·.l)=(rm x.y (cs.map (·.1))).ts.map (·.n)
     rw[hts,List.map_append,List.map_append,HIS.out.eF];rfl
    ·show(x.tv++[⟨T,Y0,y0,Y1,y1,Y2,y2⟩]:List bB).map (·.t)=(rm x.y (cs.map (·.1))).ts.tail
     rw[hts,List.tail_append_of_ne_nil HOK.out.ne,List.map_append,HIS.out.eT];rfl
    ·show(x.fv++[⟨T.n,Y1,y1⟩]:List FV).length<=cF2
     rw[Vq,HNF.out];exact hcF2
    ·have he2:x.tv++[⟨T,Y0,y0,Y1,y1,Y2,y2⟩]=[]:=he
     simp at he2
   have HIX:=J0 hIs
   have hxy:x'.y=rm x.y (cs.map (·.1)):=by rw[hx']
   have HXY:=J0 hxy
   have HWI:=J0 hwith
   have hsum2:x.y.old+(nf+1)=top+1+1:=by have:=HS.out;omega
   have HS2:=J0 hsum2
   have HXX:=J0 hx'
   clear hwith hsum2 hx' hIs hxy
   go_region_held3 (fun W'=>W'.cell? ⟨pb,0,none⟩=some (.string x.y.s)/\W'.cell? ⟨pb,1,none⟩=some (.int .i64 (x.y.old:Nat))/\W'.cell? ⟨pb,2,none⟩=some (.slice (some ⟨gF2,0,none⟩) (nf+1) cF2)/\W'.cell? ⟨pb,3,none⟩=some (.slice (some ⟨gT2,0,none⟩) (nt+1) cT2)/\Below w13.heap.size w13 W') ((refine hall _ ?_;repeat (first|assumption|exact Jy _ _|apply Jv)))
    (first
      |(go_at_call 103;obtain⟨_,_,_,_,HBx⟩:=‹_/\_/\_/\_/\Below w13.heap.size w13 _›;refine(HWI.out _ HBx).mono ?_;rintro e W5 ⟨B,d,rfl,hd,rB,hbw⟩;have HB5:=aB HBx hbw)
      |(go_at_call 24;obtain⟨_,_,_,_,HBx⟩:=‹_/\_/\_/\_/\Below w13.heap.size w13 _›;refine(dO x.y.s x.y.old (nf+1) _ cF2 _ (nt+1) cT2 (top+1) HS2.out (by omega) _).mono ?_;rintro e W8 ⟨rfl,hbn⟩;have HB8n:=aB HBx hbn))
   all_goals go_wp2_with fail
   all_goals refine Xx (v:=.tuple #[.slice B n d,.int .i64 ((top+1:Nat):Int),.int .i64 0]) (by simp[results,Tryz.results68,go_sem, *];done) rfl ?_
   all_goals first
    |exact⟨B,d,by simp,hd,x',HXY.out,HIX.out _ HB8n,rB.below hbn,HB13.trans (HB8n.mono HB13.size)⟩
    |exact .inr ⟨rfl,B,d,x',rfl,hd,HXY.out,HIX.out _ HB8n,rB.below hbn,HB13.trans (HB8n.mono HB13.size)⟩
    |exact⟨B,d,by simp,hd,x',HXY.out,HIX.out _ HB5,rB,HB13.trans (HB5.mono HB13.size)⟩
    |exact .inr ⟨rfl,B,d,x',rfl,hd,HXY.out,HIX.out _ HB5,rB,HB13.trans (HB5.mono HB13.size)⟩
 ·have e2:(q == 0)=false:=by simpa using hq
  have e3:(q != 0)=true:=by simpa using hq
  go_wp2
  refine Xx (v:=.tuple #[.slice (some ad) n c,.int .i64 0,.int .i64 q]) (by simp[results,Tryz.results68,go_sem, *];done) rfl (.inl ⟨hq,rfl,?_⟩)
  exact(HB.trans (hb6.mono HB.size)).alloc (by have:=HB.size;have:=hb6.size;omega) _
theorem aD.f8 {w:EQ} {b:Nat} {x0 x1 x2 x3:ER} {T:ES} (h:aD w b [x0,x1,x2,x3] T):w.cell? ⟨b,0,none⟩=some x0/\w.cell? ⟨b,1,none⟩=some x1/\w.cell? ⟨b,2,none⟩=some x2/\w.cell? ⟨b,3,none⟩=some x3/\w.frozen? ⟨b,0,none⟩=false/\w.frozen? ⟨b,1,none⟩=false/\w.frozen? ⟨b,2,none⟩=false/\w.frozen? ⟨b,3,none⟩=false:=⟨h.cell rfl,h.cell rfl,h.cell rfl,h.cell rfl,h.frz 0,h.frz 1,h.frz 2,h.frz 3⟩
theorem rV {Q:Nat->Prop} {w:EQ} {A:EL} {c:Nat} {X:List bk} (h:bZ Q w A c X) (n:Nat) (hn:X.length=n) (h16:n<=16) (hok:∀x∈X,x.y.Ok) (hnd:(X.map (·.y.s)).Nodup) (nm:EP) (hz:it (X.map (·.y)) nm=-1) (L:EL) (cL nl:Nat):
 Calls Tryz.prog 69 #[.slice A n c,.string nm,.slice L nl cL] w fun e w'=>e=.returned (.tuple #[.slice A n c,.int .i64 0,.int .i64 90])/\Below w.heap.size w w':=by
 have hrow:=h.row
 have HN:=J0 hn;have HZ:=J0 hz
 have HB:=Jy w.heap.size w
 clear hn hz h
 go_enter Tryz.func69,Tryz.ntmps69
 go_wp2_with (go_at_call 42;refine(cS A c n X HN.out (by omega) nm _ HZ.out _ (hrow.below HB)).mono ?_;rintro e W3 ⟨rfl,hb⟩;replace HB:=HB.trans (hb.mono HB.size);clear hb)
 refine Xx (v:=.tuple #[.slice A n c,.int .i64 0,.int .i64 90]) (by simp[results,Tryz.results69,go_sem, *];done) rfl ⟨rfl,HB⟩
theorem vh {Q:Nat->Prop} {w:EQ} {A:EL} {c:Nat} {X:List bk} (h:bZ Q w A c X) (n:Nat) (hn:X.length=n) (h16:n<=16) (hok:∀x∈X,x.y.Ok) (hnd:(X.map (·.y.s)).Nodup) (nm:EP) {x:bk} (i:Nat) (hi:X[i]?=some x) (hf:it (X.map (·.y)) nm=(i:Int)) (L:EL) (cL nl:Nat) (q:List Int) (hnl:q.length=nl) (hl:nl<=9223372036854775807) (hL:Rd w L (aV q)) (u:Bool) (hu:rc x.y q=u):
 Calls Tryz.prog 69 #[.slice A n c,.string nm,.slice L nl cL] w fun e w'=>
  (u=true/\e=.returned (.tuple #[.slice A n c,.int .i64 0,.int .i64 93])/\Below w.heap.size w w')\/
  (u=false/\∃B d x',e=.returned (.tuple #[.slice B n d,.int .i64 ((x.y.ts.length - 1:Nat):Int),.int .i64 0])/\n<=d/\x'.y=uU x.y/\x'.Is (fun g=>Q g\/w.heap.size<=g) w'/\Rd w' B (ac (X.set i x'))/\Below w.heap.size w w'):=by
 have hrow:=h.row
 have hxm:=J7 hi
 have hxo:=hok x hxm
 have hI:=h.ty x hxm
 obtain⟨hfl,htl⟩:=hI.len
 obtain⟨nf,hnf⟩:∃m,x.fv.length=m:=⟨_,rfl⟩
 obtain⟨nt,hnt⟩:∃m,x.tv.length=m:=⟨_,rfl⟩
 obtain⟨top,htop⟩:∃m,x.y.top=m:=⟨_,rfl⟩
 have hlen:0<x.y.ts.length:=by cases hx:x.y.ts with|nil=>exact absurd hx hxo.ne|cons a r=>simp
 have hft:nf=nt+1:=by omega
 have htt:x.y.ts.length - 1=nt:=by omega
 rw[htt]
 have hsum:x.y.old+nf=top+1:=by have h2:x.y.top=x.y.old+x.y.ts.length - 1:=rfl;omega
 have hhi:top<=64:=by have:=hxo.hi;omega
 have hnf64:nf<=64:=by have:=hxo.lo;omega
 obtain⟨V,hV⟩:∃V,x.fv[nt]?=some V:=⟨_,J4 (by omega)⟩
 have hlast:x.y.last=V.l:=by
  have h1:(x.fv.map (·.l))[nt]?=some V.l:=by rw[Kv,hV];rfl
  rw[hI.eF,Kv] at h1
  rw[Ty.last,List.getLast?_eq_getElem?,htt]
  cases hx:x.y.ts[nt]? with
  |none=>rw[hx] at h1;cases h1
  |some t=>rw[hx] at h1;exact Jj h1
 have hrt:=(dh hxo).1
 obtain⟨fa,hfa,hVc⟩:=hI.rF.rd.fv hV
 have hcf:=hI.cF
 rw[hnf] at hcf
 have hil:i<n:=by rw[<-hn];exact(J6.1 hi).1
 have i0:(0:Int)<=(i:Int):=by omega
 have i1:(i:Int)<(n:Int):=by omega
 have i2:decide ((i:Int)<0)=false:=by simp
 have huse:∀v:Int,(x.y.old:Int)<=v->v<(top:Int)->v∈q->u=true:=fun v h1 h2 h3=>by
  rw[<-hu,rc,List.any_eq_true]
  exact⟨v,h3,by simp[htop];omega⟩
 have hnouse:(∀v:Int,(x.y.old:Int)<=v->v<(top:Int)->v ∉ q)->u=false:=fun hh=>by
  rw[<-hu,rc,List.any_eq_false]
  intro v hv hc
  simp[htop] at hc
  exact hh v (by omega) (by omega) hv
 have hnms:x.y.s=nm:=by
  have h1:(X.map (·.y))[i]?=some x.y:=by rw[Kv,hi];rfl
  cases hg:ak (X.map (·.y)) nm with
  |none=>rw[fH hg] at hf;omega
  |some t=>
   obtain⟨j,e,ht⟩:=jS hg
   rw[hf] at e
   have hij:i=j:=by omega
   subst hij
   rw[h1] at ht
   cases ht
   exact(bQ hg).2
 have HN:=J0 hn;have HZ:=J0 hf;have HS:=J0 hsum;have HI:=J0 hi;have HNF:=J0 hnf;have HNT:=J0 hnt;have HH:=J0 h;have HIS:=J0 hI;have HTP:=J0 htop;have HLA:=J0 hlast;have HOK:=J0 hxo;have HFA:=J0 hfa;have HFT:=J0 hft;have HUS:=J0 huse;have HNU:=J0 hnouse;have HNL:=J0 hnl;have HV:=J0 hV;have HRT:=J0 hrt;have HNM:=J0 hnms
 have HB:=Jy w.heap.size w
 clear hn hf h hxo hfl htl htop hsum hi hnf hnt hlen hok hnd hxm hI hV hlast hrt hfa hft htt huse hnouse hnl hu hnms
 go_enter Tryz.func69,Tryz.ntmps69
 go_upto_region 4 with (go_at_call 42;refine(cS A c n X HN.out (by omega) nm _ HZ.out _ (hrow.below HB)).mono ?_;rintro e W3 ⟨rfl,hb⟩;replace HB:=HB.trans (hb.mono HB.size);clear hb)
 obtain⟨ad,rfl,c0,c1,c2,c3⟩:=(hrow.below HB).ty HI.out
 rw[HNF.out] at c2;rw[HNT.out] at c3
 rename EQ=>W3
 have nb:=aA (w:=W3) (.cells #[.string x.y.s,.int .i64 (x.y.old:Nat),.slice x.F nf x.f,.slice x.T nt x.t] 58)
 have P:=aD.new W3 [.string x.y.s,.int .i64 (x.y.old:Nat),.slice x.F nf x.f,.slice x.T nt x.t] 58
 go_upto_region 6 with fail
 have hz3:=HB.size
 generalize W3.alloc (.cells #[.string x.y.s,.int .i64 (x.y.old:Nat),.slice x.F nf x.f,.slice x.T nt x.t] 58)=W4 at *
 generalize W3.heap.size=pb at *
 clear c0 c1 c2 c3
 have HB0:=HB.trans (nb.mono hz3)
 have P0:=P
 clear HB P
 go_loopw [11] (fun iv wr=>∃k:Nat,k<=nl/\iv=.int .i64 k/\Below w.heap.size w wr/\aD wr pb [.string x.y.s,.int .i64 (x.y.old:Nat),.slice x.F nf x.f,.slice x.T nt x.t] 58/\Hid (∀(j:Nat) (y:Int),j<k->q[j]?=some y->¬((x.y.old:Int)<=y/\y<(top:Int)))) (fun iv _=>nl - (intOf iv).toNat)
 case atStart=>exact⟨0,by omega,rfl,HB0,P0,J0 (fun j y h=>by omega)⟩
 case round=>
  obtain⟨k,hk,rfl,HB,P,hall⟩:=hrel
  clear HB0 P0
  have hLr:=hL.below HB
  by_cases hlt:k<nl
  ·obtain⟨y,hy⟩:∃y,q[k]?=some y:=⟨_,J4 (by rw[HNL.out];exact hlt)⟩
   obtain⟨ld,rfl,hcell⟩:=Rd.num hLr hy
   have HY:=J0 hy
   have hj0:(0:Int)<=(k:Int):=by omega
   have hj1:(k:Int)<(nl:Int):=by omega
   have hc:∀W',Below wr.heap.size wr W'->W'.cell? (ld.add k)=some (.int .i64 y)/\W'.cell? ⟨pb,0,none⟩=some (.string x.y.s)/\W'.cell? ⟨pb,1,none⟩=some (.int .i64 (x.y.old:Nat))/\W'.cell? ⟨pb,2,none⟩=some (.slice x.F nf x.f)/\W'.cell? ⟨pb,3,none⟩=some (.slice x.T nt x.t):=fun W' hb=>by
    obtain⟨a0,a1,a2,a3⟩:=(P.below hb).f4
    exact⟨aE (B:=0) hb hcell,a0,a1,a2,a3⟩
   have HC:=J0 hc
   clear hy hLr hc hcell
   by_cases e1:(x.y.old:Int)<=y
   ·have d1:decide ((x.y.old:Int)<=y)=true:=by simpa using e1
    by_cases e2:y<(top:Int)
    ·have d2:decide (y<(top:Int))=true:=by simpa using e2
     have hut:u=true:=HUS.out y e1 e2 (J7 HY.out)
     go_upto_region 8 with fail
     refine RW.start (fun w'=>Below wr.heap.size wr w') (by kernel_rfl) (by kernel_rfl) (Jy _ _).drew ?_
     repeat (first
      |(refine' RW.val (by rfl) ?_ ?_;rotate_left;(focus (intro w' hS;have HB5:=hS;obtain⟨q0,a0,a1,a2,a3⟩:=HC.out _ HB5;clear hS;go_simp;rfl));simp only[Act.put,J1,J3,J2])
      |(refine RW.off (by rfl) ?_;simp only[Act.put,J1,J3,J2])
      |(refine' RW.call (by rfl) ?_ ?_ ?_
        rotate_left 3
        (focus (intro w' hS;have HB5:=hS;obtain⟨q0,a0,a1,a2,a3⟩:=HC.out _ HB5;clear hS;go_simp;exact⟨rfl,rfl⟩))
        (focus
          intro w' hS
          have HB5:=hS;obtain⟨q0,a0,a1,a2,a3⟩:=HC.out _ HB5;clear hS
          first
           |(refine(dO x.y.s x.y.old nf x.F x.f x.T nt x.t top HS.out (by omega) _).mono ?_;rintro e w1 ⟨rfl,hb⟩;exact⟨rfl,(aB HB5 hb)⟩))
        simp only[Act.put,J1,J3,J2]))
     refine RW.done (fun w' hS=>?_)
     have HB5:=hS;obtain⟨q0,a0,a1,a2,a3⟩:=HC.out _ HB5;clear hS
     go_wp2
     refine Xx (v:=.tuple #[.slice (some ad) n c,.int .i64 0,.int .i64 93]) (by simp[results,Tryz.results69,go_sem, *];done) rfl (.inl ⟨hut,rfl,HB.trans (HB5.mono HB.size)⟩)
    ·have d2:decide (y<(top:Int))=false:=by simpa using e2
     have hall2:Hid (∀(j:Nat) (y:Int),j<k+1->q[j]?=some y->¬((x.y.old:Int)<=y/\y<(top:Int))):=J0 (fun j z hj hz=>by
      rcases(by omega:j<k\/j=k) with h|rfl
      ·exact hall.out j z h hz
      ·rw[HY.out] at hz;cases hz;exact fun h=>e2 h.2)
     go_upto_region 8 with fail
     refine RW.start (fun w'=>Below wr.heap.size wr w') (by kernel_rfl) (by kernel_rfl) (Jy _ _).drew ?_
     repeat (first
      |(refine' RW.val (by rfl) ?_ ?_;rotate_left;(focus (intro w' hS;have HB5:=hS;obtain⟨q0,a0,a1,a2,a3⟩:=HC.out _ HB5;clear hS;go_simp;rfl));simp only[Act.put,J1,J3,J2])
      |(refine RW.off (by rfl) ?_;simp only[Act.put,J1,J3,J2])
      |(refine' RW.call (by rfl) ?_ ?_ ?_
        rotate_left 3
        (focus (intro w' hS;have HB5:=hS;obtain⟨q0,a0,a1,a2,a3⟩:=HC.out _ HB5;clear hS;go_simp;exact⟨rfl,rfl⟩))
        (focus
          intro w' hS
          have HB5:=hS;obtain⟨q0,a0,a1,a2,a3⟩:=HC.out _ HB5;clear hS
          first
           |(refine(dO x.y.s x.y.old nf x.F x.f x.T nt x.t top HS.out (by omega) _).mono ?_;rintro e w1 ⟨rfl,hb⟩;exact⟨rfl,(aB HB5 hb)⟩))
        simp only[Act.put,J1,J3,J2]))
     refine RW.done (fun w' hS=>?_)
     have HB5:=hS;obtain⟨q0,a0,a1,a2,a3⟩:=HC.out _ HB5;clear hS
     have P5:=P.below HB5
     have HB6:=HB.trans (HB5.mono HB.size)
     clear e1 e2 P HB hall HC
     go_wp2
     go_roundw
     case rel=>exact⟨k+1,by omega,by go_num,HB6,P5,hall2⟩
     case measure=>simp[intOf];omega
   ·have d1:decide ((x.y.old:Int)<=y)=false:=by simpa using e1
    have hall2:Hid (∀(j:Nat) (y:Int),j<k+1->q[j]?=some y->¬((x.y.old:Int)<=y/\y<(top:Int))):=J0 (fun j z hj hz=>by
     rcases(by omega:j<k\/j=k) with h|rfl
     ·exact hall.out j z h hz
     ·rw[HY.out] at hz;cases hz;exact fun h=>e1 h.1)
    go_upto_region 8 with fail
    refine RW.start (fun w'=>Below wr.heap.size wr w') (by kernel_rfl) (by kernel_rfl) (Jy _ _).drew ?_
    repeat (first
     |(refine' RW.val (by rfl) ?_ ?_;rotate_left;(focus (intro w' hS;have HB5:=hS;obtain⟨q0,a0,a1,a2,a3⟩:=HC.out _ HB5;clear hS;go_simp;rfl));simp only[Act.put,J1,J3,J2])
     |(refine RW.off (by rfl) ?_;simp only[Act.put,J1,J3,J2]))
    refine RW.done (fun w' hS=>?_)
    have HB5:=hS;obtain⟨q0,a0,a1,a2,a3⟩:=HC.out _ HB5;clear hS
    have P5:=P.below HB5
    have HB6:=HB.trans (HB5.mono HB.size)
    clear e1 P HB hall HC
    go_wp2
    go_roundw
    case rel=>exact⟨k+1,by omega,by go_num,HB6,P5,hall2⟩
    case measure=>simp[intOf];omega
  ·obtain rfl:k=nl:=by omega
   have huf:u=false:=HNU.out (fun v h1 h2 hv=>by
    obtain⟨j,hj⟩:=Qv.1 hv
    have hjl:=(J6.1 hj).1
    exact hall.out j v (by rw[<-HNL.out];exact hjl) hj ⟨h1,h2⟩)
   clear hall hLr
   obtain⟨p0,p1,p2,p3⟩:=P.f4
   go_upto_region 11 with fail
   clear p0 p1 p2 p3
   have hat:(nt:Int)<=(nf:Int):=by have:=HFT.out;omega
   have hat2:(nf:Int)<=(x.f:Int):=by omega
   have hat3:nt<=nf:=by omega
   have hat4:¬x.f=nt:=by have:=HFT.out;omega
   have hat5:nf - nt=1:=by have:=HFT.out;omega
   have hat6:nt<=x.f:=by omega
   have hall:∀W',Below wr.heap.size wr W'->W'.cell? ⟨pb,0,none⟩=some (.string x.y.s)/\W'.cell? ⟨pb,1,none⟩=some (.int .i64 (x.y.old:Nat))/\W'.cell? ⟨pb,2,none⟩=some (.slice (some fa) nf x.f)/\W'.cell? ⟨pb,3,none⟩=some (.slice x.T nt x.t)/\Below wr.heap.size wr W':=fun W' hb=>by
    obtain⟨a0,a1,a2,a3⟩:=(P.below hb).f4
    rw[HFA.out] at a2
    exact⟨a0,a1,a2,a3,hb⟩
   go_cut [13] (fun s13 wx=>∃ob,s13=.pointer (some ⟨ob,0,none⟩)/\aD wx ob [.string nm,.int .i64 (top:Nat),.slice (some (fa.add nt)) 1 (x.f - nt),.slice none 0 0] 58/\Below wr.heap.size wr wx)
   case first=>
    go_region_held3 (fun W'=>W'.cell? ⟨pb,0,none⟩=some (.string x.y.s)/\W'.cell? ⟨pb,1,none⟩=some (.int .i64 (x.y.old:Nat))/\W'.cell? ⟨pb,2,none⟩=some (.slice (some fa) nf x.f)/\W'.cell? ⟨pb,3,none⟩=some (.slice x.T nt x.t)/\Below wr.heap.size wr W') ((refine hall _ ?_;repeat (first|assumption|exact Jy _ _|refine J8 ?_ (by dsimp only;first|exact J9 _|omega) _|refine Jk ?_ (by first|exact J9 _|omega) _|apply Jv)))
     ((go_at_call 24;obtain⟨_,_,_,_,HBx⟩:=‹_/\_/\_/\_/\Below wr.heap.size wr _›;refine(dO x.y.s x.y.old nf (some fa) x.f x.T nt x.t top HS.out (by omega) _).mono ?_;rintro e W4 ⟨rfl,hb4⟩;have hzx:=HBx.size;have HB4:=aB HBx hb4;have hz4:=HB4.size;(first|(have PB:=aD.below (aD.new _ [.string ⟨#[]⟩,.int .i64 0,.slice none 0 0,.slice none 0 0] 58) hb4;obtain⟨b0,b1,b2,b3,g0,g1,g2,g3⟩:=PB.f8)|(have PB:=aD.newB (cs:=[.string ⟨#[]⟩,.int .i64 0,.slice none 0 0,.slice none 0 0]) hb4;obtain⟨b0,b1,b2,b3,g0,g1,g2,g3⟩:=PB.f8)|skip)))
    all_goals (go_wp2_with fail;go_meet)
    all_goals refine⟨_,rfl,?_,?_⟩
    all_goals first
     |exact aD.new _ _ _
     |exact aI (aI (aI (aI PB 0 _) 1 _) 2 _) 3 _
     |(repeat (first|assumption|exact Jy _ _|refine J8 ?_ (by dsimp only;first|exact J9 _|omega) _|refine Jk ?_ (by first|exact J9 _|omega) _|apply Jv))
   case rest=>
    obtain⟨ob,rfl,OP,hb5⟩:=hcut
    rename EQ=>W5
    have HB5:=HB.trans (hb5.mono HB.size)
    obtain⟨o0,o1,o2,o3⟩:=OP.f4
    obtain⟨x',hx'⟩:∃x':bk,x'=⟨uU x.y,some (fa.add nt),x.f - nt,none,0,[V],[]⟩:=⟨_,rfl⟩
    have hry:uU x.y=⟨nm,top,[bA V.l]⟩:=by rw[uU,HTP.out,HLA.out,HNM.out]
    have hwith:=wu (some ad) c n X HN.out (by omega) (by have h1:=HH.out.cap;have h2:=HN.out;omega) i hil x' 1 0 (by rw[hx'];rfl) (by rw[hx'];rfl) W5 (hrow.below HB5)
    have e4:([Value.string x'.y.s,.int .i64 (x'.y.old:Nat),.slice x'.F 1 x'.f,.slice x'.T 0 x'.t]:EO)=[.string nm,.int .i64 (top:Nat),.slice (some (fa.add nt)) 1 (x.f - nt),.slice none 0 0]:=by rw[hx'];show([Value.string (uU x.y).s,.int .i64 ((uU x.y).old:Nat),_,_]:EO)=_;rw[hry]
    have e5:(#[Value.string x'.y.s,.int .i64 (x'.y.old:Nat),.slice x'.F 1 x'.f,.slice x'.T 0 x'.t]:Array ER)=#[.string nm,.int .i64 (top:Nat),.slice (some (fa.add nt)) 1 (x.f - nt),.slice none 0 0]:=congrArg List.toArray e4
    rw[e5] at hwith
    have hwz:=HB5.size
    have hIs:∀Wf,Below W5.heap.size W5 Wf->x'.Is (fun g=>Q g\/w.heap.size<=g) Wf:=fun Wf hb=>by
     have HBf:=HB5.trans (hb.mono HB5.size)
     have hkn:(bA V.l).n=V.l:=by have:=HRT.out;rw[HLA.out] at this;rw[bx this]
     rw[hx',hry]
     refine⟨?_,(fun hne=>absurd rfl hne),fun v hv=>?_,(fun v hv=>by cases hv),?_,rfl,?_,fun _=>⟨rfl,rfl⟩⟩
     ·intro _
      obtain⟨fa',e,hP,hc⟩:=HIS.out.rF (by intro e;have h1:=HNF.out;have h2:=HFT.out;have:=congrArg List.length e;simp[bJ] at this;rw[this] at h1;simp at h1;omega)
      rw[HFA.out] at e
      cases e
      refine⟨fa.add nt,rfl,.inl (by have:(fa.add nt).block=fa.block:=by unfold Addr.add;split <;> rfl
                                    rw[this];exact hP),fun j y hj=>?_⟩
      rw[Addr.add_add]
      have hj0:j=0:=by
       have:=(J6.1 hj).1
       simp[bJ] at this
       exact this
      subst hj0
      rw[Nat.add_zero]
      have h1:(bJ x.fv)[nt]?=some y:=by
       rw[bJ,Kv,HV.out]
       simpa[bJ] using hj
      exact aE (B:=0) HBf (hc nt y h1)
     ·simp at hv;subst hv
      exact(HIS.out.fl v (J7 HV.out)).below HBf
     ·show[V.l]=[(bA V.l).n]
      rw[hkn]
     ·show 1<=x.f - nt
      omega
    have hxy:x'.y=uU x.y:=by rw[hx']
    have HWI:=J0 hwith;have HIX:=J0 hIs;have HXY:=J0 hxy
    clear hwith hIs hxy e4 e5 hx' hry OP
    go_wp2_with (go_at_call 103;refine HWI.out.mono ?_;rintro e W6 ⟨B,d,rfl,hd,rB,hb6⟩)
    refine Xx (v:=.tuple #[.slice B n d,.int .i64 (nt:Int),.int .i64 0]) (by simp[results,Tryz.results69,go_sem, *];done) rfl ?_
    exact .inr ⟨huf,B,d,x',rfl,hd,HXY.out,HIX.out _ hb6,rB,HB5.trans (hb6.mono HB5.size)⟩
theorem bZ.set {Q:Nat->Prop} {w w':EQ} {A B:EL} {c d n:Nat} {X:List bk} (h:bZ Q w A c X) (hn:X.length=n) {i:Nat} {x x':bk} (hi:X[i]?=some x) (hs:x'.y.s=x.y.s) (hnd:(X.map (·.y.s)).Nodup) (hx:x'.Is (fun g=>Q g\/w.heap.size<=g) w') (hr:Rd w' B (ac (X.set i x'))) (hd:n<=d) (hb:Below w.heap.size w w'):eP Q w (ik (X.map (·.y)) x'.y) w' B n d:=by
 refine⟨X.set i x',Ar hnd hi hs,by rw[List.length_set];exact hn,⟨hr,fun y hy=>?_,by rw[List.length_set,hn];exact hd,fun he=>?_⟩,hb⟩
 ·obtain⟨j,hj⟩:=Qv.1 hy
  by_cases hji:j=i
  ·subst hji
   rw[List.getElem?_set_self (by have:=(J6.1 hi).1;omega)] at hj
   obtain rfl:=Jj hj
   exact hx
  ·rw[Vz (by omega)] at hj
   exact((h.ty y (J7 hj)).below hb).mono (fun g hg=>.inl hg)
 ·have h1:=congrArg List.length he
  rw[List.length_set] at h1
  have:=(J6.1 hi).1
  simp at h1
  rw[h1] at this
  simp at this
theorem Wq.nds {X:List bk} (h:Wq (X.map (·.y))):(X.map (·.y.s)).Nodup:=by have:=h.nd;rw[List.map_map] at this;exact this
theorem Wq.oks {X:List bk} (h:Wq (X.map (·.y))):∀x∈X,x.y.Ok:=fun x hx=>h.ok x.y (Vy.2 ⟨x,hx,rfl⟩)
theorem ql {X:List bk} {nm:EP} {t:Ty} (hf:ak (X.map (·.y)) nm=some t):∃(i:Nat) (x:bk),X[i]?=some x/\x.y=t/\it (X.map (·.y)) nm=(i:Int):=by
 obtain⟨i,e,ht⟩:=jS hf
 rw[Kv] at ht
 cases hx:X[i]? with
 |none=>rw[hx] at ht;cases ht
 |some x=>rw[hx] at ht;exact⟨i,x,hx,Jj ht,e⟩
theorem yH {Q:Nat->Prop} {w:EQ} {A:EL} {c:Nat} {X:List bk} (h:bZ Q w A c X) (n:Nat) (hn:X.length=n) (hok:Wq (X.map (·.y))) (nm:EP) (K:EL) (cK nc:Nat) (cs:List (Ch×ER)) (hnc:cs.length=nc) (hk:nc<=9223372036854775807) (hw:∀p∈cs,wA p) (hK:Rd w K (bV cs)) (ho:∀p∈cs,ou w p) (q:Int) (hq:mA (X.map (·.y)) nm (cs.map (·.1))=q) (v:Nat) (hv:xj (X.map (·.y)) nm (cs.map (·.1))=v) (L':List Ty) (hL:uT (X.map (·.y)) nm (cs.map (·.1))=L'):
 Calls Tryz.prog 68 #[.slice A n c,.string nm,.slice K nc cK] w fun e w'=>∃B k d,e=.returned (.tuple #[.slice B k d,.int .i64 (v:Nat),.int .i64 q])/\eP Q w L' w' B k d:=by
 have h16:n<=16:=by have:=hok.len;rw[Kz,hn] at this;exact this
 have hst:∀r:Int,r≠0->mA (X.map (·.y)) nm (cs.map (·.1))=r->v=0/\L'=X.map (·.y):=fun r h1 h2=>⟨by rw[<-hv,xj,Xy (by omega)],by rw[<-hL,uT,Xy (by omega)]⟩
 cases hf:ak (X.map (·.y)) nm with
 |none=>
  have e:mA (X.map (·.y)) nm (cs.map (·.1))=90:=by rw[mA,hf]
  obtain⟨rfl,rfl⟩:=hst 90 (by decide) e
  rw[e] at hq
  subst hq
  refine(rO h n hn h16 hok.oks hok.nds nm (fH hf) K cK nc).mono ?_
  rintro e1 w' ⟨rfl,hb⟩
  exact⟨A,n,c,rfl,eP.stay h hn hb⟩
 |some t=>
  obtain⟨i,x,hi,rfl,hz⟩:=ql hf
  by_cases h64:64<=x.y.top
  ·have e:mA (X.map (·.y)) nm (cs.map (·.1))=91:=by rw[mA,hf];simp only;rw[Xz h64]
   obtain⟨rfl,rfl⟩:=hst 91 (by decide) e
   rw[e] at hq
   subst hq
   refine(rL h n hn h16 hok.oks hok.nds nm i hi hz h64 K cK nc).mono ?_
   rintro e1 w' ⟨rfl,hb⟩
   exact⟨A,n,c,rfl,eP.stay h hn hb⟩
  ·obtain⟨⟨T,r⟩,hT⟩:∃y,gb x.y.last (cs.map (·.1))=y:=⟨_,rfl⟩
   have e:mA (X.map (·.y)) nm (cs.map (·.1))=r:=by rw[mA,hf];simp only;rw[Xy h64,hT]
   rw[e] at hq
   subst hq
   refine(vV h n hn h16 hok.oks hok.nds nm i hi hz (by omega) K cK nc cs hnc hk hw hK ho T r hT).mono ?_
   rintro e1 w' (⟨hr,rfl,hb⟩|⟨rfl,B,d,x',rfl,hd,hx,hI,hrow,hb⟩)
   ·obtain⟨rfl,rfl⟩:=hst r hr e
    exact⟨A,n,c,rfl,eP.stay h hn hb⟩
   ·have hv2:v=x.y.top+1:=by rw[<-hv,xj,Xz e,hf]
    subst hv2
    refine⟨B,n,d,rfl,?_⟩
    have:=h.set hn hi (by rw[hx];rfl) hok.nds hI hrow hd hb
    rw[<-hL,uT,Xz e,hf]
    rw[hx] at this
    exact this
theorem yN {Q:Nat->Prop} {w:EQ} {A:EL} {c:Nat} {X:List bk} (h:bZ Q w A c X) (n:Nat) (hn:X.length=n) (hok:Wq (X.map (·.y))) (nm:EP) (L:EL) (cL nl:Nat) (q:List Int) (hnl:q.length=nl) (hl:nl<=9223372036854775807) (hL:Rd w L (aV q)) (qe:Int) (hqe:mN (X.map (·.y)) nm q=qe) (v:Nat) (hv:wn (X.map (·.y)) nm q=v) (L':List Ty) (hLL:rp (X.map (·.y)) nm q=L'):
 Calls Tryz.prog 69 #[.slice A n c,.string nm,.slice L nl cL] w fun e w'=>∃B k d,e=.returned (.tuple #[.slice B k d,.int .i64 (v:Nat),.int .i64 qe])/\eP Q w L' w' B k d:=by
 have h16:n<=16:=by have:=hok.len;rw[Kz,hn] at this;exact this
 have hst:∀r:Int,r≠0->mN (X.map (·.y)) nm q=r->v=0/\L'=X.map (·.y):=fun r h1 h2=>⟨by rw[<-hv,wn,Xy (by omega)],by rw[<-hLL,rp,Xy (by omega)]⟩
 cases hf:ak (X.map (·.y)) nm with
 |none=>
  have e:mN (X.map (·.y)) nm q=90:=by rw[mN,hf]
  obtain⟨rfl,rfl⟩:=hst 90 (by decide) e
  rw[e] at hqe
  subst hqe
  refine(rV h n hn h16 hok.oks hok.nds nm (fH hf) L cL nl).mono ?_
  rintro e1 w' ⟨rfl,hb⟩
  exact⟨A,n,c,rfl,eP.stay h hn hb⟩
 |some t=>
  obtain⟨i,x,hi,rfl,hz⟩:=ql hf
  obtain⟨u,hu⟩:∃u,rc x.y q=u:=⟨_,rfl⟩
  refine(vh h n hn h16 hok.oks hok.nds nm i hi hz L cL nl q hnl hl hL u hu).mono ?_
  rintro e1 w' (⟨rfl,rfl,hb⟩|⟨rfl,B,d,x',rfl,hd,hx,hI,hrow,hb⟩)
  ·have e:mN (X.map (·.y)) nm q=93:=by rw[mN,hf];simp only;rw[Xz hu]
   obtain⟨rfl,rfl⟩:=hst 93 (by decide) e
   rw[e] at hqe
   subst hqe
   exact⟨A,n,c,rfl,eP.stay h hn hb⟩
  ·have e:mN (X.map (·.y)) nm q=0:=by rw[mN,hf];simp only;rw[Xy (by rw[hu];decide)]
   have hv2:v=x.y.ts.length - 1:=by rw[<-hv,wn,Xz e,hf]
   subst hv2
   rw[e] at hqe
   subst hqe
   refine⟨B,n,d,rfl,?_⟩
   have:=h.set hn hi (by rw[hx];rfl) hok.nds hI hrow hd hb
   rw[<-hLL,rp,Xz e,hf]
   rw[hx] at this
   exact this
def uF (L:List Ty) (o:CF):List Ty:=if o.k=0 then oL L o.s o.fs else wQ L o
theorem DZ {Q:Nat->Prop} {w:EQ} {A:EL} {c:Nat} {X:List bk} (h:bZ Q w A c X) (n:Nat) (hn:X.length=n) (hok:Wq (X.map (·.y))) (x:lA) (hG:x.G w) (hS:x.S) (nf nc nl:Nat) (hnf:x.fs.length=nf) (hnc:x.cs.length=nc) (hnl:x.live.length=nl)
 (q:Int) (hq:zN (X.map (·.y)) x.z=q) (v:Nat) (hv:zO (X.map (·.y)) x.z=v) (L':List Ty) (hL:uF (X.map (·.y)) x.z=L'):
 Calls Tryz.prog 36 #[.slice A n c,.agg #[.int .i64 x.k,.string x.s,.slice x.A nf x.a,.slice x.C nc x.c,.slice x.L nl x.l]] w fun e w'=>∃B k d,e=.returned (.tuple #[.slice B k d,.int .i64 (v:Nat),.int .i64 q])/\eP Q w L' w' B k d:=by
 have h16:n<=16:=by have:=hok.len;rw[Kz,hn] at this;exact this
 obtain⟨x1,x2,x3,x4,x5,x6,x7,x8,x9,x10⟩:=hG
 obtain⟨s1,s2,s3,s4,s5,s6⟩:=hS
 have nb:=aA (w:=w) (.cells #[.int .i64 x.k,.string x.s,.slice x.A nf x.a,.slice x.C nc x.c,.slice x.L nl x.l] 31)
 have P:=aD.new w [.int .i64 x.k,.string x.s,.slice x.A nf x.a,.slice x.C nc x.c,.slice x.L nl x.l] 31
 have h1:=h.below nb
 have y4:=x4.below nb
 have y6:=x6.below nb
 have y8:∀p∈x.cs,ou (w.alloc (.cells #[.int .i64 x.k,.string x.s,.slice x.A nf x.a,.slice x.C nc x.c,.slice x.L nl x.l] 31)) p:=fun p hp=>(x8 p hp).2.2.below nb
 have y9:=x9.below nb
 have hw:∀p∈x.cs,wA p:=fun p hp=>⟨(x8 p hp).1,(x8 p hp).2.1,(s4 p hp).2.2.2,(s4 p hp).2.1⟩
 have hfs:mU x.fs:=fun f hf=>s2 f hf
 have hsz:x.s.size<=9223372036854775807:=by simp only[maxLen] at x3;omega
 rw[hnf] at x5 s3;rw[hnc] at x7 s5;rw[hnl] at x10 s6
 have hzz:w.heap.size<=(w.alloc (.cells #[.int .i64 x.k,.string x.s,.slice x.A nf x.a,.slice x.C nc x.c,.slice x.L nl x.l] 31)).heap.size:=nb.size
 have fin:∀(w':EQ) (B:EL) (k d:Nat),eP Q (w.alloc (.cells #[.int .i64 x.k,.string x.s,.slice x.A nf x.a,.slice x.C nc x.c,.slice x.L nl x.l] 31)) L' w' B k d->eP Q w L' w' B k d:=fun w' B k d ⟨X',h1,h2,h3,h4⟩=>⟨X',h1,h2,h3.mono (fun g hg=>hg.imp id (fun h=>Q7 hzz h)),nb.trans (h4.mono hzz)⟩
 have FIN:=J0 fin
 obtain⟨p0,p1,p2,p3,p4⟩:=P.f5
 clear nb P x4 x6 x8 x9 hzz fin h
 obtain⟨kk,hkk⟩:∃kk,x.k=kk:=⟨_,rfl⟩
 have hz:x.z.k=kk:=hkk
 simp only[hkk] at h1 y4 y6 y8 y9 p0 p1 p2 p3 p4 FIN |-
 unfold zN at hq
 unfold zO at hv
 unfold uF at hL
 rw[hz] at hq hv hL
 have HOK:=J0 hok;have HNF:=J0 hnf;have HNC:=J0 hnc;have HNL:=J0 hnl;have HN:=J0 hn
 clear hkk hok hnf hnc hnl hn
 by_cases k0:kk=0
 ·subst k0
  rw[Xz rfl] at hq hv hL
  subst hv
  have HQ:=J0 hq;have HL:=J0 hL
  clear hq hL p3 p4 hz
  go_enter Tryz.func36,Tryz.ntmps36
  go_upto_region 1 with fail
  generalize w.alloc (.cells #[.int .i64 0,.string x.s,.slice x.A nf x.a,.slice x.C nc x.c,.slice x.L nl x.l] 31)=W1 at *
  generalize w.heap.size=pb at *
  go_wp2_with (go_at_call 67;refine(yI h1 n HN.out h16 x.s hsz x.A x.a nf x.fs HNF.out (by omega) hfs y4 q HQ.out L' HL.out).mono ?_;rintro e w2 ⟨B,k,d,rfl,hc⟩)
  refine Xx (v:=.tuple #[.slice B k d,.int .i64 0,.int .i64 q]) (by simp[results,Tryz.results36,go_sem, *];done) rfl ⟨B,k,d,rfl,FIN.out _ _ _ _ hc⟩
 rw[Xy k0] at hq hv hL
 unfold wQ at hL
 rw[hz,Xy k0] at hL
 have e0:(kk == 0)=false:=by simpa using k0
 by_cases k1:kk=1
 ·subst k1
  rw[Xz rfl] at hq hv hL
  have HQ:=J0 hq;have HL:=J0 hL;have HV:=J0 hv
  clear hq hL hv p2 p4 k0 hz
  go_enter Tryz.func36,Tryz.ntmps36
  go_upto_region 1 with fail
  generalize w.alloc (.cells #[.int .i64 1,.string x.s,.slice x.A nf x.a,.slice x.C nc x.c,.slice x.L nl x.l] 31)=W1 at *
  generalize w.heap.size=pb at *
  go_wp2_with (go_at_call 68;refine(yH h1 n HN.out HOK.out x.s x.C x.c nc x.cs HNC.out (by omega) hw y6 y8 q HQ.out v HV.out L' HL.out).mono ?_;rintro e w2 ⟨B,k,d,rfl,hc⟩)
  refine Xx (v:=.tuple #[.slice B k d,.int .i64 (v:Nat),.int .i64 q]) (by simp[results,Tryz.results36,go_sem, *];done) rfl ⟨B,k,d,rfl,FIN.out _ _ _ _ hc⟩
 rw[Xy k1] at hq hv hL
 have e1:(kk == 1)=false:=by simpa using k1
 by_cases k2:kk=2
 ·subst k2
  rw[Xz rfl] at hq hv hL
  have HQ:=J0 hq;have HL:=J0 hL;have HV:=J0 hv
  clear hq hL hv p2 p3 k0 k1 hz
  go_enter Tryz.func36,Tryz.ntmps36
  go_upto_region 1 with fail
  generalize w.alloc (.cells #[.int .i64 2,.string x.s,.slice x.A nf x.a,.slice x.C nc x.c,.slice x.L nl x.l] 31)=W1 at *
  generalize w.heap.size=pb at *
  go_wp2_with (go_at_call 69;refine(yN h1 n HN.out HOK.out x.s x.L x.l nl x.live HNL.out (by omega) y9 q HQ.out v HV.out L' HL.out).mono ?_;rintro e w2 ⟨B,k,d,rfl,hc⟩)
  refine Xx (v:=.tuple #[.slice B k d,.int .i64 (v:Nat),.int .i64 q]) (by simp[results,Tryz.results36,go_sem, *];done) rfl ⟨B,k,d,rfl,FIN.out _ _ _ _ hc⟩
 ·rw[Xy k2] at hq hv hL
  have e2:(kk == 2)=false:=by simpa using k2
  subst hq hv hL
  have hc:eP Q w (X.map (·.y)) (w.alloc (.cells #[.int .i64 kk,.string x.s,.slice x.A nf x.a,.slice x.C nc x.c,.slice x.L nl x.l] 31)) A n c:=FIN.out _ _ _ _ (eP.stay h1 HN.out (Jy _ _))
  clear p1 p2 p3 p4 hz
  go_enter Tryz.func36,Tryz.ntmps36
  go_upto_region 1 with fail
  generalize w.alloc (.cells #[.int .i64 kk,.string x.s,.slice x.A nf x.a,.slice x.C nc x.c,.slice x.L nl x.l] 31)=W1 at *
  generalize w.heap.size=pb at *
  go_wp2
  refine Xx (v:=.tuple #[.slice A n c,.int .i64 0,.int .i64 0]) (by simp[results,Tryz.results36,go_sem, *];done) rfl ⟨A,n,c,rfl,hc⟩
theorem rS {Q:Nat->Prop} {w:EQ} {A:EL} {c:Nat} {X:List bk} (h:bZ Q w A c X) (n:Nat) (hn:X.length=n) (hok:Wq (X.map (·.y))) (nm:EP) (hz:it (X.map (·.y)) nm=-1) (v:Int):
 Calls Tryz.prog 40 #[.slice A n c,.string nm,.int .i64 v] w fun e w'=>e=.returned (.tuple #[.slice none 0 0,.int .i64 90])/\Below w.heap.size w w':=by
 have h16:n<=16:=by have:=hok.len;rw[Kz,hn] at this;exact this
 have hrow:=h.row
 have HN:=J0 hn;have HZ:=J0 hz
 have HB:=Jy w.heap.size w
 clear hn hz h hok
 go_enter Tryz.func40,Tryz.ntmps40
 go_wp2_with (go_at_call 42;refine(cS A c n X HN.out (by omega) nm _ HZ.out _ (hrow.below HB)).mono ?_;rintro e W3 ⟨rfl,hb⟩;replace HB:=HB.trans (hb.mono HB.size);clear hb)
 refine Xx (v:=.tuple #[.slice none 0 0,.int .i64 90]) (by simp[results,Tryz.results40,go_sem, *];done) rfl ⟨rfl,HB⟩
theorem vZ {Q:Nat->Prop} {w:EQ} {A:EL} {c:Nat} {X:List bk} (h:bZ Q w A c X) (n:Nat) (hn:X.length=n) (hok:Wq (X.map (·.y))) (nm:EP) {x:bk} (i:Nat) (hi:X[i]?=some x) (hf:it (X.map (·.y)) nm=(i:Int)) (v:Int) (q:Int) (l:List Fd) (m:Nat) (hm:l.length=m) (hv:(q=90/\l=[]/\(v<(x.y.old:Int)\/(x.y.top:Int)<v))\/(q=0/\∃(k:Nat) (t:Tb),v=((x.y.old+k:Nat):Int)/\x.y.ts[k]?=some t/\t.n=l)):
 Calls Tryz.prog 40 #[.slice A n c,.string nm,.int .i64 v] w fun e w'=>∃B b,e=.returned (.tuple #[.slice B m b,.int .i64 q])/\Rd w' B (aC l)/\Below w.heap.size w w':=by
 have h16:n<=16:=by have:=hok.len;rw[Kz,hn] at this;exact this
 have hrow:=h.row
 have hxm:=J7 hi
 have hxo:=hok.oks x hxm
 have hI:=h.ty x hxm
 obtain⟨hfl,htl⟩:=hI.len
 obtain⟨nf,hnf⟩:∃m,x.fv.length=m:=⟨_,rfl⟩
 obtain⟨nt,hnt⟩:∃m,x.tv.length=m:=⟨_,rfl⟩
 obtain⟨top,htop⟩:∃m,x.y.top=m:=⟨_,rfl⟩
 obtain⟨old,hold⟩:∃m,x.y.old=m:=⟨_,rfl⟩
 have hlen:0<x.y.ts.length:=by cases hx:x.y.ts with|nil=>exact absurd hx hxo.ne|cons a r=>simp
 have hsum:x.y.old+nf=top+1:=by have h2:x.y.top=x.y.old+x.y.ts.length - 1:=rfl;omega
 have hhi:top<=64:=by have:=hxo.hi;omega
 have hil:i<n:=by rw[<-hn];exact(J6.1 hi).1
 have i0:(0:Int)<=(i:Int):=by omega
 have i1:(i:Int)<(n:Int):=by omega
 have i2:decide ((i:Int)<0)=false:=by simp
 have hcells:∀W',Below w.heap.size w W'->∃ad,A=some ad/\W'.cell? (ad.add (i * 4))=some (.string x.y.s)/\W'.cell? ⟨(ad.add (i * 4)).block,(ad.add (i * 4)).off+(0+1),none⟩=some (.int .i64 (x.y.old:Nat))/\W'.cell? ⟨(ad.add (i * 4)).block,(ad.add (i * 4)).off+(1+1),none⟩=some (.slice x.F nf x.f)/\W'.cell? ⟨(ad.add (i * 4)).block,(ad.add (i * 4)).off+(2+1),none⟩=some (.slice x.T nt x.t):=fun W' hb=>by
  have:=(hrow.below hb).ty hi
  rw[hnf,hnt] at this
  exact this
 obtain⟨ad,had,_⟩:=hcells w (Jy _ _)
 subst had
 have hc4:∀W',Below w.heap.size w W'->W'.cell? (ad.add (i * 4))=some (.string x.y.s)/\W'.cell? ⟨(ad.add (i * 4)).block,(ad.add (i * 4)).off+(0+1),none⟩=some (.int .i64 (x.y.old:Nat))/\W'.cell? ⟨(ad.add (i * 4)).block,(ad.add (i * 4)).off+(1+1),none⟩=some (.slice x.F nf x.f)/\W'.cell? ⟨(ad.add (i * 4)).block,(ad.add (i * 4)).off+(2+1),none⟩=some (.slice x.T nt x.t):=fun W' hb=>by
  obtain⟨ad',e,q⟩:=hcells W' hb
  cases e
  exact q
 have HN:=J0 hn;have HZ:=J0 hf;have HS:=J0 hsum;have HC:=J0 hc4;have HNF:=J0 hnf;have HIS:=J0 hI;have HM:=J0 hm
 have HB:=Jy w.heap.size w
 obtain⟨A0,hA0⟩:∃A0:EL,A0=some ad:=⟨_,rfl⟩
 clear hn hf hxo hfl htl hsum hi hnf hnt hlen hok hxm hI h hcells hc4 hm hA0
 rcases hv with ⟨rfl,rfl,hv⟩|⟨rfl,k,t,rfl,hk,rfl⟩
 ·obtain rfl:m=0:=HM.out.symm
  rw[htop,hold] at hv
  by_cases h1:v<(old:Int)
  ·have d1:decide (v<(old:Int))=true:=by simpa using h1
   clear hv htop
   go_enter Tryz.func40,Tryz.ntmps40
   go_upto_region 2 with (go_at_call 42;refine(cS (some ad) c n X HN.out (by omega) nm _ HZ.out _ (hrow.below HB)).mono ?_;rintro e W3 ⟨rfl,hb⟩;replace HB:=HB.trans (hb.mono HB.size);clear hb)
   obtain⟨c0,c1,c2,c3⟩:=HC.out _ HB
   rw[hold] at c1
   go_wp2
   refine Xx (v:=.tuple #[.slice none 0 0,.int .i64 90]) (by simp[results,Tryz.results40,go_sem, *];done) rfl ⟨none,0,rfl,Rd.nil _ _,HB⟩
  ·have d1:decide (v<(old:Int))=false:=by simpa using h1
   have d2:decide ((top:Int)<v)=true:=by
    rcases hv with h2|h2
    ·exact absurd h2 h1
    ·simpa using h2
   clear hv htop
   go_enter Tryz.func40,Tryz.ntmps40
   go_upto_region 2 with (go_at_call 42;refine(cS (some ad) c n X HN.out (by omega) nm _ HZ.out _ (hrow.below HB)).mono ?_;rintro e W3 ⟨rfl,hb⟩;replace HB:=HB.trans (hb.mono HB.size);clear hb)
   obtain⟨c0,c1,c2,c3⟩:=HC.out _ HB
   rw[hold] at c1
   go_wp2_with (go_at_call 24;refine(dO x.y.s old nf x.F x.f x.T nt x.t top (by have:=HS.out;omega) (by omega) _).mono ?_;rintro e W4 ⟨rfl,hb⟩;replace HB:=HB.trans (hb.mono HB.size);clear hb)
   refine Xx (v:=.tuple #[.slice none 0 0,.int .i64 90]) (by simp[results,Tryz.results40,go_sem, *];done) rfl ⟨none,0,rfl,Rd.nil _ _,HB⟩
 ·obtain⟨V,hV⟩:∃V,x.fv[k]?=some V:=by
   have h1:=congrArg List.length HIS.out.eF
   rw[Kz,Kz] at h1
   exact⟨_,J4 (by have:=(J6.1 hk).1;omega)⟩
  have hVl:V.l=t.n:=by
   have h1:(x.fv.map (·.l))[k]?=some V.l:=by rw[Kv,hV];rfl
   rw[HIS.out.eF,Kv,hk] at h1
   exact(Jj h1).symm
  have hkn:k<nf:=by rw[<-HNF.out];exact(J6.1 hV).1
  obtain⟨fa,hfa,hVc⟩:=HIS.out.rF.rd.fv hV
  have hVr:=HIS.out.fl V (J7 hV)
  rw[hVl,HM.out] at hVc
  rw[hVl] at hVr
  rw[hold]
  obtain⟨v,hv⟩:∃v:Int,((old+k:Nat):Int)=v:=⟨_,rfl⟩
  rw[hv]
  have hs:=HS.out
  have d1:decide (v<(old:Int))=false:=by simp;omega
  have d2:decide ((top:Int)<v)=false:=by simp;omega
  have hw1:IntKind.i64.wrap (v - (old:Int))=(k:Int):=(Xj _ (by omega)).trans (by omega)
  have k0:(0:Int)<=(k:Int):=by omega
  have k1:(k:Int)<(nf:Int):=by omega
  have hc6:∀W',Below w.heap.size w W'->W'.cell? (ad.add (i * 4))=some (.string x.y.s)/\W'.cell? ⟨(ad.add (i * 4)).block,(ad.add (i * 4)).off+(0+1),none⟩=some (.int .i64 (old:Nat))/\W'.cell? ⟨(ad.add (i * 4)).block,(ad.add (i * 4)).off+(1+1),none⟩=some (.slice (some fa) nf x.f)/\W'.cell? ⟨(ad.add (i * 4)).block,(ad.add (i * 4)).off+(2+1),none⟩=some (.slice x.T nt x.t)/\W'.cell? (fa.add k)=some (.slice V.A m V.a):=fun W' hb=>by
   obtain⟨a0,a1,a2,a3⟩:=HC.out W' hb
   rw[hold] at a1
   rw[hfa] at a2
   exact⟨a0,a1,a2,a3,aE (B:=0) hb hVc⟩
  have HC6:=J0 hc6
  clear hV hVl hVc hfa hk hv hs hc6 htop
  go_enter Tryz.func40,Tryz.ntmps40
  go_upto_region 2 with (go_at_call 42;refine(cS (some ad) c n X HN.out (by omega) nm _ HZ.out _ (hrow.below HB)).mono ?_;rintro e W3 ⟨rfl,hb⟩;replace HB:=HB.trans (hb.mono HB.size);clear hb)
  obtain⟨c0,c1,c2,c3,c4⟩:=HC6.out _ HB
  go_upto_region 4 with (go_at_call 24;refine(dO x.y.s old nf (some fa) x.f x.T nt x.t top (by have:=HS.out;omega) (by omega) _).mono ?_;rintro e W4 ⟨rfl,hb⟩;replace HB:=HB.trans (hb.mono HB.size);clear hb c0 c1 c2 c3 c4)
  refine RW.start (fun w'=>Below w.heap.size w w') (by kernel_rfl) (by kernel_rfl) HB.drew ?_
  repeat (first
   |(refine' RW.val (by rfl) ?_ ?_;rotate_left;(focus (intro w' hS;have HB5:=hS;obtain⟨c0,c1,c2,c3,c4⟩:=HC6.out _ HB5;clear hS;go_simp;rfl));simp only[Act.put,J1,J3,J2])
   |(refine RW.off (by rfl) ?_;simp only[Act.put,J1,J3,J2]))
  refine RW.done (fun w' hS=>?_)
  have HB5:=hS;obtain⟨c0,c1,c2,c3,c4⟩:=HC6.out _ HB5;clear hS
  go_wp2
  refine Xx (v:=.tuple #[.slice V.A m V.a,.int .i64 0]) (by simp[results,Tryz.results40,go_sem, *];done) rfl ⟨V.A,V.a,rfl,hVr.below HB5,HB5⟩
theorem yJ {Q:Nat->Prop} {w:EQ} {A:EL} {c:Nat} {X:List bk} (h:bZ Q w A c X) (n:Nat) (hn:X.length=n) (hok:Wq (X.map (·.y))) (nm:EP) (v:Int) (q:Int) (hq:pG (X.map (·.y)) nm v=q) (l:List Fd) (hl:fldL (X.map (·.y)) nm v=l) (m:Nat) (hm:l.length=m):
 Calls Tryz.prog 40 #[.slice A n c,.string nm,.int .i64 v] w fun e w'=>∃B b,e=.returned (.tuple #[.slice B m b,.int .i64 q])/\Rd w' B (aC l)/\Below w.heap.size w w':=by
 cases hf:ak (X.map (·.y)) nm with
 |none=>
  have hvt:ct (X.map (·.y)) nm v=none:=by rw[ct,hf];rfl
  rw[pG,hvt] at hq;rw[fldL,hvt] at hl
  subst hq hl hm
  refine(rS h n hn hok nm (fH hf) v).mono ?_
  rintro e w' ⟨rfl,hb⟩
  exact⟨none,0,rfl,Rd.nil _ _,hb⟩
 |some t=>
  obtain⟨i,x,hi,rfl,hz⟩:=ql hf
  have hxo:=hok.oks x (J7 hi)
  have hvt:ct (X.map (·.y)) nm v=oZ x.y v:=by rw[ct,hf];rfl
  rw[pG,hvt] at hq;rw[fldL,hvt] at hl
  refine vZ h n hn hok nm i hi hz v q l m hm ?_
  cases ht:oZ x.y v with
  |none=>
   rw[ht] at hq hl
   exact .inl ⟨hq.symm,hl.symm,(oa hxo).1 ht⟩
  |some y=>
   rw[ht] at hq hl
   obtain⟨k,e,hk,_⟩:=kL ht
   exact .inr ⟨hq.symm,k,y,e,hk,hl⟩
theorem kA {L D:List Ty} (hp:L.Perm D) (hn:(D.map (·.s)).Nodup) (nm:EP):ak L nm=ak D nm:=by
 cases hf:ak D nm with
 |none=>
  cases hg:ak L nm with
  |none=>rfl
  |some t=>
   obtain⟨ht,hs⟩:=bQ hg
   exact absurd hs (df hf t (hp.subset ht))
 |some t=>
  obtain⟨ht,hs⟩:=bQ hf
  cases hg:ak L nm with
  |none=>exact absurd hs (df hg t (hp.symm.subset ht))
  |some u=>
   obtain⟨hu,hs2⟩:=bQ hg
   have huD:=hp.subset hu
   obtain⟨i,hi⟩:=Qv.1 ht
   obtain⟨j,hj⟩:=Qv.1 huD
   have a1:(D.map (·.s))[i]?=some nm:=by rw[Kv,hi];exact congrArg some hs
   have a2:(D.map (·.s))[j]?=some nm:=by rw[Kv,hj];exact congrArg some hs2
   have hij:=(List.getElem?_inj (J6.1 a1).1 hn).1 (a1.trans a2.symm)
   subst hij
   rw[hi] at hj
   exact hj.symm▸rfl
def ip (d:Vl) (f:Fd):EN:=if aM d.k d.b d.t f.k f.l=true then Go.Proofs.YteembinfgbapgaaGreat.cR d.b d.t f.k f.l else[]
def xz (m:Mv) (f:Fd):EN:=(if m.f=-1 then[255] else dG m.f 1)++ip m.d f
def nk (t:Tb) (i:Nat):EN:=match t.m[i]?,t.n[i]? with
 |some m,some f=>xz m f
 |_,_=>[]
def iR (t:Tb) (k:Nat):EN:=(List.range k).flatMap (nk t)
def kW (fs:List Fd):EN:=dG (kN fs).length 2++kN fs
def oc (k:Nat) (t:Tb):EN:=kW t.n++(if k=0 then[] else iR t t.m.length)
def gk (y:Ty) (i:Nat):EN:=match y.ts[i]? with
 |some t=>oc i t
 |none=>[]
def eG (y:Ty) (k:Nat):EN:=(List.range k).flatMap (gk y)
def jm (y:Ty):EN:=dG y.s.size 1++bl y.s++(dG y.old 1++dG y.top 1)
def AU (y:Ty):EN:=jm y++eG y y.ts.length
def fX (L:List Ty) (k:Nat):EN:=(L.take k).flatMap AU
def eL (L:List Ty):EN:=dG L.length 1++fX L L.length
theorem gx (t:Tb) (k:Nat):iR t (k+1)=iR t k++nk t k:=by simp[iR,List.range_succ]
theorem ic (y:Ty) (k:Nat):eG y (k+1)=eG y k++gk y k:=by simp[eG,List.range_succ]
theorem lX {L:List Ty} {k:Nat} {y:Ty} (h:L[k]?=some y):fX L (k+1)=fX L k++AU y:=by
 rw[fX,Vv,h];simp[fX]
theorem pq (t:Tb):iR t 0=[]:=rfl
theorem oe (y:Ty):eG y 0=[]:=rfl
theorem lY (L:List Ty):fX L 0=[]:=by simp[fX]
theorem Cw (k:Int):gH k<=8:=by
 unfold gH
 (repeat' split) <;> omega
theorem BL {k l:Int}:aT k l<=64:=by
 by_cases hk:k=12
 ·subst hk
  unfold aT bW
  rw[Xz rfl,Xz rfl]
  split
  ·rename_i h;exact(br.1 h).2
  ·omega
 ·unfold aT
  rw[Xy hk]
  have:=Cw k
  split <;> omega
theorem lD (d:Vl) (f:Fd):(ip d f).length<=64:=by
 unfold ip
 split
 ·rename_i h
  have:=nS h
  have:=@BL f.k f.l
  omega
 ·simp
theorem BP (m:Mv) (f:Fd):(xz m f).length<=65:=by
 have:=lD m.d f
 unfold xz
 split <;> simp[aX] <;> omega
theorem qn {α:Type} (l:List α) (F:α->EN) (b:Nat) (h:∀x∈l,(F x).length<=b):(l.flatMap F).length<=l.length * b:=by
 induction l with
 |nil=>simp
 |cons x r ih=>
  have h1:=h x List.mem_cons_self
  have h2:=ih (fun y hy=>h y (List.mem_cons_of_mem _ hy))
  rw[List.flatMap_cons,Vq,Xq,Nat.add_mul]
  omega
theorem zr (t:Tb) (i:Nat):(nk t i).length<=65:=by
 unfold nk
 split
 ·exact BP _ _
 ·simp
theorem tV (t:Tb) (k:Nat):(iR t k).length<=k * 65:=by
 have:=qn (List.range k) (nk t) 65 (fun x _=>zr t x)
 rw[List.length_range] at this
 exact this
theorem mj (fs:List Fd):(kN fs).length<=289:=by
 unfold kN
 split
 ·rename_i h
  have h1:=(aQ h).2
  have h2:=ir fs (fun f hf=>by
   obtain⟨k,hk⟩:=Qv.1 hf
   have h3:=(lQ h hk).1
   unfold bI at h3
   rw[Qz] at h3
   exact(Yv h3.2).2)
  simp only[eQ,Xq]
  omega
 ·simp
theorem kX (fs:List Fd):(kW fs).length<=291:=by
 have:=mj fs
 simp[kW,aX];omega
theorem AN {k:Nat} {t:Tb} (h:t.m.length<=16):(oc k t).length<=1331:=by
 have h1:=kX t.n
 have h2:=tV t t.m.length
 unfold oc
 split <;> simp <;> omega
theorem vr {y:Ty} (h:y.Ok) (i:Nat):(gk y i).length<=1331:=by
 unfold gk
 split
 ·rename_i t ht
  exact AN (bN (h.ok t (J7 ht)).r).2.2
 ·simp
theorem lW {y:Ty} (h:y.Ok) (k:Nat):(eG y k).length<=k * 1331:=by
 have:=qn (List.range k) (gk y) 1331 (fun x _=>vr h x)
 rw[List.length_range] at this
 exact this
theorem pk {y:Ty} (h:y.Ok):(jm y).length<=18:=by
 have h1:=h.nm
 unfold bI at h1
 rw[Qz] at h1
 have h2:=Yv h1.2
 simp[jm,aX,aZ];omega
theorem Ty.Ok.len64 {y:Ty} (h:y.Ok):y.ts.length<=64:=by
 have h1:=h.hi
 have h2:=h.lo
 have h3:y.top=y.old+y.ts.length - 1:=rfl
 omega
theorem CA {y:Ty} (h:y.Ok):(AU y).length<=85202:=by
 have h1:=pk h
 have h2:=lW h y.ts.length
 have h3:=h.len64
 simp only[AU,Vq]
 omega
theorem kt {L:List Ty} (h:∀y∈L,y.Ok) (h16:L.length<=16) (k:Nat):(fX L k).length<=1363232:=by
 have h1:=qn (L.take k) AU 85202 (fun y hy=>CA (h y (List.mem_of_mem_take hy)))
 have h2:(L.take k).length<=16:=by rw[Qx];omega
 unfold fX
 omega
theorem nR {o:List Fd} {g:Fd} {m:Mv} (h:eW o g m=true) (hf:m.f≠-1):ip m.d g=[]:=by
 obtain⟨h0,hd,f,hof,hc⟩:=gD hf h
 rw[ip,Xy]
 rw[hd]
 intro hr
 have:=bg hr
 have h2:=this.1
 unfold aM at hr
 simp only[Qz,Y8] at hr
 have h3:(0:Int)=g.k:=hr.1.1.2
 rw[<-h3] at h2
 simp[bW,gH] at h2
theorem au.take {P:Nat->Prop} {w:EQ} {A:EL} {cs:EO} (h:au P w A cs) (n:Nat):au P w A (cs.take n):=fun hn=>by
 obtain⟨ad,e,hp,hc⟩:=h (by intro e;rw[e] at hn;simp at hn)
 refine⟨ad,e,hp,fun j u hj=>hc j u ?_⟩
 rw[X7] at hj
 split at hj
 ·exact hj
 ·cases hj
theorem qS (vk bits:Int) (tx s:EP) (k l:Int) (h0:0<=bits) (h1:bits<18446744073709551616) (h:aM vk bits tx k l=true) (w:EQ):
 Calls Tryz.prog 61 #[.agg #[.int .i64 vk,.int .u64 bits,.string tx],.agg #[.string s,.int .i64 k,.int .i64 l]] w fun e w'=>∃B c,e=.returned (.tuple #[.slice B (cR bits tx k l).length c,.int .i64 0])/\(cR bits tx k l).length<=c/\au (fun g=>w.heap.size<=g) w' B (aH (cR bits tx k l))/\Below w.heap.size w w':=by
 have H:=J0 h
 have hm:=(bg h).1
 clear h
 by_cases hk:k=12
 ·subst hk
  have hcb:=jv tx
  clear hm
  go_enter Tryz.func61,Tryz.ntmps61
  go_wp2_with (first|(go_at_call 95;refine(av _ _ _ _ _ _ h0 h1 _ H.out _).mono ?_;rintro e w1 ⟨rfl,hb⟩;obtain⟨hc,hf⟩:=aS hb))
  go_ret2
  have hz1:=hb.size
  refine⟨some ⟨w1.heap.size,0,none⟩,grownCap w1 tx.size 0 5,by rw[cR,Xz rfl,aZ];rfl,?_,?_,?_⟩
  ·rw[cR,Xz rfl,aZ];exact grownCap_ge ..
  ·rw[cR,Xz rfl];exact au.mk (gc _ _ _) (fun ad e=>by cases e;simp at hz1;show w.heap.size<=w1.heap.size;omega)
  ·exact aB (aB ((aA _).alloc (by simp) _) hb) (fG _ _ _)
 ·have hlc:=cH hm hk
  have hk':(k == 12)=false:=by simpa using hk
  obtain⟨n,hn⟩:∃n:Nat,aT k l=n:=⟨(aT k l).toNat,by omega⟩
  have hn8:n<=8:=by omega
  have HN:=J0 hn
  clear hn hlc hm
  go_enter Tryz.func61,Tryz.ntmps61
  go_wp2_with (first
   |(go_at_call 95;refine(av _ _ _ _ _ _ h0 h1 _ H.out _).mono ?_;rintro e w1 ⟨rfl,hb⟩;obtain⟨hc,hf⟩:=aS hb;obtain⟨z0,z1⟩:w.heap.size<w1.heap.size/\w.heap.size+1<w1.heap.size:=by (have:=hb.size;simp at this;omega))
   |(go_at_call 94;refine(my bits 8 (by omega) (by simp[bi,af,fA];omega) h0 h1 _).mono ?_;rintro e w2 ⟨v,rfl,hown,hb2⟩;obtain⟨A,c,rfl,hlen,_,_⟩:=aL hown;have hrd:=dj (P:=fun g=>w1.heap.size<=g) hown (fun g hg=>aF hown g hg);obtain⟨hc2,hf2⟩:=aS hb2;clear hown)
   |(go_at_call 89;refine(eX _ _ _ _ HN.out _).mono ?_;rintro e w3 ⟨rfl,hb3⟩))
  go_ret2
  have hlt:(dG bits 8).take n=dG bits n:=by
   apply Xk
   intro j
   simp only[dG,X7,Kv,List.getElem?_range']
   by_cases h:j<n
   ·simp[h,show j<8 by omega]
   ·simp[h,Xv (show(List.range n).length<=j by simp;omega)]
  have hel:cR bits tx k l=dG bits n:=by rw[cR,Xy hk,HN.out];rfl
  have hrd3:=(hrd.up hb3).take n
  rw[aH,<-List.map_take,hlt] at hrd3
  refine⟨A,c,by rw[hel,aX];rfl,by rw[hel,aX];omega,?_,?_⟩
  ·rw[hel];exact hrd3.mono (fun g hg=>by omega)
  exact aB (aB (aB ((aA _).alloc (by simp) _) hb) hb2) hb3
theorem Di (d:Vl) (f:Fd) (h0:0<=d.b) (h1:d.b<18446744073709551616) (w:EQ) (x:EN) (hx:ip d f=x) (n:Nat) (hn:x.length=n):
 Calls Tryz.prog 61 #[.agg #[.int .i64 d.k,.int .u64 d.b,.string d.t],.agg #[.string f.s,.int .i64 f.k,.int .i64 f.l]] w fun e w'=>∃B c q,e=.returned (.tuple #[.slice B n c,.int .i64 q])/\n<=c/\au (fun g=>w.heap.size<=g) w' B (aH x)/\(n=0->B=none/\c=0)/\Below w.heap.size w w':=by
 subst hn hx
 unfold ip
 cases hr:aM d.k d.b d.t f.k f.l with
 |false=>
  rw[Xy (by decide)]
  refine(lj d.k d.b d.t f.s f.k f.l h0 h1 hr w).mono ?_
  rintro e w' ⟨rfl,hb⟩
  exact⟨none,0,50,rfl,J9 _,(fun hne=>absurd rfl hne),fun _=>⟨rfl,rfl⟩,hb⟩
 |true=>
  rw[Xz rfl]
  refine(qS d.k d.b d.t f.s f.k f.l h0 h1 hr w).mono ?_
  rintro e w' ⟨B,c,rfl,hc,hR,hb⟩
  refine⟨B,c,0,rfl,hc,hR,fun h=>?_,hb⟩
  have h2:=gS hr
  have h3:=Fd.n_pos (bg hr).1
  omega
theorem ww (A:EL) (nb c:Nat) (b:EN) (hb0:b.length=nb) (h0:0<nb) (width:Nat) (hw:width<=8) (hf:bi (nb:Int) width false=true) (hl:nb<=1000000) (w:EQ) (hA:Rd w A (aH b)):
 Calls Tryz.prog 59 #[.slice A nb c,.int .i64 (width:Nat)] w fun e w'=>∃B c',e=.returned (.slice B (width+nb) c')/\Rd w' B (aH (dG nb width++b))/\Below w.heap.size w w':=by
 obtain⟨i0,hi,hz0,hz1,hz2⟩:=info_parts nW
 obtain⟨ad,rfl,hcs⟩:=hA (by intro e;have h1:=congrArg List.length e;simp[aH] at h1;rw[h1] at hb0;simp at hb0;omega)
 have HB0:=J0 hb0
 clear hb0
 go_enter Tryz.func59,Tryz.ntmps59
 go_upto_region 2 with (go_at_call 94;refine(my (nb:Int) width hw hf (by omega) (by omega) _).mono ?_;rintro e w1 ⟨v,rfl,own,hb1⟩)
 obtain⟨V,vc,rfl,_,_,_⟩:=aL own
 have hA1:=hA.below hb1
 go_wp2_with (at_builtin;refine Y5 _ rfl _ _ 44 rfl w.heap.size 5 i0 (.int .u8 0) 1 1 Tryz.underlying44 hi hz0 hz1 hz2 rfl (by decide) _ _ _ rfl own ad nb c (aH b) rfl ?c0 ?c1 ?c2 ?c3 ?c4 ?c5 ?_)
 case c0=>simp[aH,HB0.out]
 case c1=>
  intro j u hj
  obtain⟨ad',e,h⟩:=hA1 (by rintro e;rw[e] at hj;simp at hj)
  cases e;exact h j u hj
 case c2=>intro u hu;simp[aH] at hu;obtain⟨x,_,rfl⟩:=hu;rfl
 case c3=>simp only[maxLen];omega
 case c4=>omega
 case c5=>exact hb1.size
 intro v' w3 hown' hgrow _
 have HB3:=hb1.grown hgrow hb1.size (fun q hq=>aF own q hq)
 obtain⟨B,c',rfl,_,_,r⟩:=aL hown'
 clear hown' hgrow own
 go_wp2
 go_ret
 exact⟨B,c',rfl,by rw[bE];exact r,HB3⟩
open Go.WideElems Go.MapKept Go.Sort in
theorem wD {W:EQ} {cp mp:Nat} {E:List En} {es:List MapEntry} {clock:Nat} (h:aa 89 80 W cp mp E es clock) (hlen:E.length<=1000) (L:List Ty) (hL:L.Perm (E.map (·.y))) (hrk:bU L):
 Calls Tryz.prog 14 #[.pointer (some ⟨cp,0,none⟩)] W fun e w'=>∃B c,e=.returned (.slice B L.length c)/\au (fun g=>W.heap.size<=g) w' B (ge (L.map (·.s)))/\Below W.heap.size W w':=by
 obtain⟨D0,hown,hperm,hsz⟩:=h.ownsMap Tryz.underlying9 hlen
 obtain⟨b0,_⟩:=h.box.f1
 have hmax:Maps.size D0<=maxLen:=by rw[hsz];simp only[maxLen];omega
 have hbytes:Maps.size D0 * 16<=140737488355328:=by rw[hsz];omega
 have HP:=J0 hperm
 clear hperm h
 refine(callsIn_wide (n:=6)).1 ?_
 have hfK:Fence.wide.fn 32:=trivial
 have hfS:Fence.wide.fn 31:=trivial
 refine callsIn_of_wp Tryz.func14 rfl trivial ?_ rfl
 simp only[Tryz.ntmps14,List.size_toArray,Xq,List.length_nil,Nat.reduceAdd,Nat.reduceSub,Array.replicate_succ,Array.replicate_zero,List.push_toArray,List.append_toArray,List.nil_append,List.cons_append]
 gi_wp2_with (first
  |(gi_at_call 32;refine(Tryz.maps_Keys_32 _ _).mono ?_;rintro e w' ⟨rfl,rfl⟩)
  |(gi_at_call 31;refine(Tryz.slices_Sorted_keys_31_32 mp es.length D0 iS W hown hmax hbytes).mono ?_;rintro e w' ⟨v,ss,rfl,hS,hrow,hnil,hb⟩))
 go_ret
 have hms:(ss.mergeSort (fun x y=>decide (x<=y))).length=ss.length:=List.length_mergeSort _
 obtain⟨B,c,rfl,_,_,_⟩:=aL hrow
 have rB:=dj (P:=fun g=>W.heap.size<=g) hrow (fun g hg=>by have:=aF hrow g hg;simp at this;omega)
 obtain⟨ns,hnd⟩:∃ns:List EP,ns=(ss.mergeSort (fun x y=>decide (x<=y))).map fun b=>(⟨b.toArray⟩:EP):=⟨_,rfl⟩
 have hns:ns.length=ss.length:=by rw[hnd,Kz,hms]
 have hperm:ns.Perm (L.map (·.s)):=by
  rw[hnd]
  refine((List.mergeSort_perm ss _).map _).trans ((hS.trans HP.out).map _ |>.trans ?_)
  rw[List.map_map]
  refine List.Perm.trans (List.Perm.of_eq (List.map_congr_left fun d _=>?_)) ((hL.map (·.s)).symm.trans (List.Perm.refl _) |> fun h=>(by rw[List.map_map] at h;exact h))
  simp
 have hsort:ns.Pairwise fun a b=>dD b a=false:=by
  rw[hnd,List.pairwise_map]
  have:=List.pairwise_mergeSort (le:=fun x y:EN=>decide (x<=y)) (fun a b c h1 h2=>by simp at *;exact List.le_trans h1 h2) (fun a b=>by simpa using List.le_total a b) ss
  refine this.imp fun {a b} hab=>nq.2 ?_
  simpa using hab
 have hns2:ns=L.map (·.s):=rX hrk hsort hperm
 have hlen2:ss.length=L.length:=by rw[<-hns,hns2,Kz]
 refine⟨B,c,by rw[<-hlen2];rfl,?_,((Jy _ W).alloc (J9 _) _).trans (hb.mono (by simp))⟩
 have:ge ns=(ss.mergeSort (fun x y=>decide (x<=y))).map encStr:=by
  rw[ge,hnd,List.map_map]
  rfl
 rw[<-hns2,this]
 exact rB
theorem lA.G.below {w w':EQ} {x:lA} (h:x.G w) (hb:Below w.heap.size w w'):x.G w':=
 ⟨h.k0,h.k1,h.s,h.fs.below hb,h.fa,h.cs.below hb,h.ca,fun p hp=>⟨(h.cg p hp).1,(h.cg p hp).2.1,(h.cg p hp).2.2.below hb⟩,h.live.below hb,h.la⟩
theorem nU {D:List Ty} {nm:EP} (h:nm∈D.map (·.s)):∃t,ak D nm=some t:=by
 cases hf:ak D nm with
 |some t=>exact⟨t,rfl⟩
 |none=>
  obtain⟨t,ht,e⟩:=Vy.1 h
  exact absurd e (df hf t ht)
theorem tW {nm:EP} (h:bI nm=true):nm.size<=maxLen:=by
 unfold bI at h
 rw[Qz] at h
 have:=Yv h.2
 simp only[maxLen]
 omega
end
end Go.Proofs.YteembinfgbapgaaGreat
