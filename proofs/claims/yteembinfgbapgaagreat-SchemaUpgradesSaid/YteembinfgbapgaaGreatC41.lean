/- Merged out of: Vf Vg. -/
import Derived.Test.YteembinfgbapgaaGreatC00
import Derived.Test.YteembinfgbapgaaGreatC40
set_option linter.unusedSimpArgs false
set_option linter.unusedVariables false
set_option maxRecDepth 100000
set_option maxHeartbeats 8000000
namespace Go.Proofs.YteembinfgbapgaaGreat
section
open Go.RowKit Go.Lib Go.Maps
theorem infoFF:(Tryz.prog.info? 27).map (fun i=>(i.zero,i.size,i.bytes))=some (some (.slice none 0 0),1,24):=by kernel_rfl
theorem infoTT:(Tryz.prog.info? 110).map (fun i=>(i.zero,i.size,i.bytes))=some (some (.agg #[.slice none 0 0,.slice none 0 0,.slice none 0 0]),3,72):=by kernel_rfl
theorem Rd.fv {w:World} {A:Option Addr} {fv:List FV} (h:Rd w A (cellsFV fv)) {k:Nat} {v:FV} (hv:fv[k]?=some v):∃ad,A=some ad∧w.cell? (ad.add k)=some (.slice v.A v.l.length v.a):=h.at (by simp[cellsFV,hv])
theorem rChange_do {Q:Nat→Prop} {w:World} {A:Option Addr} {c:Nat} {X:List TyV} (h:RefIs Q w A c X) (n:Nat) (hn:X.length=n) (h16:n≤16) (hok:∀x∈X,x.y.Ok) (hnd:(X.map (·.y.s)).Nodup) (nm:ByteArray) {x:TyV} (i:Nat) (hi:X[i]?=some x) (hf:fndZ (X.map (·.y)) nm=(i:Int)) (h64:x.y.top<64) (K:Option Addr) (cK nc:Nat) (cs:List (Ch×Value)) (hnc:cs.length=nc) (hk:nc≤9223372036854775807) (hw:∀p∈cs,ChW p) (hK:Rd w K (cellsC cs)) (ho:∀p∈cs,ChO w p) (T:Tb) (q:Int) (hT:allT x.y.last (cs.map (·.1))=(T,q)):
 Calls Tryz.prog 68 #[.slice A n c,.string nm,.slice K nc cK] w fun e w'=>
  (q≠0∧e=.returned (.tuple #[.slice A n c,.int .i64 0,.int .i64 q])∧Below w.heap.size w w')∨
  (q=0∧∃B d x',e=.returned (.tuple #[.slice B n d,.int .i64 ((x.y.top+1:Nat):Int),.int .i64 0])∧n≤d∧x'.y=chY x.y (cs.map (·.1))∧x'.Is (fun g=>Q g∨w.heap.size≤g) w'∧Rd w' B (cellsTy (X.set i x'))∧Below w.heap.size w w'):=by
 have hrow:=h.row
 have hxm:=J7 hi
 have hxo:=hok x hxm
 have hI:=h.ty x hxm
 obtain⟨hfl,htl⟩:=hI.len
 obtain⟨nf,hnf⟩:∃m,x.fv.length=m:=⟨_,rfl⟩
 obtain⟨nt,hnt⟩:∃m,x.tv.length=m:=⟨_,rfl⟩
 obtain⟨top,htop⟩:∃m,x.y.top=m:=⟨_,rfl⟩
 have hlen:0<x.y.ts.length:=by cases hx:x.y.ts with|nil=>exact absurd hx hxo.ne|cons a r=>simp
 have hsum:x.y.old+nf=top+1:=by have h2:x.y.top=x.y.old+x.y.ts.length - 1:=rfl;omega
 have hhi:top≤64:=by have:=hxo.hi;omega
 have hnf64:nf≤64:=by have:=hxo.lo;omega
 have hnt64:nt≤64:=by omega
 obtain⟨k,hk1⟩:∃k,nf=k+1:=⟨nf - 1,by omega⟩
 obtain⟨V,hV⟩:∃V,x.fv[k]?=some V:=⟨_,J4 (by omega)⟩
 have hlast:x.y.last=V.l:=by
  have h1:(x.fv.map (·.l))[k]?=some V.l:=by rw[Kv,hV];rfl
  rw[hI.eF,Kv] at h1
  rw[Ty.last,List.getLast?_eq_getElem?,show x.y.ts.length - 1=k by omega]
  cases hx:x.y.ts[k]? with
  |none=>rw[hx] at h1;cases h1
  |some t=>rw[hx] at h1;exact Jj h1
 have hNm:=(last_right hxo).2
 have hrt:=(last_right hxo).1
 rw[hlast] at hT hNm hrt
 have hm16:=(rightF_may hrt).2
 obtain⟨m,hm⟩:∃m,V.l.length=m:=⟨_,rfl⟩
 rw[hm] at hm16
 obtain⟨fa,hfa,hVc⟩:=hI.rF.rd.fv hV
 rw[hm] at hVc
 have hVl:=hI.fl V (J7 hV)
 rw[htop] at h64 ⊢
 have d1:decide ((64:Int)≤(top:Int))=false:=by simp;omega
 have d2:¬(64:Int)≤(top:Int):=by omega
 have hil:i<n:=by rw[←hn];exact(J6.1 hi).1
 have i0:(0:Int)≤(i:Int):=by omega
 have i1:(i:Int)<(n:Int):=by omega
 have i2:decide ((i:Int)<0)=false:=by simp
 have hwr:IntKind.i64.wrap ((nf:Int) - 1)=(k:Int):=(Xq _ (by omega)).trans (by omega)
 have k0:(0:Int)≤(k:Int):=by omega
 have k1:(k:Int)<(nf:Int):=by omega
 have HN:=J0 hn;have HZ:=J0 hf;have HS:=J0 hsum;have HI:=J0 hi;have HNF:=J0 hnf;have HNT:=J0 hnt;have HH:=J0 h;have HM:=J0 hm;have HIS:=J0 hI;have HTP:=J0 htop;have HNS:=J0 hNm;have HLA:=J0 hlast;have HNC:=J0 hnc;have HW:=J0 hw;have HO:=J0 ho;have HT:=J0 hT;have HOK:=J0 hxo;have HFA:=J0 hfa;have HKN:=J0 hk1
 have HB:=Jy w.heap.size w
 clear hn hf h hxo hfl htl htop hsum hi hnf hnt hlen hok hnd hxm hI hV hm hNm hlast hnc hw ho hT hrt hfa hk1
 go_enter Tryz.func68,Tryz.ntmps68
 go_upto_region 4 with (go_at_call 42;refine(rFind9_m A c n X HN.out (by omega) nm _ HZ.out _ (hrow.below HB)).mono ?_;rintro e W3 ⟨rfl,hb⟩;replace HB:=HB.trans (hb.mono HB.size);clear hb)
 obtain⟨ad,rfl,c0,c1,c2,c3⟩:=(hrow.below HB).ty HI.out
 rw[HNF.out] at c2;rw[HNT.out] at c3
 rename World=>W3
 have nb:=below_new (w:=W3) (.cells #[.string x.y.s,.int .i64 (x.y.old:Nat),.slice x.F nf x.f,.slice x.T nt x.t] 58)
 have P:=OBox.new W3 [.string x.y.s,.int .i64 (x.y.old:Nat),.slice x.F nf x.f,.slice x.T nt x.t] 58
 go_upto_region 5 with fail
 have hz3:=HB.size
 generalize W3.alloc (.cells #[.string x.y.s,.int .i64 (x.y.old:Nat),.slice x.F nf x.f,.slice x.T nt x.t] 58)=W4 at *
 generalize W3.heap.size=pb at *
 obtain⟨p0,p1,p2,p3⟩:=P.f4
 clear c0 c1 c2 c3
 replace HB:=HB.trans (nb.mono hz3)
 go_upto_region 7 with (go_at_call 24;refine(rNewest_m x.y.s x.y.old nf x.F x.f x.T nt x.t top HS.out (by omega) _).mono ?_;rintro e W5 ⟨rfl,hb⟩;replace HB:=HB.trans (hb.mono HB.size);replace P:=P.below hb;clear hb p0 p1 p2 p3)
 obtain⟨p0,p1,p2,p3⟩:=P.f4
 rw[HFA.out] at p2
 have hVc':=cell_below (B:=0) HB hVc
 obtain⟨lo,hlo⟩:∃y,T.o.length=y:=⟨_,rfl⟩
 obtain⟨ln,hln⟩:∃y,T.n.length=y:=⟨_,rfl⟩
 obtain⟨lm,hlm⟩:∃y,T.m.length=y:=⟨_,rfl⟩
 have HLO:=J0 hlo;have HLN:=J0 hln;have HLM:=J0 hlm
 clear hlo hln hlm
 go_upto_region 8 with (go_at_call 102;refine(rAll_m V.l m HM.out (by omega) V.A V.a K cK nc cs HNC.out hk HNS.out HW.out _ (hVl.below HB) (hK.below HB) (fun p hp=>(HO.out p hp).below HB)).mono ?_;rw[HT.out];rintro e W6 ⟨Y0,y0,Y1,y1,Y2,y2,rfl,r0,r1,r2,hb6⟩;rw[HLO.out,HLN.out,HLM.out])
 by_cases hq:q=0
 ·subst hq
  obtain⟨iF,hiF,hzF0,hzF1,hzF2⟩:=info_parts infoFF
  obtain⟨iT,hiT,hzT0,hzT1,hzT2⟩:=info_parts infoTT
  have nb7:=below_new (w:=W6) (.cells #[.slice Y0 lo y0,.slice Y1 ln y1,.slice Y2 lm y2] 110)
  have TB:=OBox.new W6 [.slice Y0 lo y0,.slice Y1 ln y1,.slice Y2 lm y2] 110
  have P7:=(P.below hb6).below nb7
  have htp:=(P.below hb6).lt
  have HB7:=(HB.trans (hb6.mono HB.size)).trans (nb7.mono (by have:=HB.size;have:=hb6.size;omega))
  replace r0:=r0.below nb7;replace r1:=r1.below nb7;replace r2:=r2.below nb7
  clear P p0 p1 p2 p3 hVc' HB hb6 nb
  generalize W6.alloc (.cells #[.slice Y0 lo y0,.slice Y1 ln y1,.slice Y2 lm y2] 110)=W7 at *
  have htb:=TB.lt
  generalize W6.heap.size=tb at *
  have hpb:=P7.lt
  have hF7:=HIS.out.rF.rd.below HB7
  rw[HFA.out] at hF7
  have P7a:=P7.below (below_new (.cells #[] 27))
  have hF7a:=hF7.below (below_new (.cells #[] 27))
  obtain⟨_,_,p2,_⟩:=P7a.f4
  rw[HFA.out] at p2
  have hownF:(W7.alloc (.cells #[] 27)).ownsRow W7.heap.size 27 1 (.slice (some ⟨W7.heap.size,0,none⟩) 0 0) 0 []:=⟨rfl,.inr ⟨_,0,#[],rfl,J9 _,World.alloc_heap_new _ _,J9 _,X8 _,rfl,rfl⟩⟩
  have hfl1:(cellsFV x.fv).length=nf:=by rw[cellsFV,Kz];exact HNF.out
  have HFL:=J0 hfl1
  clear hfl1
  go_upto_region 11 with (at_builtin;refine wpList_append_own _ rfl _ _ 55 rfl W7.heap.size 27 iF (.slice none 0 0) 1 24 Tryz.underlying55 hiF hzF0 hzF1 hzF2 rfl (by decide) _ _ _ rfl hownF fa nf x.f (cellsFV x.fv) rfl ?c0 ?c1 ?c2 ?c3 ?c4 ?c5 ?_)
  case c0=>rw[HFL.out];omega
  case c1=>
   intro j u hj
   obtain⟨ad',e,h⟩:=hF7a (by rintro e;rw[e] at hj;simp at hj)
   cases e;exact h j u hj
  case c2=>
   intro u hu
   simp only[cellsFV,X5] at hu
   obtain⟨f,_,rfl⟩:=hu
   rfl
  case c3=>simp only[maxLen];omega
  case c4=>omega
  case c5=>simp
  intro v8 w8 hown' hgrow _
  have BG8:Below W7.heap.size W7 w8:=((Jy _ _).alloc (J9 _) (.cells #[] 27)).grown hgrow (by simp) (fun q hq=>own_base hownF q hq)
  have ownF8:w8.ownsRow W7.heap.size 27 1 v8 nf (cellsFV x.fv):=own_eq hown' (by simp) (by simp)
  clear hown' hgrow hownF p2 P7a hF7a hF7
  obtain⟨gF,cF,rfl,hgF,hgFl,_,_,_⟩:=own_blk ownF8 (by omega)
  have P8:=P7.below BG8
  have TB8:=TB.below BG8
  have HB8:=HB7.trans (BG8.mono HB7.size)
  have hz78:=BG8.size
  obtain⟨_,_,_,q3⟩:=(P8.below (below_new (.cells #[] 110))).f4
  go_upto_region 11 with fail
  go_cut [14] (fun s14 wx=>∃gT cT,s14=.slice (some ⟨gT,0,none⟩) nt cT∧wx.ownsRow w8.heap.size 110 3 (.slice (some ⟨gT,0,none⟩) nt cT) nt (cellsT x.tv)∧Below w8.heap.size w8 wx)
  case first=>
   have hownT:(w8.alloc (.cells #[] 110)).ownsRow w8.heap.size 110 3 (.slice (some ⟨w8.heap.size,0,none⟩) 0 0) 0 []:=⟨rfl,.inr ⟨_,0,#[],rfl,J9 _,World.alloc_heap_new _ _,J9 _,X8 _,rfl,rfl⟩⟩
   have hT8:=HIS.out.rT.rd.below (HB8.trans ((below_new (.cells #[] 110)).mono HB8.size))
   have htl1:(cellsT x.tv).length=3 * nt:=by rw[cellsT_length,HNT.out]
   have HTL:=J0 htl1
   clear htl1
   by_cases hnt0:nt=0
   ·have htv:x.tv=[]:=List.eq_nil_of_length_eq_zero (by rw[HNT.out];exact hnt0)
    obtain⟨eT,et⟩:=HIS.out.cT htv
    rw[eT,et,hnt0] at q3
    have hap:∀ty,(Builtin.append_ #[56,56] ty #[.slice (some ⟨w8.heap.size,0,none⟩) 0 0,.slice none 0 0]).run Tryz.prog (w8.alloc (.cells #[] 110))=.ok (.slice (some ⟨w8.heap.size,0,none⟩) 0 0) (w8.alloc (.cells #[] 110)):=fun ty=>run_append_owned_none _ w8.heap.size 56 ty 110 iT 3 Tryz.underlying56 hiT _ 0 [] hownT
    have HTV:=J0 htv;have HN0:=J0 hnt0
    clear htv eT et hnt0 hT8
    go_wp2
    go_meet
    refine⟨w8.heap.size,0,by rw[HN0.out],?_,below_new _⟩
    rw[HTV.out,HN0.out]
    exact hownT
   ·obtain⟨ta,hta⟩:∃ta,x.T=some ta:=by
     obtain⟨ta,e,_⟩:=hT8 (by intro e;have:=HTL.out;rw[e] at this;simp at this;omega)
     exact⟨ta,e⟩
    rw[hta] at q3 hT8
    clear hta
    go_wp2_with (at_builtin;refine wpList_append_own _ rfl _ _ 56 rfl w8.heap.size 110 iT (.agg #[.slice none 0 0,.slice none 0 0,.slice none 0 0]) 3 72 Tryz.underlying56 hiT hzT0 hzT1 hzT2 rfl (by decide) _ _ _ rfl hownT ta nt x.t (cellsT x.tv) rfl ?c0 ?c1 ?c2 ?c3 ?c4 ?c5 ?_)
    case c0=>rw[HTL.out];omega
    case c1=>
     intro j u hj
     obtain⟨ad',e,h⟩:=hT8 (by rintro e;rw[e] at hj;simp at hj)
     cases e;exact h j u hj
    case c2=>
     intro u hu
     simp only[cellsT,List.mem_flatMap] at hu
     obtain⟨f,_,hf⟩:=hu
     simp[TabV.cells] at hf
     rcases hf with rfl|rfl|rfl <;> rfl
    case c3=>simp only[maxLen];omega
    case c4=>omega
    case c5=>simp
    intro v9 w9 hown' hgrow _
    have BG9:Below w8.heap.size w8 w9:=((Jy _ _).alloc (J9 _) (.cells #[] 110)).grown hgrow (by simp) (fun q hq=>own_base hownT q hq)
    have ownT9:w9.ownsRow w8.heap.size 110 3 v9 nt (cellsT x.tv):=own_eq hown' (by simp) (by simp)
    obtain⟨gT,cT,rfl,_,_,_,_,_⟩:=own_blk ownT9 (by omega)
    clear hown' hgrow hownT q3 hT8
    go_wp2
    go_meet
    exact⟨gT,cT,rfl,ownT9,BG9⟩
  case rest=>
   obtain⟨gT,cT,rfl,ownT9,BG9⟩:=hcut
   rename World=>w9
   have HB9:=HB8.trans (BG9.mono HB8.size)
   have hz89:=BG9.size
   have hgT:w8.heap.size≤gT:=own_base ownT9 gT rfl
   have hgTl:gT<w9.heap.size:=own_lt ownT9 gT rfl
   have ownF9:=own_below ownF8 BG9
   have P9:=P8.below BG9
   have TB9:=TB8.below BG9
   obtain⟨t0,t1,t2,_,_,_⟩:=TB9.f3
   have nb9:=below_new (w:=w9) (.cells #[.slice Y1 ln y1] 27)
   have own9a:=own_below ownF9 nb9
   clear q3 ownF8 P8 TB8
   go_upto_region 13 with (at_builtin;refine wpList_append_own_at _ rfl _ _ 55 rfl W7.heap.size 27 iF (.slice none 0 0) 1 24 Tryz.underlying55 hiF hzF0 hzF1 hzF2 rfl (by decide) _ _ _ rfl own9a ⟨w9.heap.size,0,none⟩ 1 1 [.slice Y1 ln y1] rfl rfl ?c1 ?c2 ?c3 ?c4 ?c5 ?_)
   case c1=>exact newsL _ _ _ (by simp)
   case c2=>intro u hu;simp at hu;subst hu;rfl
   case c3=>simp only[maxLen];omega
   case c4=>omega
   case c5=>simp <;> omega
   intro v10 w10 hown' hgrow _ hat
   have gr10:(w9.alloc (.cells #[.slice Y1 ln y1] 27)).grownBy w10 (some gF):=hgrow
   have P10:=(P9.below nb9).grown gr10 (by intro e;have:=Jj e;omega)
   have TB10:=(TB9.below nb9).grown gr10 (by intro e;have:=Jj e;omega)
   have ownT10:=own_grown (own_below ownT9 nb9) gr10 (fun q hq=>by have hq2:some gT=some q:=hq;cases hq2;intro e;have:=Jj e;omega)
   have k10:∀q,q<W7.heap.size→w10.heap[q]?=W7.heap[q]?:=fun q hq=>(gr10.block q (by simp;omega) (by intro e;have:=Jj e;omega)).trans ((nb9.block q (by omega)).trans ((BG9.block q (by omega)).trans (BG8.block q hq)))
   have HB10:Below w.heap.size w w10:=(HB9.trans (nb9.mono HB9.size)).grown gr10 (by have:=HB9.size;simp;omega) (fun q hq=>by cases hq;omega)
   have hz10:w9.heap.size<w10.heap.size:=by have:=gr10.size;simp at this;omega
   obtain⟨gF2,cF2,rfl,hgF2,hgF2l,hcF2,_,_⟩:=own_blk hown' (by omega)
   have hne:gF2≠gT:=by
    rcases hat with h|h
    ·have h2:some gF2=some gF:=h
     have:=Jj h2
     omega
    ·have h2:some gF2=some (w9.heap.size+1):=h
     have:=Jj h2
     omega
   have hnp:gF2≠pb:=by omega
   obtain⟨_,_,s2,_⟩:=P10.f4
   have s2f:=P10.frz 2
   clear hgrow hat own9a ownF9 P9 TB9 t0 t1 t2 nb9 ownT9
   go_upto_region 13 with fail
   have P11:=obox_set P10 2 (.slice (some ⟨gF2,0,none⟩) (nf+1) cF2)
   simp only[J2,J3] at P11
   have hset:∀q,q≠pb→(w10.setCell ⟨pb,2,none⟩ (.slice (some ⟨gF2,0,none⟩) (nf+1) cF2)).heap[q]?=w10.heap[q]?:=fun q hq=>J5 _ _ _ _ hq
   have s11:(w10.setCell ⟨pb,2,none⟩ (.slice (some ⟨gF2,0,none⟩) (nf+1) cF2)).heap.size=w10.heap.size:=by simp[World.setCell]
   have ownF11:=own_keep hown' (fun q hq=>hset q (by have h2:some gF2=some q:=hq;have:=Jj h2;omega))
   have ownT11:=own_keep ownT10 (fun q hq=>hset q (by have h2:some gT=some q:=hq;have:=Jj h2;omega))
   have TB11:OBox _ tb _ 110:=(hset tb (by omega)).trans TB10
   have k11:∀q,q<W7.heap.size→q≠pb→(w10.setCell ⟨pb,2,none⟩ (.slice (some ⟨gF2,0,none⟩) (nf+1) cF2)).heap[q]?=W7.heap[q]?:=fun q hq hn=>(hset q hn).trans (k10 q hq)
   have HB11:Below w.heap.size w (w10.setCell ⟨pb,2,none⟩ (.slice (some ⟨gF2,0,none⟩) (nf+1) cF2)):=HB10.setCell (by show w.heap.size≤pb;omega) _
   clear P10 TB10 ownT10 hown' k10 HB10 s2 s2f hset
   generalize w10.setCell ⟨pb,2,none⟩ (.slice (some ⟨gF2,0,none⟩) (nf+1) cF2)=w11 at *
   obtain⟨t0,t1,t2,_,_,_⟩:=TB11.f3
   have nbA:=below_new (w:=w11) (.cells #[.slice Y0 lo y0,.slice Y1 ln y1,.slice Y2 lm y2] 110)
   have own11a:=own_below ownT11 nbA
   go_upto_region 14 with (at_builtin;refine wpList_append_own_at _ rfl _ _ 56 rfl w8.heap.size 110 iT (.agg #[.slice none 0 0,.slice none 0 0,.slice none 0 0]) 3 72 Tryz.underlying56 hiT hzT0 hzT1 hzT2 rfl (by decide) _ nt (cellsT x.tv) ?g1 own11a ⟨w11.heap.size,0,none⟩ 1 1 [.slice Y0 lo y0,.slice Y1 ln y1,.slice Y2 lm y2] ?g2 rfl ?c1 ?c2 ?c3 ?c4 ?c5 ?_)
   case g1=>simp[Act.eval]
   case g2=>simp[Act.eval]
   case c1=>exact newsL _ _ _ (by simp)
   case c2=>intro u hu;simp at hu;rcases hu with rfl|rfl|rfl <;> rfl
   case c3=>simp only[maxLen];omega
   case c4=>omega
   case c5=>simp <;> omega
   intro v12 w12 hown' hgrow _ hat
   have gr12:(w11.alloc (.cells #[.slice Y0 lo y0,.slice Y1 ln y1,.slice Y2 lm y2] 110)).grownBy w12 (some gT):=hgrow
   have P12:=(P11.below nbA).grown gr12 (by intro e;have:=Jj e;omega)
   have ownF12:=own_grown (own_below ownF11 nbA) gr12 (fun q hq=>by have hq2:some gF2=some q:=hq;cases hq2;intro e;exact hne (Jj e))
   have k12:∀q,q<W7.heap.size→q≠pb→w12.heap[q]?=W7.heap[q]?:=fun q hq hn=>(gr12.block q (by simp;omega) (by intro e;have:=Jj e;omega)).trans ((nbA.block q (by omega)).trans (k11 q hq hn))
   have HB12:Below w.heap.size w w12:=(HB11.trans (nbA.mono HB11.size)).grown gr12 (by have:=HB11.size;simp;omega) (fun q hq=>by cases hq;omega)
   have hz12:w11.heap.size<w12.heap.size:=by have:=gr12.size;simp at this;omega
   obtain⟨gT2,cT2,rfl,hgT2,hgT2l,hcT2,_,_⟩:=own_blk hown' (by omega)
   obtain⟨_,_,_,s3⟩:=P12.f4
   have s3f:=P12.frz 3
   clear hgrow hat own11a ownF11 P11 TB11 t0 t1 t2 nbA ownT11 k11 HB11 gr12
   go_upto_region 14 with fail
   have P13:=obox_set P12 3 (.slice (some ⟨gT2,0,none⟩) (nt+1) cT2)
   simp only[J2,J3] at P13
   have hset:∀q,q≠pb→(w12.setCell ⟨pb,3,none⟩ (.slice (some ⟨gT2,0,none⟩) (nt+1) cT2)).heap[q]?=w12.heap[q]?:=fun q hq=>J5 _ _ _ _ hq
   have s13:(w12.setCell ⟨pb,3,none⟩ (.slice (some ⟨gT2,0,none⟩) (nt+1) cT2)).heap.size=w12.heap.size:=by simp[World.setCell]
   have ownF13:=own_keep ownF12 (fun q hq=>hset q (by have h2:some gF2=some q:=hq;have:=Jj h2;omega))
   have ownT13:=own_keep hown' (fun q hq=>hset q (by have h2:some gT2=some q:=hq;have:=Jj h2;omega))
   have k13:∀q,q<W7.heap.size→q≠pb→(w12.setCell ⟨pb,3,none⟩ (.slice (some ⟨gT2,0,none⟩) (nt+1) cT2)).heap[q]?=W7.heap[q]?:=fun q hq hn=>(hset q hn).trans (k12 q hq hn)
   have HB13:Below w.heap.size w (w12.setCell ⟨pb,3,none⟩ (.slice (some ⟨gT2,0,none⟩) (nt+1) cT2)):=HB12.setCell (by show w.heap.size≤pb;omega) _
   clear P12 ownF12 hown' k12 HB12 s3 s3f hset
   generalize w12.setCell ⟨pb,3,none⟩ (.slice (some ⟨gT2,0,none⟩) (nt+1) cT2)=w13 at *
   have hz13:W7.heap.size≤w13.heap.size:=by omega
   obtain⟨x',hx'⟩:∃x':TyV,x'=⟨chY x.y (cs.map (·.1)),some ⟨gF2,0,none⟩,cF2,some ⟨gT2,0,none⟩,cT2,x.fv++[⟨T.n,Y1,y1⟩],x.tv++[⟨T,Y0,y0,Y1,y1,Y2,y2⟩]⟩:=⟨_,rfl⟩
   have hall:∀W',Below w13.heap.size w13 W'→W'.cell? ⟨pb,0,none⟩=some (.string x.y.s)∧W'.cell? ⟨pb,1,none⟩=some (.int .i64 (x.y.old:Nat))∧W'.cell? ⟨pb,2,none⟩=some (.slice (some ⟨gF2,0,none⟩) (nf+1) cF2)∧W'.cell? ⟨pb,3,none⟩=some (.slice (some ⟨gT2,0,none⟩) (nt+1) cT2)∧Below w13.heap.size w13 W':=fun W' hb=>by
    obtain⟨a0,a1,a2,a3⟩:=(P13.below hb).f4
    exact⟨a0,a1,a2,a3,hb⟩
   have hwith:∀W',Below w13.heap.size w13 W'→Calls Tryz.prog 103 #[.slice (some ad) n c,.int .i64 (i:Nat),.agg #[.string x.y.s,.int .i64 (x.y.old:Nat),.slice (some ⟨gF2,0,none⟩) (nf+1) cF2,.slice (some ⟨gT2,0,none⟩) (nt+1) cT2]] W' fun e w'=>∃B d,e=.returned (.slice B n d)∧n≤d∧Rd w' B (cellsTy (X.set i x'))∧Below W'.heap.size W' w':=fun W' hb=>by
    have:=rwith_m (some ad) c n X HN.out (by omega) (by have h1:=HH.out.cap;have h2:=HN.out;omega) i hil x' (nf+1) (nt+1) (by rw[hx'];simp[HNF.out]) (by rw[hx'];simp[HNT.out]) W' ((hrow.below HB13).below hb)
    rw[hx'] at this ⊢
    exact this
   have hkeep:∀{A:Option Addr} {cs:List Value},Rd W7 A cs→Long cs→Rd w13 A cs:=fun hA hl=>((hA.ne4 P7 hl).lt.keep (fun g hg=>k13 g hg.2 hg.1)).rd
   have r0':=hkeep r0 (Long.flds _)
   have r1':=hkeep r1 (Long.flds _)
   have r2':=hkeep r2 (Long.moves _)
   have hwz:w.heap.size≤W7.heap.size:=HB7.size
   have hIs:∀Wf,Below w13.heap.size w13 Wf→x'.Is (fun g=>Q g∨w.heap.size≤g) Wf:=fun Wf hb=>by
    have HBf:=HB13.trans (hb.mono HB13.size)
    have hlT:allT x.y.last (cs.map (·.1))=(T,0):=by rw[HLA.out];exact HT.out
    have hts:(chY x.y (cs.map (·.1))).ts=x.y.ts++[T]:=by rw[chY,hlT]
    rw[hx']
    refine⟨?_,?_,fun v hv=>?_,fun v hv=>?_,?_,?_,?_,fun he=>?_⟩
    ·have e:cellsFV (x.fv++[⟨T.n,Y1,y1⟩])=cellsFV x.fv++[.slice Y1 ln y1]:=by simp[cellsFV,HLN.out]
     show RdP _ Wf _ (cellsFV (x.fv++[⟨T.n,Y1,y1⟩]))
     rw[e]
     exact(own_P (P:=fun g=>Q g∨w.heap.size≤g) ownF13 (fun g hg=>.inr (Q7 hwz (own_base ownF13 g hg)))).up hb
    ·have e:cellsT (x.tv++[⟨T,Y0,y0,Y1,y1,Y2,y2⟩])=cellsT x.tv++[.slice Y0 lo y0,.slice Y1 ln y1,.slice Y2 lm y2]:=by simp[cellsT,TabV.cells,HLO.out,HLN.out,HLM.out]
     show RdP _ Wf _ (cellsT (x.tv++[⟨T,Y0,y0,Y1,y1,Y2,y2⟩]))
     rw[e]
     exact(own_P (P:=fun g=>Q g∨w.heap.size≤g) ownT13 (fun g hg=>.inr (Q7 (Q7 hwz hz78) (own_base ownT13 g hg)))).up hb
    ·rcases X7.1 hv with h1|h1
     ·exact(HIS.out.fl v h1).below HBf
     ·simp at h1;subst h1;exact r1'.below hb
    ·rcases X7.1 hv with h1|h1
     ·exact(HIS.out.tb v h1).below HBf
     ·simp at h1;subst h1;exact⟨r0'.below hb,r1'.below hb,r2'.below hb⟩
    ·show(x.fv++[⟨T.n,Y1,y1⟩]:List FV).map (·.l)=(chY x.y (cs.map (·.1))).ts.map (·.n)
     rw[hts,List.map_append,List.map_append,HIS.out.eF];rfl
    ·show(x.tv++[⟨T,Y0,y0,Y1,y1,Y2,y2⟩]:List TabV).map (·.t)=(chY x.y (cs.map (·.1))).ts.tail
     rw[hts,List.tail_append_of_ne_nil HOK.out.ne,List.map_append,HIS.out.eT];rfl
    ·show(x.fv++[⟨T.n,Y1,y1⟩]:List FV).length≤cF2
     rw[Qz,HNF.out];exact hcF2
    ·have he2:x.tv++[⟨T,Y0,y0,Y1,y1,Y2,y2⟩]=[]:=he
     simp at he2
   have HIX:=J0 hIs
   have hxy:x'.y=chY x.y (cs.map (·.1)):=by rw[hx']
   have HXY:=J0 hxy
   have HWI:=J0 hwith
   have hsum2:x.y.old+(nf+1)=top+1+1:=by have:=HS.out;omega
   have HS2:=J0 hsum2
   have HXX:=J0 hx'
   clear hwith hsum2 hx' hIs hxy
   go_region_held3 (fun W'=>W'.cell? ⟨pb,0,none⟩=some (.string x.y.s)∧W'.cell? ⟨pb,1,none⟩=some (.int .i64 (x.y.old:Nat))∧W'.cell? ⟨pb,2,none⟩=some (.slice (some ⟨gF2,0,none⟩) (nf+1) cF2)∧W'.cell? ⟨pb,3,none⟩=some (.slice (some ⟨gT2,0,none⟩) (nt+1) cT2)∧Below w13.heap.size w13 W') ((refine hall _ ?_;repeat (first|assumption|exact Jy _ _|apply Jv)))
    (first
      |(go_at_call 103;obtain⟨_,_,_,_,HBx⟩:=‹_∧_∧_∧_∧Below w13.heap.size w13 _›;refine(HWI.out _ HBx).mono ?_;rintro e W5 ⟨B,d,rfl,hd,rB,hbw⟩;have HB5:=below_seq HBx hbw)
      |(go_at_call 24;obtain⟨_,_,_,_,HBx⟩:=‹_∧_∧_∧_∧Below w13.heap.size w13 _›;refine(rNewest_m x.y.s x.y.old (nf+1) _ cF2 _ (nt+1) cT2 (top+1) HS2.out (by omega) _).mono ?_;rintro e W8 ⟨rfl,hbn⟩;have HB8n:=below_seq HBx hbn))
   all_goals go_wp2_with fail
   all_goals refine bodyPost_ret (v:=.tuple #[.slice B n d,.int .i64 ((top+1:Nat):Int),.int .i64 0]) (by simp[results,Tryz.results68,go_sem, *];done) rfl ?_
   all_goals first
    |exact⟨B,d,by simp,hd,x',HXY.out,HIX.out _ HB8n,rB.below hbn,HB13.trans (HB8n.mono HB13.size)⟩
    |exact .inr ⟨rfl,B,d,x',rfl,hd,HXY.out,HIX.out _ HB8n,rB.below hbn,HB13.trans (HB8n.mono HB13.size)⟩
    |exact⟨B,d,by simp,hd,x',HXY.out,HIX.out _ HB5,rB,HB13.trans (HB5.mono HB13.size)⟩
    |exact .inr ⟨rfl,B,d,x',rfl,hd,HXY.out,HIX.out _ HB5,rB,HB13.trans (HB5.mono HB13.size)⟩
 ·have e2:(q == 0)=false:=by simpa using hq
  have e3:(q != 0)=true:=by simpa using hq
  go_wp2
  refine bodyPost_ret (v:=.tuple #[.slice (some ad) n c,.int .i64 0,.int .i64 q]) (by simp[results,Tryz.results68,go_sem, *];done) rfl (.inl ⟨hq,rfl,?_⟩)
  exact(HB.trans (hb6.mono HB.size)).alloc (by have:=HB.size;have:=hb6.size;omega) _
theorem OBox.f8 {w:World} {b:Nat} {x0 x1 x2 x3:Value} {T:TypeId} (h:OBox w b [x0,x1,x2,x3] T):w.cell? ⟨b,0,none⟩=some x0∧w.cell? ⟨b,1,none⟩=some x1∧w.cell? ⟨b,2,none⟩=some x2∧w.cell? ⟨b,3,none⟩=some x3∧w.frozen? ⟨b,0,none⟩=false∧w.frozen? ⟨b,1,none⟩=false∧w.frozen? ⟨b,2,none⟩=false∧w.frozen? ⟨b,3,none⟩=false:=⟨h.cell rfl,h.cell rfl,h.cell rfl,h.cell rfl,h.frz 0,h.frz 1,h.frz 2,h.frz 3⟩
theorem rRetire_none {Q:Nat→Prop} {w:World} {A:Option Addr} {c:Nat} {X:List TyV} (h:RefIs Q w A c X) (n:Nat) (hn:X.length=n) (h16:n≤16) (hok:∀x∈X,x.y.Ok) (hnd:(X.map (·.y.s)).Nodup) (nm:ByteArray) (hz:fndZ (X.map (·.y)) nm=-1) (L:Option Addr) (cL nl:Nat):
 Calls Tryz.prog 69 #[.slice A n c,.string nm,.slice L nl cL] w fun e w'=>e=.returned (.tuple #[.slice A n c,.int .i64 0,.int .i64 90])∧Below w.heap.size w w':=by
 have hrow:=h.row
 have HN:=J0 hn;have HZ:=J0 hz
 have HB:=Jy w.heap.size w
 clear hn hz h
 go_enter Tryz.func69,Tryz.ntmps69
 go_wp2_with (go_at_call 42;refine(rFind9_m A c n X HN.out (by omega) nm _ HZ.out _ (hrow.below HB)).mono ?_;rintro e W3 ⟨rfl,hb⟩;replace HB:=HB.trans (hb.mono HB.size);clear hb)
 refine bodyPost_ret (v:=.tuple #[.slice A n c,.int .i64 0,.int .i64 90]) (by simp[results,Tryz.results69,go_sem, *];done) rfl ⟨rfl,HB⟩
theorem rRetire_do {Q:Nat→Prop} {w:World} {A:Option Addr} {c:Nat} {X:List TyV} (h:RefIs Q w A c X) (n:Nat) (hn:X.length=n) (h16:n≤16) (hok:∀x∈X,x.y.Ok) (hnd:(X.map (·.y.s)).Nodup) (nm:ByteArray) {x:TyV} (i:Nat) (hi:X[i]?=some x) (hf:fndZ (X.map (·.y)) nm=(i:Int)) (L:Option Addr) (cL nl:Nat) (q:List Int) (hnl:q.length=nl) (hl:nl≤9223372036854775807) (hL:Rd w L (cellsI q)) (u:Bool) (hu:useB x.y q=u):
 Calls Tryz.prog 69 #[.slice A n c,.string nm,.slice L nl cL] w fun e w'=>
  (u=true∧e=.returned (.tuple #[.slice A n c,.int .i64 0,.int .i64 93])∧Below w.heap.size w w')∨
  (u=false∧∃B d x',e=.returned (.tuple #[.slice B n d,.int .i64 ((x.y.ts.length - 1:Nat):Int),.int .i64 0])∧n≤d∧x'.y=reY x.y∧x'.Is (fun g=>Q g∨w.heap.size≤g) w'∧Rd w' B (cellsTy (X.set i x'))∧Below w.heap.size w w'):=by
 have hrow:=h.row
 have hxm:=J7 hi
 have hxo:=hok x hxm
 have hI:=h.ty x hxm
 obtain⟨hfl,htl⟩:=hI.len
 obtain⟨nf,hnf⟩:∃m,x.fv.length=m:=⟨_,rfl⟩
 obtain⟨nt,hnt⟩:∃m,x.tv.length=m:=⟨_,rfl⟩
 obtain⟨top,htop⟩:∃m,x.y.top=m:=⟨_,rfl⟩
 have hlen:0<x.y.ts.length:=by cases hx:x.y.ts with|nil=>exact absurd hx hxo.ne|cons a r=>simp
 have hft:nf=nt+1:=by omega
 have htt:x.y.ts.length - 1=nt:=by omega
 rw[htt]
 have hsum:x.y.old+nf=top+1:=by have h2:x.y.top=x.y.old+x.y.ts.length - 1:=rfl;omega
 have hhi:top≤64:=by have:=hxo.hi;omega
 have hnf64:nf≤64:=by have:=hxo.lo;omega
 obtain⟨V,hV⟩:∃V,x.fv[nt]?=some V:=⟨_,J4 (by omega)⟩
 have hlast:x.y.last=V.l:=by
  have h1:(x.fv.map (·.l))[nt]?=some V.l:=by rw[Kv,hV];rfl
  rw[hI.eF,Kv] at h1
  rw[Ty.last,List.getLast?_eq_getElem?,htt]
  cases hx:x.y.ts[nt]? with
  |none=>rw[hx] at h1;cases h1
  |some t=>rw[hx] at h1;exact Jj h1
 have hrt:=(last_right hxo).1
 obtain⟨fa,hfa,hVc⟩:=hI.rF.rd.fv hV
 have hcf:=hI.cF
 rw[hnf] at hcf
 have hil:i<n:=by rw[←hn];exact(J6.1 hi).1
 have i0:(0:Int)≤(i:Int):=by omega
 have i1:(i:Int)<(n:Int):=by omega
 have i2:decide ((i:Int)<0)=false:=by simp
 have huse:∀v:Int,(x.y.old:Int)≤v→v<(top:Int)→v∈q→u=true:=fun v h1 h2 h3=>by
  rw[←hu,useB,List.any_eq_true]
  exact⟨v,h3,by simp[htop];omega⟩
 have hnouse:(∀v:Int,(x.y.old:Int)≤v→v<(top:Int)→v ∉ q)→u=false:=fun hh=>by
  rw[←hu,useB,List.any_eq_false]
  intro v hv hc
  simp[htop] at hc
  exact hh v (by omega) (by omega) hv
 have hnms:x.y.s=nm:=by
  have h1:(X.map (·.y))[i]?=some x.y:=by rw[Kv,hi];rfl
  cases hg:findY (X.map (·.y)) nm with
  |none=>rw[fndZ_none hg] at hf;omega
  |some t=>
   obtain⟨j,e,ht⟩:=fndZ_some hg
   rw[hf] at e
   have hij:i=j:=by omega
   subst hij
   rw[h1] at ht
   cases ht
   exact(findY_mem hg).2
 have HN:=J0 hn;have HZ:=J0 hf;have HS:=J0 hsum;have HI:=J0 hi;have HNF:=J0 hnf;have HNT:=J0 hnt;have HH:=J0 h;have HIS:=J0 hI;have HTP:=J0 htop;have HLA:=J0 hlast;have HOK:=J0 hxo;have HFA:=J0 hfa;have HFT:=J0 hft;have HUS:=J0 huse;have HNU:=J0 hnouse;have HNL:=J0 hnl;have HV:=J0 hV;have HRT:=J0 hrt;have HNM:=J0 hnms
 have HB:=Jy w.heap.size w
 clear hn hf h hxo hfl htl htop hsum hi hnf hnt hlen hok hnd hxm hI hV hlast hrt hfa hft htt huse hnouse hnl hu hnms
 go_enter Tryz.func69,Tryz.ntmps69
 go_upto_region 4 with (go_at_call 42;refine(rFind9_m A c n X HN.out (by omega) nm _ HZ.out _ (hrow.below HB)).mono ?_;rintro e W3 ⟨rfl,hb⟩;replace HB:=HB.trans (hb.mono HB.size);clear hb)
 obtain⟨ad,rfl,c0,c1,c2,c3⟩:=(hrow.below HB).ty HI.out
 rw[HNF.out] at c2;rw[HNT.out] at c3
 rename World=>W3
 have nb:=below_new (w:=W3) (.cells #[.string x.y.s,.int .i64 (x.y.old:Nat),.slice x.F nf x.f,.slice x.T nt x.t] 58)
 have P:=OBox.new W3 [.string x.y.s,.int .i64 (x.y.old:Nat),.slice x.F nf x.f,.slice x.T nt x.t] 58
 go_upto_region 6 with fail
 have hz3:=HB.size
 generalize W3.alloc (.cells #[.string x.y.s,.int .i64 (x.y.old:Nat),.slice x.F nf x.f,.slice x.T nt x.t] 58)=W4 at *
 generalize W3.heap.size=pb at *
 clear c0 c1 c2 c3
 have HB0:=HB.trans (nb.mono hz3)
 have P0:=P
 clear HB P
 go_loopw [11] (fun iv wr=>∃k:Nat,k≤nl∧iv=.int .i64 k∧Below w.heap.size w wr∧OBox wr pb [.string x.y.s,.int .i64 (x.y.old:Nat),.slice x.F nf x.f,.slice x.T nt x.t] 58∧Hid (∀(j:Nat) (y:Int),j<k→q[j]?=some y→¬((x.y.old:Int)≤y∧y<(top:Int)))) (fun iv _=>nl - (intOf iv).toNat)
 case atStart=>exact⟨0,by omega,rfl,HB0,P0,J0 (fun j y h=>by omega)⟩
 case round=>
  obtain⟨k,hk,rfl,HB,P,hall⟩:=hrel
  clear HB0 P0
  have hLr:=hL.below HB
  by_cases hlt:k<nl
  ·obtain⟨y,hy⟩:∃y,q[k]?=some y:=⟨_,J4 (by rw[HNL.out];exact hlt)⟩
   obtain⟨ld,rfl,hcell⟩:=Rd.num hLr hy
   have HY:=J0 hy
   have hj0:(0:Int)≤(k:Int):=by omega
   have hj1:(k:Int)<(nl:Int):=by omega
   have hc:∀W',Below wr.heap.size wr W'→W'.cell? (ld.add k)=some (.int .i64 y)∧W'.cell? ⟨pb,0,none⟩=some (.string x.y.s)∧W'.cell? ⟨pb,1,none⟩=some (.int .i64 (x.y.old:Nat))∧W'.cell? ⟨pb,2,none⟩=some (.slice x.F nf x.f)∧W'.cell? ⟨pb,3,none⟩=some (.slice x.T nt x.t):=fun W' hb=>by
    obtain⟨a0,a1,a2,a3⟩:=(P.below hb).f4
    exact⟨cell_below (B:=0) hb hcell,a0,a1,a2,a3⟩
   have HC:=J0 hc
   clear hy hLr hc hcell
   by_cases e1:(x.y.old:Int)≤y
   ·have d1:decide ((x.y.old:Int)≤y)=true:=by simpa using e1
    by_cases e2:y<(top:Int)
    ·have d2:decide (y<(top:Int))=true:=by simpa using e2
     have hut:u=true:=HUS.out y e1 e2 (J7 HY.out)
     go_upto_region 8 with fail
     refine RW.start (fun w'=>Below wr.heap.size wr w') (by kernel_rfl) (by kernel_rfl) (Jy _ _).drew ?_
     repeat (first
      |(refine' RW.val (by rfl) ?_ ?_;rotate_left;(focus (intro w' hS;have HB5:=hS;obtain⟨q0,a0,a1,a2,a3⟩:=HC.out _ HB5;clear hS;go_simp;rfl));simp only[Act.put,J1,J3,J2])
      |(refine RW.off (by rfl) ?_;simp only[Act.put,J1,J3,J2])
      |(refine' RW.call (by rfl) ?_ ?_ ?_
        rotate_left 3
        (focus (intro w' hS;have HB5:=hS;obtain⟨q0,a0,a1,a2,a3⟩:=HC.out _ HB5;clear hS;go_simp;exact⟨rfl,rfl⟩))
        (focus
          intro w' hS
          have HB5:=hS;obtain⟨q0,a0,a1,a2,a3⟩:=HC.out _ HB5;clear hS
          first
           |(refine(rNewest_m x.y.s x.y.old nf x.F x.f x.T nt x.t top HS.out (by omega) _).mono ?_;rintro e w1 ⟨rfl,hb⟩;exact⟨rfl,(below_seq HB5 hb)⟩))
        simp only[Act.put,J1,J3,J2]))
     refine RW.done (fun w' hS=>?_)
     have HB5:=hS;obtain⟨q0,a0,a1,a2,a3⟩:=HC.out _ HB5;clear hS
     go_wp2
     refine bodyPost_ret (v:=.tuple #[.slice (some ad) n c,.int .i64 0,.int .i64 93]) (by simp[results,Tryz.results69,go_sem, *];done) rfl (.inl ⟨hut,rfl,HB.trans (HB5.mono HB.size)⟩)
    ·have d2:decide (y<(top:Int))=false:=by simpa using e2
     have hall2:Hid (∀(j:Nat) (y:Int),j<k+1→q[j]?=some y→¬((x.y.old:Int)≤y∧y<(top:Int))):=J0 (fun j z hj hz=>by
      rcases(by omega:j<k∨j=k) with h|rfl
      ·exact hall.out j z h hz
      ·rw[HY.out] at hz;cases hz;exact fun h=>e2 h.2)
     go_upto_region 8 with fail
     refine RW.start (fun w'=>Below wr.heap.size wr w') (by kernel_rfl) (by kernel_rfl) (Jy _ _).drew ?_
     repeat (first
      |(refine' RW.val (by rfl) ?_ ?_;rotate_left;(focus (intro w' hS;have HB5:=hS;obtain⟨q0,a0,a1,a2,a3⟩:=HC.out _ HB5;clear hS;go_simp;rfl));simp only[Act.put,J1,J3,J2])
      |(refine RW.off (by rfl) ?_;simp only[Act.put,J1,J3,J2])
      |(refine' RW.call (by rfl) ?_ ?_ ?_
        rotate_left 3
        (focus (intro w' hS;have HB5:=hS;obtain⟨q0,a0,a1,a2,a3⟩:=HC.out _ HB5;clear hS;go_simp;exact⟨rfl,rfl⟩))
        (focus
          intro w' hS
          have HB5:=hS;obtain⟨q0,a0,a1,a2,a3⟩:=HC.out _ HB5;clear hS
          first
           |(refine(rNewest_m x.y.s x.y.old nf x.F x.f x.T nt x.t top HS.out (by omega) _).mono ?_;rintro e w1 ⟨rfl,hb⟩;exact⟨rfl,(below_seq HB5 hb)⟩))
        simp only[Act.put,J1,J3,J2]))
     refine RW.done (fun w' hS=>?_)
     have HB5:=hS;obtain⟨q0,a0,a1,a2,a3⟩:=HC.out _ HB5;clear hS
     have P5:=P.below HB5
     have HB6:=HB.trans (HB5.mono HB.size)
     clear e1 e2 P HB hall HC
     go_wp2
     go_roundw
     case rel=>exact⟨k+1,by omega,by go_num,HB6,P5,hall2⟩
     case measure=>simp[intOf];omega
   ·have d1:decide ((x.y.old:Int)≤y)=false:=by simpa using e1
    have hall2:Hid (∀(j:Nat) (y:Int),j<k+1→q[j]?=some y→¬((x.y.old:Int)≤y∧y<(top:Int))):=J0 (fun j z hj hz=>by
     rcases(by omega:j<k∨j=k) with h|rfl
     ·exact hall.out j z h hz
     ·rw[HY.out] at hz;cases hz;exact fun h=>e1 h.1)
    go_upto_region 8 with fail
    refine RW.start (fun w'=>Below wr.heap.size wr w') (by kernel_rfl) (by kernel_rfl) (Jy _ _).drew ?_
    repeat (first
     |(refine' RW.val (by rfl) ?_ ?_;rotate_left;(focus (intro w' hS;have HB5:=hS;obtain⟨q0,a0,a1,a2,a3⟩:=HC.out _ HB5;clear hS;go_simp;rfl));simp only[Act.put,J1,J3,J2])
     |(refine RW.off (by rfl) ?_;simp only[Act.put,J1,J3,J2]))
    refine RW.done (fun w' hS=>?_)
    have HB5:=hS;obtain⟨q0,a0,a1,a2,a3⟩:=HC.out _ HB5;clear hS
    have P5:=P.below HB5
    have HB6:=HB.trans (HB5.mono HB.size)
    clear e1 P HB hall HC
    go_wp2
    go_roundw
    case rel=>exact⟨k+1,by omega,by go_num,HB6,P5,hall2⟩
    case measure=>simp[intOf];omega
  ·obtain rfl:k=nl:=by omega
   have huf:u=false:=HNU.out (fun v h1 h2 hv=>by
    obtain⟨j,hj⟩:=Qq.1 hv
    have hjl:=(J6.1 hj).1
    exact hall.out j v (by rw[←HNL.out];exact hjl) hj ⟨h1,h2⟩)
   clear hall hLr
   obtain⟨p0,p1,p2,p3⟩:=P.f4
   go_upto_region 11 with fail
   clear p0 p1 p2 p3
   have hat:(nt:Int)≤(nf:Int):=by have:=HFT.out;omega
   have hat2:(nf:Int)≤(x.f:Int):=by omega
   have hat3:nt≤nf:=by omega
   have hat4:¬x.f=nt:=by have:=HFT.out;omega
   have hat5:nf - nt=1:=by have:=HFT.out;omega
   have hat6:nt≤x.f:=by omega
   have hall:∀W',Below wr.heap.size wr W'→W'.cell? ⟨pb,0,none⟩=some (.string x.y.s)∧W'.cell? ⟨pb,1,none⟩=some (.int .i64 (x.y.old:Nat))∧W'.cell? ⟨pb,2,none⟩=some (.slice (some fa) nf x.f)∧W'.cell? ⟨pb,3,none⟩=some (.slice x.T nt x.t)∧Below wr.heap.size wr W':=fun W' hb=>by
    obtain⟨a0,a1,a2,a3⟩:=(P.below hb).f4
    rw[HFA.out] at a2
    exact⟨a0,a1,a2,a3,hb⟩
   go_cut [13] (fun s13 wx=>∃ob,s13=.pointer (some ⟨ob,0,none⟩)∧OBox wx ob [.string nm,.int .i64 (top:Nat),.slice (some (fa.add nt)) 1 (x.f - nt),.slice none 0 0] 58∧Below wr.heap.size wr wx)
   case first=>
    go_region_held3 (fun W'=>W'.cell? ⟨pb,0,none⟩=some (.string x.y.s)∧W'.cell? ⟨pb,1,none⟩=some (.int .i64 (x.y.old:Nat))∧W'.cell? ⟨pb,2,none⟩=some (.slice (some fa) nf x.f)∧W'.cell? ⟨pb,3,none⟩=some (.slice x.T nt x.t)∧Below wr.heap.size wr W') ((refine hall _ ?_;repeat (first|assumption|exact Jy _ _|refine J8 ?_ (by dsimp only;first|exact J9 _|omega) _|refine Jk ?_ (by first|exact J9 _|omega) _|apply Jv)))
     ((go_at_call 24;obtain⟨_,_,_,_,HBx⟩:=‹_∧_∧_∧_∧Below wr.heap.size wr _›;refine(rNewest_m x.y.s x.y.old nf (some fa) x.f x.T nt x.t top HS.out (by omega) _).mono ?_;rintro e W4 ⟨rfl,hb4⟩;have hzx:=HBx.size;have HB4:=below_seq HBx hb4;have hz4:=HB4.size;(first|(have PB:=OBox.below (OBox.new _ [.string ⟨#[]⟩,.int .i64 0,.slice none 0 0,.slice none 0 0] 58) hb4;obtain⟨b0,b1,b2,b3,g0,g1,g2,g3⟩:=PB.f8)|(have PB:=OBox.newB (cs:=[.string ⟨#[]⟩,.int .i64 0,.slice none 0 0,.slice none 0 0]) hb4;obtain⟨b0,b1,b2,b3,g0,g1,g2,g3⟩:=PB.f8)|skip)))
    all_goals (go_wp2_with fail;go_meet)
    all_goals refine⟨_,rfl,?_,?_⟩
    all_goals first
     |exact OBox.new _ _ _
     |exact obox_set (obox_set (obox_set (obox_set PB 0 _) 1 _) 2 _) 3 _
     |(repeat (first|assumption|exact Jy _ _|refine J8 ?_ (by dsimp only;first|exact J9 _|omega) _|refine Jk ?_ (by first|exact J9 _|omega) _|apply Jv))
   case rest=>
    obtain⟨ob,rfl,OP,hb5⟩:=hcut
    rename World=>W5
    have HB5:=HB.trans (hb5.mono HB.size)
    obtain⟨o0,o1,o2,o3⟩:=OP.f4
    obtain⟨x',hx'⟩:∃x':TyV,x'=⟨reY x.y,some (fa.add nt),x.f - nt,none,0,[V],[]⟩:=⟨_,rfl⟩
    have hry:reY x.y=⟨nm,top,[keepT V.l]⟩:=by rw[reY,HTP.out,HLA.out,HNM.out]
    have hwith:=rwith_m (some ad) c n X HN.out (by omega) (by have h1:=HH.out.cap;have h2:=HN.out;omega) i hil x' 1 0 (by rw[hx'];rfl) (by rw[hx'];rfl) W5 (hrow.below HB5)
    have e4:([Value.string x'.y.s,.int .i64 (x'.y.old:Nat),.slice x'.F 1 x'.f,.slice x'.T 0 x'.t]:List Value)=[.string nm,.int .i64 (top:Nat),.slice (some (fa.add nt)) 1 (x.f - nt),.slice none 0 0]:=by rw[hx'];show([Value.string (reY x.y).s,.int .i64 ((reY x.y).old:Nat),_,_]:List Value)=_;rw[hry]
    have e5:(#[Value.string x'.y.s,.int .i64 (x'.y.old:Nat),.slice x'.F 1 x'.f,.slice x'.T 0 x'.t]:Array Value)=#[.string nm,.int .i64 (top:Nat),.slice (some (fa.add nt)) 1 (x.f - nt),.slice none 0 0]:=congrArg List.toArray e4
    rw[e5] at hwith
    have hwz:=HB5.size
    have hIs:∀Wf,Below W5.heap.size W5 Wf→x'.Is (fun g=>Q g∨w.heap.size≤g) Wf:=fun Wf hb=>by
     have HBf:=HB5.trans (hb.mono HB5.size)
     have hkn:(keepT V.l).n=V.l:=by have:=HRT.out;rw[HLA.out] at this;rw[keepT_right this]
     rw[hx',hry]
     refine⟨?_,(fun hne=>absurd rfl hne),fun v hv=>?_,(fun v hv=>by cases hv),?_,rfl,?_,fun _=>⟨rfl,rfl⟩⟩
     ·intro _
      obtain⟨fa',e,hP,hc⟩:=HIS.out.rF (by intro e;have h1:=HNF.out;have h2:=HFT.out;have:=congrArg List.length e;simp[cellsFV] at this;rw[this] at h1;simp at h1;omega)
      rw[HFA.out] at e
      cases e
      refine⟨fa.add nt,rfl,.inl (by have:(fa.add nt).block=fa.block:=by unfold Addr.add;split <;> rfl
                                    rw[this];exact hP),fun j y hj=>?_⟩
      rw[Addr.add_add]
      have hj0:j=0:=by
       have:=(J6.1 hj).1
       simp[cellsFV] at this
       exact this
      subst hj0
      rw[Nat.add_zero]
      have h1:(cellsFV x.fv)[nt]?=some y:=by
       rw[cellsFV,Kv,HV.out]
       simpa[cellsFV] using hj
      exact cell_below (B:=0) HBf (hc nt y h1)
     ·simp at hv;subst hv
      exact(HIS.out.fl v (J7 HV.out)).below HBf
     ·show[V.l]=[(keepT V.l).n]
      rw[hkn]
     ·show 1≤x.f - nt
      omega
    have hxy:x'.y=reY x.y:=by rw[hx']
    have HWI:=J0 hwith;have HIX:=J0 hIs;have HXY:=J0 hxy
    clear hwith hIs hxy e4 e5 hx' hry OP
    go_wp2_with (go_at_call 103;refine HWI.out.mono ?_;rintro e W6 ⟨B,d,rfl,hd,rB,hb6⟩)
    refine bodyPost_ret (v:=.tuple #[.slice B n d,.int .i64 (nt:Int),.int .i64 0]) (by simp[results,Tryz.results69,go_sem, *];done) rfl ?_
    exact .inr ⟨huf,B,d,x',rfl,hd,HXY.out,HIX.out _ hb6,rB,HB5.trans (hb6.mono HB5.size)⟩
end
end Go.Proofs.YteembinfgbapgaaGreat
