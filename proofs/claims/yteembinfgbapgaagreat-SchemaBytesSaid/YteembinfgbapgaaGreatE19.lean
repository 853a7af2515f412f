/- Merged out of: Yi Yn. -/
import Derived.Test.YteembinfgbapgaaGreatE00
import Derived.Test.YteembinfgbapgaaGreatE15
import Derived.Test.YteembinfgbapgaaGreatE10
import Derived.Test.YteembinfgbapgaaGreatE12
import Derived.Test.YteembinfgbapgaaGreatE11
set_option linter.unusedSimpArgs false
set_option linter.unusedVariables false
set_option maxRecDepth 100000
set_option maxHeartbeats 8000000
namespace Go.Proofs.YteembinfgbapgaaGreat
section
open Go.RowKit Go.Lib Go.Maps
def CC (b:EN) (w:EQ) (e:Ending) (w':EQ):Prop:=(∃L cp mp D,dQ b=some L/\e=.returned (.tuple #[.pointer (some ⟨cp,0,none⟩),.int .i64 0])/\mY w cp mp D w'/\L.Perm D)\/(dQ b=none/\e=.returned (.tuple #[.pointer none,.int .i64 92])/\Below w.heap.size w w')
theorem sE (w:EQ) (A:EL) (c n:Nat) (b:EN) (hn:b.length=n) (hA:Rd w A (aH b)) (hl:n<=100000000) (hc:n<=c) (hcm:c<=maxLen):
 Calls Tryz.prog 25 #[.slice A n c] w fun e w'=>CC b w e w':=by
 have HN:=J0 hn;have HA:=J0 hA
 clear hn hA
 go_enter Tryz.func25,Tryz.ntmps25
 go_upto_region 2 with (go_at_call 12;refine(wG _).mono ?_;rintro e w1 ⟨rfl,hN,hb1⟩)
 have RB:=aD.new w1 [.slice A n c,.bool false] 117
 have nb:=aA (w:=w1) (.cells #[.slice A n c,.bool false] 117)
 obtain⟨cp,hcp⟩:∃cp,w.heap.size+1=cp:=⟨_,rfl⟩
 obtain⟨mp,hmp⟩:∃mp,w.heap.size=mp:=⟨_,rfl⟩
 obtain⟨p,hp⟩:∃p,w1.heap.size=p:=⟨_,rfl⟩
 rw[hcp] at hN |-
 have hN':aa 89 80 w1 cp mp [] [] 0:=by rw[<-hmp];exact hN
 have hcp1:=hN'.box.lt
 have hmp1:=hN'.mpLt
 go_upto_region 3 with fail
 have hz1:=hb1.size
 have hbw:=hb1.trans (nb.mono hz1)
 have D2:ml w (w1.alloc (.cells #[.slice A n c,.bool false] 117)) cp mp p [] [] 0:=⟨hN'.below nb,(fun d hd=>by cases hd),by omega,by omega,(fun d hd=>by cases hd),⟨hbw,fun g hg=>⟨by omega,fun d hd=>by cases hd⟩⟩⟩
 have S2:im w (w1.alloc (.cells #[.slice A n c,.bool false] 117)) p b false:=⟨⟨A,c,by rw[HN.out,<-hp];exact RB,by rw[HN.out];exact hc,hcm,HA.out⟩,hbw,by omega⟩
 generalize w1.alloc (.cells #[.slice A n c,.bool false] 117)=w2 at *
 clear RB nb hN hN' hb1 hbw hcp1 hmp1 hz1 hp hcp hmp
 have hwp:w.heap.size<=p:=S2.p
 go_upto_region 4 with (go_at_call 48;refine(pt S2 1 (.inl rfl) (by rw[HN.out];exact hl)).mono ?_;rintro e w3 ⟨nn,l1,am1,rfl,hnn,hl1,S3,st1,O3⟩)
 have D3:=D2.only O3 (D2.low.b.trans ((O3.low D2.low.b.size (fun g hg=>by cases hg;exact hwp) (fun g hg=>by cases hg))))
 rw[HN.out] at hl1
 have HST1:=J0 st1
 have hnn:nn<256:=by simpa using hnn
 clear S2 D2 O3 st1
 go_loopw [2,3,6,7,8,9,10,11,18] (fun _ _ _ _ _ _ _ _ i wr=>∃(k:Nat) (E:List En) (es:List MapEntry) (ck:Nat) (L:List Ty) (l':EN) (am':Bool),k<=nn/\i=.int .i64 k/\ml w wr cp mp p E es ck/\im w wr p l' am'/\E.length<=16/\l'.length<=n/\Hid (L.length=k/\E.map (·.y)=L.foldl fE []/\fY am1 (dW k l1) L l' am')) (fun _ _ _ _ _ _ _ _ i _=>nn - (intOf i).toNat)
 case atStart=>exact⟨0,[],[],0,[],l1,am1,by omega,rfl,D3,S3,by simp,hl1,J0 ⟨rfl,rfl,fY.refl rfl⟩⟩
 case round=>
  obtain⟨k,E,es,ck,L,l',am',hk,rfl,DC,S,h16,hl',HI⟩:=hrel
  clear D3 S3
  by_cases hlt:k<nn
  ·have k1:decide ((k:Int)<(nn:Int))=true:=by simp;omega
   have hwk:IntKind.i64.wrap ((k:Int)+1)=((k+1:Nat):Int):=(Xj _ (by omega)).trans (by omega)
   go_upto_region 6 with (first
    |(go_at_call 48;refine(pt S 1 (.inl rfl) (by omega)).mono ?_;rintro e w5 ⟨x,l5,am5,rfl,hx,hl5,S5,st5,O5⟩;have hx:x<256:=by simpa using hx)
    |(go_at_call 49;refine(ra S5 x (by omega) (by omega)).mono ?_;rintro e w6 ⟨B,c',bs,l6,am6,rfl,hc',hcm',hbs,hR,hl6,S6,st6,O6⟩;have hcv:=jQ hR x c' hbs))
   have O06:=O5.then O6
   have HST5:=J0 st5;have HST6:=J0 st6
   clear st5 st6 S5 O5 O6 hcv hR
   go_upto_region 7 with (go_at_call 48;refine(pt S6 1 (.inl rfl) (by omega)).mono ?_;rintro e w7 ⟨o,l7,am7,rfl,ho,hl7,S7,st7,O7⟩)
   have SB:=aD.new w7 [.int .i64 o,.slice none 0 0] 89
   have nbs:=aA (w:=w7) (.cells #[.int .i64 o,.slice none 0 0] 89)
   have O07:=(O06.then O7).seq nbs
   have S7':=S7.below nbs
   have hz7:=(O06.then O7).size
   generalize w7.alloc (.cells #[.int .i64 o,.slice none 0 0] 89)=w7' at *
   obtain⟨sp,hsp⟩:∃sp,w7.heap.size=sp:=⟨_,rfl⟩
   rw[hsp] at SB hz7 |-
   go_upto_region 8 with (go_at_call 48;refine(pt S7' 1 (.inl rfl) (by omega)).mono ?_;rintro e w8 ⟨la,l8,am8,rfl,hla,hl8,S8,st8,O8⟩)
   have hpr:=S.lt
   have hspp:sp≠p:=by omega
   have O08:=O07.then O8
   have SB8:=SB.only O8 (by simpa using hspp) (by simp)
   have hwr:=DC.low.b
   have hwrz:=hwr.size
   have D8:=DC.only O08 (hwr.trans (O08.low hwrz (fun g hg=>by cases hg;exact hwp) (fun g hg=>by cases hg)))
   have hl8':l8.length<=n:=by omega
   have ho:o<256:=by simpa using ho
   have hla:la<256:=by simpa using hla
   have HST7:=J0 st7;have HST8:=J0 st8
   have hz8:=O08.size
   have el:es.length=E.length:=by have:=congrArg List.length D8.cat.prs;rw[iZ,Kz] at this;exact this
   clear SB nbs O07 S7 S7' O7 O8 st7 st8 S6 O06 hsp S hl5 hl6 hl7 hl8
   obtain⟨b0,b1,bf0,bf1⟩:=SB8.f2
   obtain⟨cc,_⟩:=D8.cat.box.f1
   have hlen:=iP D8.cat.map
   rw[el] at hlen
   have HTY:∀(ts:List Tb) (l9:EN) (am9:Bool),(am8=true->am9=true)->(cu o la (aR bs)=true->fY am8 (kw (la+1 - o) l8) ts l9 am9)->(cu o la (aR bs)=false->am9=true)->fY am' (ro l') ⟨aR bs,o,ts⟩ l9 am9:=fun ts l9 am9 h1 h2 h3=>rD HST5.out.w HST6.out.w HST7.out.w HST8.out.w h1 h2 h3
   have hbad:cu o la (aR bs)=false->dQ b=none:=fun hcd=>by
    obtain⟨h1,h2,h3⟩:=HI.out
    have h4:fY am' (ro l') ⟨aR bs,o,[]⟩ l8 true:=HTY [] l8 true (fun _=>rfl) (fun h=>by rw[hcd] at h;cases h) (fun _=>rfl)
    exact io HST1.out.w (iY h3 h4) (by omega)
   have hlong:16<=E.length->dQ b=none:=fun h=>by
    obtain⟨h1,h2,h3⟩:=HI.out
    have h5:=pi L []
    have h6:E.length=(L.foldl fE []).length:=by rw[<-h2,Kz]
    exact pa HST1.out.w h3 hlt (by simp at h5;omega)
   have HTYh:=J0 HTY
   clear HTY
   have B8:Below w.heap.size w w8:=D8.low.b
   have fin:dQ b=none->CC b w (.returned (.tuple #[.pointer none,.int .i64 92])) w8:=fun h=>.inr ⟨h,rfl,B8⟩
   have FIN:=J0 fin;have HBAD:=J0 hbad;have HLONG:=J0 hlong
   clear fin hbad hlong
   by_cases c1:o<1
   ·obtain rfl:o=0:=by omega
    have fin:=FIN.out (HBAD.out (by simp[cu]))
    go_wp2
    refine Xx (v:=.tuple #[.pointer none,.int .i64 92]) (by simp[results,Tryz.results25,go_sem, *];done) rfl fin
   have e1:decide ((o:Int)<1)=false:=by simp;omega
   have e1':¬o=0:=by omega
   by_cases c2:la<o
   ·have e2:decide ((la:Int)<(o:Int))=true:=by simp;omega
    have fin:=FIN.out (HBAD.out (by simp[cu];omega))
    go_wp2
    refine Xx (v:=.tuple #[.pointer none,.int .i64 92]) (by simp[results,Tryz.results25,go_sem, *];done) rfl fin
   have e2:decide ((la:Int)<(o:Int))=false:=by simp;omega
   by_cases c3:64<la
   ·have e3:decide ((64:Int)<(la:Int))=true:=by simp;omega
    have fin:=FIN.out (HBAD.out (by simp[cu];omega))
    go_wp2
    refine Xx (v:=.tuple #[.pointer none,.int .i64 92]) (by simp[results,Tryz.results25,go_sem, *];done) rfl fin
   have e3:decide ((64:Int)<(la:Int))=false:=by simp;omega
   cases hnm:bI (aR bs) with
   |false=>
    have fin:=FIN.out (HBAD.out (by simp[cu,hnm]))
    clear FIN
    go_wp2_with (go_at_call 50;refine(eH _ _ hnm _).mono ?_;rintro e w9 ⟨rfl,hb9⟩)
    refine Xx (v:=.tuple #[.pointer none,.int .i64 92]) (by simp[results,Tryz.results25,go_sem, *];done) rfl ?_
    rcases fin with ⟨_,_,_,_,h,_⟩|⟨h1,h2,h3⟩
    ·rw[HBAD.out (by simp[cu,hnm])] at h;cases h
    ·exact .inr ⟨h1,rfl,h3.trans (hb9.mono h3.size)⟩
   |true=>
   by_cases c5:16<=E.length
   ·have e5:decide ((16:Int)<=(E.length:Int))=true:=by simp;omega
    have fin:=HLONG.out c5
    clear FIN
    go_wp2_with (go_at_call 50;refine(eH _ _ hnm _).mono ?_;rintro e w9 ⟨rfl,hb9⟩;replace cc:=(D8.cat.below hb9).box.f1.1;replace hlen:=iP (D8.cat.below hb9).map;rw[el] at hlen)
    refine Xx (v:=.tuple #[.pointer none,.int .i64 92]) (by simp[results,Tryz.results25,go_sem, *];done) rfl ?_
    exact .inr ⟨fin,rfl,B8.trans (hb9.mono B8.size)⟩
   have e5:decide ((16:Int)<=(E.length:Int))=false:=by simp;omega
   have hcd:cu o la (aR bs)=true:=by simp[cu,hnm];omega
   have HCD:=J0 hcd
   have hw0:w.heap.size<=sp:=by omega
   clear hcd hlen FIN HBAD HLONG B8
   have hlen:=iP D8.cat.map
   rw[el] at hlen
   go_upto_region 10 with (go_at_call 50;refine(eH _ _ hnm _).mono ?_;rintro e w9 ⟨rfl,hb9⟩;replace cc:=(D8.cat.below hb9).box.f1.1;replace hlen:=iP (D8.cat.below hb9).map;rw[el] at hlen)
   clear b0 b1 bf0 bf1
   have D9:=D8.only (aO.of hb9) (D8.low.b.trans (hb9.mono D8.low.b.size))
   have S9:=S8.below hb9
   have SB9:=SB8.below hb9
   have O09:=O08.seq hb9
   have hz9:=hb9.size
   clear D8 S8 SB8 O08 hb9 cc hlen e1 e2 e3 e5 HST5 HST6 HST7 HST8
   have hp9:p<w9.heap.size:=by omega
   have DS9:=sD.start SB9 hp9 hspp
   obtain⟨b0,b1,bf0,bf1⟩:=SB9.f2
   go_upto_region 12 with fail
   clear b0 b1 bf0 bf1
   go_loopw [9,10,11] (fun s9 s10 _ wx=>∃(j:Nat) (ts:List Tb) (xs:List bB) (sv:ER) (OA:EL) (no co:Nat) (l9:EN) (am9:Bool),o<=j/\j<=la+1/\s10=.int .i64 j/\s9=.slice OA no co/\sD w9 wx p sp o sv xs OA (fC ts)/\im w wx p l9 am9/\no<=co/\l9.length<=n/\xs.length=j - o/\Hid ((fC ts).length=no/\(am9=false->mU (fC ts)/\no<=16)/\xs.map (·.t)=ts/\fY am8 (kw (j - o) l8) ts l9 am9)) (fun _ s10 _ _=>la+1 - (intOf s10).toNat)
   case atStart=>exact⟨o,[],[],_,none,0,0,l8,am8,J9 _,by omega,rfl,rfl,DS9,S9,J9 _,hl8',by simp,J0 ⟨rfl,fun _=>⟨(fun f hf=>by cases hf),by omega⟩,rfl,by rw[Nat.sub_self];exact fY.refl rfl⟩⟩
   case round=>
    obtain⟨j,ts,xs,sv,OA,no,co,l9,am9,hj0,hj1,rfl,rfl,DS,S,hno,hl9,hxl,HJ⟩:=hrel
    clear DS9 S9
    obtain⟨_,_,q0,q1,q2,q3⟩:=S.box
    by_cases hjl:j<=la/\am9=false
    ·obtain⟨hjl,rfl⟩:=hjl
     have f1:decide ((j:Int)<=(la:Int))=true:=by simp;omega
     have hwj:IntKind.i64.wrap ((j:Int)+1)=((j+1:Nat):Int):=(Xj _ (by omega)).trans (by omega)
     obtain⟨fb,hfb⟩:∃fb,decide (j - o=0)=fb:=⟨_,rfl⟩
     have f2:((j:Int) == (o:Int))=fb:=by rw[<-hfb,Qy];simp;omega
     have HFB:=J0 hfb
     obtain⟨b0,b1,bf0,bf1⟩:=DS.box.f2
     clear hfb
     go_upto_region 15 with (go_at_call 51;refine(Cy S (by omega) OA no co (fC ts) HJ.out.1 (HJ.out.2.1 rfl).2 hno (fun g=>w9.heap.size<=g/\sv.ownBlock≠some g) DS.last (fun g hg=>by have:=DS.hp;have:=hg.1;omega) (HJ.out.2.1 rfl).1 fb).mono ?_;rintro e w10 ⟨x,l10,am10,rfl,hxI,hl10,S10,stT,hTok,O10⟩)
     obtain⟨lo,hlo⟩:∃y,x.t.o.length=y:=⟨_,rfl⟩
     obtain⟨ln,hln⟩:∃y,x.t.n.length=y:=⟨_,rfl⟩
     obtain⟨lm,hlm⟩:∃y,x.t.m.length=y:=⟨_,rfl⟩
     have hxc:x.cells=[.slice x.A lo x.a,.slice x.B ln x.b,.slice x.C lm x.c]:=by show[Value.slice x.A x.t.o.length x.a,Value.slice x.B x.t.n.length x.b,Value.slice x.C x.t.m.length x.c]=_;rw[hlo,hln,hlm]
     rw[hlo,hln,hlm]
     have TB:=aD.new w10 [.slice x.A lo x.a,.slice x.B ln x.b,.slice x.C lm x.c] 96
     have nbt:=aA (w:=w10) (.cells #[.slice x.A lo x.a,.slice x.B ln x.b,.slice x.C lm x.c] 96)
     have hxI2:=DS.fresh O10 hxI
     have DS11:=(DS.next O10).below nbt
     have S11:=S10.below nbt
     have hxI3:x.Is (fun g=>w9.heap.size<=g/\sv.ownBlock≠some g) (w10.alloc (.cells #[.slice x.A lo x.a,.slice x.B ln x.b,.slice x.C lm x.c] 96)):=(hxI2.lt.keep (fun g hg=>nbt.block g hg.2)).mono (fun g hg=>hg.1)
     have hgt:∀g,sv.ownBlock=some g->g<w10.heap.size:=fun g hg=>aY (DS.next O10).row g hg
     have hcb:=hxI.cb
     rw[hln] at hcb
     have hz10:=(DS.next O10).only.size
     generalize w10.alloc (.cells #[.slice x.A lo x.a,.slice x.B ln x.b,.slice x.C lm x.c] 96)=w11 at *
     obtain⟨tb,htb⟩:∃t,w10.heap.size=t:=⟨_,rfl⟩
     rw[htb] at TB hgt hz10 |-
     obtain⟨i,hi⟩:∃i,j - o=i:=⟨_,rfl⟩
     rw[hi] at hxl HJ HFB
     obtain⟨F,cF,hsv,_,_,_⟩:=aL DS11.row
     rw[hxl] at hsv
     subst hsv
     have hx8:=DS11.hs
     have hz11:=DS11.only.size
     have hst:sp≠tb:=by omega
     have own4:=DS11.row
     rw[hxl] at own4
     have hbx4:=DS11.box
     have hgs:∀g,(Value.slice F i cF).ownBlock=some g->g≠sp/\g≠tb:=fun g hg=>⟨by have:=aF own4 g hg;omega,by have:=hgt g hg;omega⟩
     have HXC:=J0 hxc;have HXI:=J0 hxI3;have HDS:=J0 DS11;have HS11:=J0 S11;have HXL:=J0 hxl;have HTK:=J0 hTok;have HSTT:=J0 stT;have HLN:=J0 hln
     clear hxc hxI hxI2 hxI3 DS11 S11 S10 DS S O10 nbt hTok stT hln hlo hlm hxl htb b0 b1 bf0 bf1 q0 q1 q2 q3
     obtain⟨iT,hiT,hzT0,hzT1,hzT2⟩:=info_parts zZ
     have nf:=aA (w:=w11.drew) (.cells #[.slice x.A lo x.a,.slice x.B ln x.b,.slice x.C lm x.c] 96)
     have own5:(w11.drew.alloc (.cells #[.slice x.A lo x.a,.slice x.B ln x.b,.slice x.C lm x.c] 96)).ownsRow _ _ _ _ i _:=aG (w:=w11.drew) own4 nf
     have hbx5:=aD.below (w:=w11.drew) hbx4 nf
     have tbx5:=aD.below (w:=w11.drew) TB nf
     have hone:∀u∈([.slice x.A lo x.a,.slice x.B ln x.b,.slice x.C lm x.c]:EO),u.oneCell'=true:=by intro u hu;simp at hu;rcases hu with rfl|rfl|rfl <;> rfl
     have mixed:Tryz.prog.follows .mixedOrders=true:=by kernel_rfl
     have hb63:i+1<=maxLen:=by simp only[maxLen];omega
     have hi64:i<=64:=by omega
     obtain⟨p0,p1,p2,p3,p4,p5⟩:=TB.f3
     have g1:w11.cell? ⟨sp,1,none⟩=some (.slice F i cF):=hbx4.cell rfl
     have g1a:(w11.alloc (.cells #[.slice x.A lo x.a,.slice x.B ln x.b,.slice x.C lm x.c] 96)).cell? ⟨sp,1,none⟩=some (.slice F i cF):=(aD.below hbx4 (aA _)).cell rfl
     have p1a:(w11.alloc (.cells #[.slice x.A lo x.a,.slice x.B ln x.b,.slice x.C lm x.c] 96)).cell? ⟨tb,1,none⟩=some (.slice x.B ln x.b):=(aD.below TB (aA _)).f3.2.1
     have hsz:∀u∈(Value.agg #[.slice none 0 0,.slice none 0 0,.slice none 0 0]).cells.toList,wI u:=by intro u hu;simp[Value.cells] at hu;rcases hu with rfl|rfl|rfl <;> exact⟨_,_,_,rfl⟩
     have hsn:∀u∈([.slice x.A lo x.a,.slice x.B ln x.b,.slice x.C lm x.c]:EO),wI u:=by intro u hu;simp at hu;rcases hu with rfl|rfl|rfl <;> exact⟨_,_,_,rfl⟩
     have hso:∀g',(Value.slice F i cF).ownBlock=some g'->gI wI (w11.drew.alloc (.cells #[.slice x.A lo x.a,.slice x.B ln x.b,.slice x.C lm x.c] 96)) g':=fun g' hg'=>(HDS.out.sl g' hg').keep (nf.block g' (aY own4 g' hg'))
     have hbase:w9.heap.size<=(w11.drew.alloc (.cells #[.slice x.A lo x.a,.slice x.B ln x.b,.slice x.C lm x.c] 96)).heap.size:=by simp;omega
     go_region_law_o (refine ig (S:=wI) rfl (.tmp 90) (.tmp 92) 87 rfl w9.heap.size 96 iT (.agg #[.slice none 0 0,.slice none 0 0,.slice none 0 0]) 3 72 Tryz.underlying87 hiT hzT0 hzT1 hzT2 rfl (by decide) (.slice F i cF) i _ (by simp[Act.eval,Act.put]) own5 ⟨w11.heap.size,0,none⟩ 1 1 [.slice x.A lo x.a,.slice x.B ln x.b,.slice x.C lm x.c] (by simp[Act.eval,Act.put]) rfl (fV w11.drew _ _ _ _) hone hb63 (by omega) hbase (by decide) hsz hsn hso ?_;intro vF' W5 own6 gr5 hat5 hall6;have hbx6:=hbx5.grown gr5 (by intro e;exact(hgs _ e.symm).1 rfl);have tbx6:=tbx5.grown gr5 (by intro e;exact(hgs _ e.symm).2 rfl);obtain⟨F5,c5,rfl,_,_,_⟩:=aL own6;obtain⟨i1,i2,i3,i4⟩:=hbx6.f2;obtain⟨y0,y1,y2,y3,y4,y5⟩:=tbx6.f3;have z1:=(aD.far tbx6 (p:=⟨sp,1,none⟩) hst (.slice F5 (i+1) c5)).f3.2.1)
     all_goals
      obtain⟨DS',S'⟩:=HDS.out.add HXI.out HXL.out (by rw[HXC.out];exact own6) gr5 hat5 hall6 HS11.out hw0
      clear own6 gr5 hat5 hall6 hbx6 tbx6 i1 i2 i3 i4 z1 y0 y1 y2 y3 y4 y5 nf own5 hbx5 tbx5 g1 g1a hsz hsn hso hone own4 hbx4 TB p1a p0 p1 p2 p3 p4 p5
      generalize W5.setCell ⟨sp,1,none⟩ (.slice F5 (i+1) c5)=W6 at *
      go_wp2
      go_roundw
      case rel=>
       obtain⟨j1,j2,j3,j4⟩:=HJ.out
       have els:fC (ts++[x.t])=x.t.n:=by simp[fC]
       refine⟨j+1,ts++[x.t],xs++[x],_,x.B,ln,x.b,l10,am10,by omega,by omega,by go_num,rfl,by rw[els];exact DS',S',hcb,by omega,by rw[Vq,HXL.out];simp;omega,J0 ⟨by rw[els];exact HLN.out,fun h=>⟨by rw[els];exact(HTK.out h).n,by have:=(bN (HTK.out h).r).2.1;have:=HLN.out;omega⟩,by simp[j3],?_⟩⟩
       rw[show j+1 - o=i+1 by omega]
       exact qD j4 (by rw[HFB.out];exact HSTT.out.w)
      case measure=>simp[intOf];omega
    ·have hmv:∀W',W'.heap[p]?=wr.heap[p]?->Below w.heap.size w W'->im w W' p l9 am9:=fun W' h1 h2=>S.keep h1 h2
     have OX:=DS.only.drop3 O09 hz7
     have DX:=DC.only OX (hwr.trans (OX.low hwrz (fun g hg=>by cases hg;exact hwp) (fun g hg=>by cases hg)))
     obtain⟨j1,j2,j3,j4⟩:=HJ.out
     have hst:fY am8 (kw (la+1 - o) l8) ts l9 am9:=by
      cases am9 with
      |true=>exact tf j4 (by omega)
      |false=>
       obtain rfl:j=la+1:=by
        have hx:¬j<=la:=fun h=>hjl ⟨h,rfl⟩
        omega
       exact j4
     obtain⟨W2,E',es',ck',hrun,DC',hmap,hk2,hbw2⟩:=Cc DC OX hpr hwp (d:=⟨⟨aR bs,o,ts⟩,sp,sv,xs⟩) (DS.en j3 (aR bs)) (fun g hg=>by
      rcases hg with rfl|hg
      ·exact hz7
      ·have:=aF DS.row g hg;omega) (fun y hy=>(DS.tabs y hy).mono (fun g hg=>⟨by have:=hg.1;omega,fun hh=>by
       rcases hh with rfl|hh
       ·have:=DS.hs;have:=hg.1;omega
       ·exact hg.2 hh⟩)) (by show(aR bs).size<=_;rw[aj,hbs];simp only[maxLen];omega)
     have hrun':(Instr.mapUpdate 78 (.map (some mp)) (.string (aR bs)) (.pointer (some ⟨sp,0,none⟩))).run Tryz.prog wr=.ok () W2:=hrun
     have cc:=DX.cat.box.f1.1
     have h16':E'.length<=16:=by
      have h1:=congrArg List.length hmap
      have h2:=(nB (E.map (·.y)) ⟨aR bs,o,ts⟩).2
      rw[Kz] at h1 h2
      have h3:E'.length=(fE (E.map (·.y)) ⟨aR bs,o,ts⟩).length:=h1
      omega
     have hnew:Hid ((L++[(⟨aR bs,o,ts⟩:Ty)]).length=k+1/\E'.map (·.y)=(L++[(⟨aR bs,o,ts⟩:Ty)]).foldl fE []/\fY am1 (dW (k+1) l1) (L++[(⟨aR bs,o,ts⟩:Ty)]) l9 am9):=by
      obtain⟨h1,h2,h3⟩:=HI.out
      exact J0 ⟨by simp[h1],by rw[hmap];exact yv L _ _ h2,iY h3 (HTYh.out ts l9 am9 hst.1 (fun _=>hst) (fun h=>by rw[HCD.out] at h;cases h))⟩
     have S2:=hmv W2 (hk2.trans rfl) hbw2
     clear hmv hst hrun HJ HTYh HCD HI DS DC D9 DX OX hmap hk2 hbw2 O09
     by_cases hjl2:j<=la
     ·obtain rfl:am9=true:=by cases am9 with
       |true=>rfl
       |false=>exact absurd ⟨hjl2,rfl⟩ hjl
      have f1:decide ((j:Int)<=(la:Int))=true:=by simp;omega
      go_wp2
      go_roundw
      case rel=>exact⟨k+1,E',es',ck',_,l9,true,by omega,by go_num,DC',S2,h16',hl9,hnew⟩
      case measure=>simp[intOf];omega
     ·have f1:decide ((j:Int)<=(la:Int))=false:=by simp;omega
      go_wp2
      go_roundw
      case rel=>exact⟨k+1,E',es',ck',_,l9,am9,by omega,by go_num,DC',S2,h16',hl9,hnew⟩
      case measure=>simp[intOf];omega
  ·obtain rfl:k=nn:=by omega
   have k1:decide ((k:Int)<(k:Int))=false:=by simp
   obtain⟨_,_,q0,q1,q2,q3⟩:=S.box
   obtain⟨h1,h2,h3⟩:=HI.out
   cases am' with
   |true=>
    have hd:=io HST1.out.w h3 (J9 _)
    have hB:=DC.low.b
    go_wp2
    refine Xx (v:=.tuple #[.pointer none,.int .i64 92]) (by simp[results,Tryz.results25,go_sem, *];done) rfl (.inr ⟨hd,rfl,hB⟩)
   |false=>
    have hnd:((E.map (·.y)).map (·.s)).Nodup:=by rw[List.map_map];exact DC.cat.names
    obtain⟨hok,hyes,hno⟩:=Bq HST1.out.w h3 h2 hnd (by rw[Kz];exact h16)
    obtain⟨hrk,hpm⟩:=iD hnd
    have hAS:mY w cp mp (E.map (·.y)) wr:=⟨E,es,ck,rfl,DC.cat,DC.low,hok⟩
    obtain⟨z,hz⟩:∃z,(eL (dT (E.map (·.y)))).length=z:=⟨_,rfl⟩
    obtain⟨r,hr⟩:∃r,decide (eL (dT (E.map (·.y)))=b)=r:=⟨_,rfl⟩
    have HYES:=J0 hyes;have HNO:=J0 hno;have HR:=J0 hr;have HZ:=J0 hz;have HAS:=J0 hAS;have HPM:=J0 hpm
    clear hyes hno hr hz hAS h1 h2 h3 hnd
    have go:∀w',Below wr.heap.size wr w'->Rd w' A (aH b):=fun w' hb=>HA.out.below (DC.low.b.trans (hb.mono DC.low.b.size))
    cases r with
    |true=>
     have he:=Yv HR.out
     go_wp2_with (first
      |(go_at_call 27;refine(kz DC.cat hok _ hpm hrk z HZ.out).mono ?_;rintro e wa ⟨BE,cE,rfl,hRE,hba⟩)
      |(go_at_call 52;refine(CD BE A cE c z n _ b HZ.out HN.out (by omega) true HR.out wa hRE (go wa hba)).mono ?_;rintro e wb ⟨rfl,hbb⟩))
     refine Xx (v:=.tuple #[.pointer (some ⟨cp,0,none⟩),.int .i64 0]) (by simp[results,Tryz.results25,go_sem, *];done) rfl (.inl ⟨_,cp,mp,_,HYES.out he,rfl,(HAS.out.below hba).below hbb,HPM.out⟩)
    |false=>
     have he:=of_decide_eq_false HR.out
     go_wp2_with (first
      |(go_at_call 27;refine(kz DC.cat hok _ hpm hrk z HZ.out).mono ?_;rintro e wa ⟨BE,cE,rfl,hRE,hba⟩)
      |(go_at_call 52;refine(CD BE A cE c z n _ b HZ.out HN.out (by omega) false HR.out wa hRE (go wa hba)).mono ?_;rintro e wb ⟨rfl,hbb⟩))
     have hB:=DC.low.b
     refine Xx (v:=.tuple #[.pointer none,.int .i64 92]) (by simp[results,Tryz.results25,go_sem, *];done) rfl (.inr ⟨HNO.out he,rfl,hB.trans ((aB hba hbb).mono hB.size)⟩)
theorem iX (n k:Nat) (h:n<2 ^ (8 * k)) (r:EN):cJ k (dG (n:Int) k++r)=some (n,r):=by
 have hl:(dG (n:Int) k).length=k:=aX _ _
 unfold cJ
 rw[Xz (by rw[Vq,hl];omega),List.take_append_of_le_length (by omega),Vx (by omega),List.drop_append_of_le_length (by omega),List.drop_of_length_le (by omega),wj,Nat.mod_eq_of_lt h]
 rfl
theorem oA (x r:EN) (k:Nat) (h:x.length=k):dI k (x++r)=some (x,r):=by
 subst h
 unfold dI
 rw[Xz (by simp)]
 simp
theorem BX {o:List Fd} {f:Fd} {m:Mv} (h:eW o f m=true) (h0:0<=m.d.b) (h1:m.d.b<18446744073709551616) (h16:o.length<=16) (r:EN):jf f (xz m f++r)=some (m,r):=by
 by_cases hf:m.f=-1
 ·have hr:aM m.d.k m.d.b m.d.t f.k f.l=true:=by
   rw[eW,Xz hf,Qz] at h
   exact h.1
  obtain⟨e1,e2,e3,e4⟩:=qj h0 h1 hr
  have hb:xz m f++r=dG ((255:Nat):Int) 1++(cR m.d.b m.d.t f.k f.l++r):=by
   rw[xz,Xz hf,ip,Xz hr,X8]
   rfl
  rw[hb]
  unfold jf
  rw[iX 255 1 (by decide)]
  simp only
  rw[Xz trivial,oA _ _ _ (gS hr)]
  simp only
  rw[Xz e4,gu,Xz e4,e2,e3,<-e1]
  obtain⟨mf,mk,mb,mt⟩:=m
  simp only at hf
  rw[hf]
 ·have hz:=nR h hf
  rw[eW,Xy hf,Qz] at h
  have hp:0<=m.f:=Yv h.1
  obtain⟨k,hk⟩:=Int.eq_ofNat_of_zero_le hp
  have h2:=h.2
  cases ho:o[m.f.toNat]? with
  |none=>rw[ho] at h2;cases h2
  |some g=>
   rw[ho] at h2
   simp only[Qz] at h2
   have hd:m.d=Vl.z:=Yv h2.1
   have hkl:k<16:=by
    have:=(J6.1 ho).1
    rw[hk] at this
    have e:(k:Int).toNat=k:=by simp
    omega
   rw[xz,Xy hf,hz,List.append_nil,hk]
   unfold jf
   rw[iX k 1 (by omega)]
   simp only
   rw[Xy (by omega)]
   obtain⟨mf,md⟩:=m
   simp only at hk hd
   rw[hk,hd]
theorem Dl {t:Tb} (h:iH t) (j:Nat) (hj:j<=t.m.length) (r:EN):rC t.n j (iR t j++r)=some (t.m.take j,r):=by
 obtain⟨_,_,hl,hok⟩:=ae.1 h.r
 have h16:=(bN h.r).1
 induction j generalizing r with
 |zero=>rfl
 |succ j ih=>
  have e1:t.m[j]?=some t.m[j]:=J4 (by omega)
  have e2:t.n[j]?=some t.n[j]:=J4 (by omega)
  have hm:=hok j (by omega)
  rw[eu,e1,e2] at hm
  rw[rC,gx,X8,ih (by omega)]
  simp only
  rw[e2]
  simp only
  have hmv:nk t j=xz t.m[j] t.n[j]:=by rw[nk,e1,e2]
  obtain⟨b0,b1⟩:=h.w _ (J7 e1)
  rw[hmv,BX hm b0 b1 h16]
  simp only
  rw[Vv,e1]
  rfl
theorem BY {fs:List Fd} (h:aK fs=true) (hl:(kN fs).length<65536) (r:EN):jg (kW fs++r)=some (fs,r):=by
 unfold jg
 rw[kW,X8,iX _ 2 (by simpa using hl)]
 simp only
 rw[oA _ _ _ rfl]
 simp only
 rw[kN,Xz h,zH h]
theorem BZ {t:Tb} (h:iH t) (k:Nat) (hl:(kN t.n).length<65536) (hk:k=0->t=bA t.n) (r:EN) (old:List Fd) (ho:k≠0->t.o=old):jH old (decide (k=0)) (oc k t++r)=some (t,r):=by
 obtain⟨_,hn,hml,_⟩:=ae.1 h.r
 unfold jH
 rw[oc,X8,BY hn hl]
 simp only
 by_cases h0:k=0
 ·rw[Xz (by simpa using h0),Xz h0,<-hk h0]
  rfl
 ·rw[Xy (by simpa using h0),Xy h0]
  unfold jG
  rw[<-hml,Dl h _ (J9 _)]
  simp only
  rw[Vx (J9 _),<-ho h0,Xz h.r]
theorem Dm {y:Ty} (h:y.Ok) (hl:∀t∈y.ts,(kN t.n).length<65536) (j:Nat) (hj:j<=y.ts.length) (r:EN):kw j (eG y j++r)=some (y.ts.take j,r):=by
 induction j generalizing r with
 |zero=>rfl
 |succ j ih=>
  have e1:y.ts[j]?=some y.ts[j]:=J4 (by omega)
  have hm:=J7 e1
  rw[kw,ic,X8,ih (by omega)]
  simp only
  have ha:gk y j=oc j y.ts[j]:=by rw[gk,e1]
  rw[ha,BZ (h.ok _ hm) j (hl _ hm) (fun e=>h.k0 _ (by subst e;exact e1)) r _ (fun e=>?_)]
  ·simp only
   rw[Vv,e1]
   rfl
  ·obtain⟨i,rfl⟩:∃i,j=i+1:=⟨j - 1,by omega⟩
   have e0:y.ts[i]?=some y.ts[i]:=J4 (by omega)
   rw[h.ch i _ _ e0 e1,fC,List.getLast?_eq_getElem?,Qx,Nat.min_eq_left (by omega),Nat.add_sub_cancel,List.getElem?_take_of_lt (by omega),e0]
   rfl
theorem Do {y:Ty} (h:y.Ok) (hl:∀t∈y.ts,(kN t.n).length<65536) (r:EN):ro (AU y++r)=some (y,r):=by
 have hs:=jT h.nm
 have hh:=h.hi
 have hto:y.top=y.old+y.ts.length - 1:=rfl
 have hne:0<y.ts.length:=List.length_pos_iff.2 h.ne
 have hlo:=h.lo
 have e:AU y++r=dG (y.s.size:Nat) 1++(bl y.s++(dG (y.old:Nat) 1++(dG (y.top:Nat) 1++(eG y y.ts.length++r)))):=by
  rw[AU,jm];simp only[X8]
 rw[e]
 unfold ro
 rw[iX _ 1 (by omega)]
 simp only
 rw[oA _ _ _ (aZ y.s)]
 simp only
 rw[iX _ 1 (by omega)]
 simp only
 rw[iX _ 1 (by omega)]
 simp only
 have hc:cu y.old y.top (aR (bl y.s))=true:=by rw[cu,cl,h.nm];simp;omega
 rw[Xz hc,show y.top+1 - y.old=y.ts.length by omega,Dm h hl _ (J9 _)]
 simp only
 rw[Vx (J9 _),cl]
theorem Cb {L:List Ty} (h:∀y∈L,y.Ok) (hl:∀y∈L,∀t∈y.ts,(kN t.n).length<65536) (j:Nat) (hj:j<=L.length) (r:EN):dW j (fX L j++r)=some (L.take j,r):=by
 induction j generalizing r with
 |zero=>rfl
 |succ j ih=>
  have e1:L[j]?=some L[j]:=J4 (by omega)
  have hm:=J7 e1
  rw[dW,lX e1,X8,ih (by omega)]
  simp only
  rw[Do (h _ hm) (hl _ hm)]
  simp only
  rw[Vv,e1]
  rfl
theorem xr {D:List Ty} {y:Ty} (h:∀u∈D,dD u.s y.s=true):jd D y=D++[y]:=by
 induction D with
 |nil=>rfl
 |cons x r ih=>
  have hx:=h x (by simp)
  unfold jd fS
  rw[Xy]
  ·show x :: jd r y=_
   rw[ih fun u hu=>h u (List.mem_cons_of_mem _ hu)]
   rfl
  ·intro hy
   have:=kF hx hy
   rw[mI] at this
   cases this
theorem vq {L:List Ty} (h:bU L):dT L=L:=by
 have key:∀(L D:List Ty),bU (D++L)->L.foldl jd D=D++L:=by
  intro L
  induction L with
  |nil=>intro D _;simp
  |cons y r ih=>
   intro D hr
   have h1:∀u∈D,dD u.s y.s=true:=fun u hu=>(List.pairwise_append.1 hr).2.2 u hu y (by simp)
   rw[List.foldl_cons,xr h1,ih]
   ·simp
   ·simpa using hr
 simpa[dT] using key L [] (by simpa using h)
theorem wP {L:List Ty} (h:Wq L) (hr:bU L):dQ (eL L)=some L:=by
 have hl:∀y∈L,∀t∈y.ts,(kN t.n).length<65536:=fun y hy t ht=>by
  have:=mj t.n
  omega
 have h16:=h.len
 have e:eL L=dG ((L.length:Nat):Int) 1++(fX L L.length++[]):=by rw[eL,List.append_nil]
 unfold dQ
 rw[e,iX _ 1 (by omega)]
 simp only
 rw[Cb h.ok hl _ (J9 _)]
 simp only
 rw[Vx (J9 _),vq hr,Xz ⟨h.nd,h16,e⟩]
end
end Go.Proofs.YteembinfgbapgaaGreat
