/- Merged out of: Yp. -/
import Derived.Test.YteembinfgbapgaaGreatE00
import Derived.Test.YteembinfgbapgaaGreatE16
import Derived.Test.YteembinfgbapgaaGreatE13
import Derived.Test.YteembinfgbapgaaGreatE17
set_option linter.unusedSimpArgs false
set_option linter.unusedVariables false
set_option maxRecDepth 100000
set_option maxHeartbeats 8000000
namespace Go.Proofs.YteembinfgbapgaaGreat
section
open Go.RowKit Go.Lib Go.Maps
theorem kv.name {W8 W:EQ} {rb tp o:Nat} {s sn:EP} {am:Bool} {Fv Tv:ER} {fv:List FV} {tv:List bB} (h:kv W8 W rb tp s am sn o Fv Tv fv tv) (t:EP):kv W8 (W.setCell ⟨tp,0,none⟩ (.string t)) rb tp s am t o Fv Tv fv tv:=
 h.move ((aO.of (Jy _ _)).set3 0 _) (h.P.far (p:=⟨tp,0,none⟩) h.hrt.symm _) (aI h.T 0 _)
theorem kv.old {W8 W:EQ} {rb tp o:Nat} {s sn:EP} {am:Bool} {Fv Tv:ER} {fv:List FV} {tv:List bB} (h:kv W8 W rb tp s am sn o Fv Tv fv tv) (x:Nat):kv W8 (W.setCell ⟨tp,1,none⟩ (.int .i64 x)) rb tp s am sn x Fv Tv fv tv:=
 h.move ((aO.of (Jy _ _)).set3 1 _) (h.P.far (p:=⟨tp,1,none⟩) h.hrt.symm _) (aI h.T 1 _)
theorem EU {o la:Nat} {nm:EP} (h:¬(1<=o/\o<=la/\la<=64)):cu o la nm=false:=by unfold cu;rw[Y9 h];rfl
theorem EW {o la:Nat} {nm:EP} (h:bI nm=false):cu o la nm=false:=by unfold cu;rw[h,Bool.and_false]
theorem EV {o la:Nat} {nm:EP} (h:1<=o/\o<=la/\la<=64) (h2:bI nm=true):cu o la nm=true:=by unfold cu;rw[Yx h,h2];rfl
theorem Fc {W:EQ} {b j:Nat} (h:(W.cell? ⟨b,j,none⟩).isSome=true) (u:ER):(W.setCell ⟨b,j,none⟩ u).cell? ⟨b,j,none⟩=some u:=by
 obtain⟨old,h⟩:=Option.isSome_iff_exists.1 h
 have hlt:=World.block_lt_of_cell? W _ h
 unfold World.cell? at h |-
 cases hb:W.heap[b]? with
 |none=>simp[hb] at h
 |some o=>
  cases o with
  |cells c e f=>
   have hk:(W.setCell ⟨b,j,none⟩ u).heap[b]?=some (.cells (c.setIfInBounds j u) e f):=by
    obtain⟨hl,hk⟩:=Qq.1 hb
    show(W.heap.modify b _)[b]?=_
    rw[Array.getElem?_eq_getElem (by rw[Array.size_modify];exact hl),Array.getElem_modify_self,hk]
    simp
   simp[hb] at h
   simp[hk]
   obtain⟨hj,_⟩:=Qq.1 h
   simp_all
  |_=>simp[hb] at h
theorem Fe {W:EQ} {b q j:Nat} {v:ER} (h:W.cell? ⟨q,j,none⟩=some v) (hq:q≠b) (u u':ER):((W.setCell ⟨b,0,none⟩ u).setCell ⟨b,1,none⟩ u').cell? ⟨q,j,none⟩=some v:=
 (World.cell?_of_block (a:=⟨q,j,none⟩) ((J5 _ _ _ _ hq).trans (J5 _ _ _ _ hq))).trans h
theorem au.far {P:Nat->Prop} {w:EQ} {A:EL} {cs:EO} (h:au P w A cs) {p:Addr} (hp:∀g,P g->g≠p.block) (u:ER):au P (w.setCell p u) A cs:=h.keep fun g hg=>J5 _ _ _ _ (hp g hg)
theorem ET {X W9:EQ} {C:EL} {cs:EO} (hb:Below X.heap.size X W9) (h:au (fun g=>X.heap.size<=g) W9 C cs):∃q0,Hid (X.heap.size=q0)/\au (fun g=>q0<=g/\g<W9.heap.size) W9 C cs:=⟨_,J0 rfl,h.lt⟩
theorem au.dr {P:Nat->Prop} {w:EQ} {A:EL} {cs:EO} (h:au P w A cs):au P w.drew A cs:=h
def Ez (b:EN) (w:EQ) (e:Ending) (w':EQ):Prop:=(∃(L:List Ty) (X:List bk) (A:EL) (n c:Nat),dQ b=some L/\e=.returned (.tuple #[.slice A n c,.bool true])/\X.length=n/\X.map (·.y)=L/\bZ (fun _=>True) w' A c X/\Below w.heap.size w w')\/(dQ b=none/\e=.returned (.tuple #[.slice none 0 0,.bool false])/\Below w.heap.size w w')
theorem oH (s:EP) (b:EN) (hs:bl s=b) (hl:b.length<=100000000) (w:EQ):
 Calls Tryz.prog 26 #[.string s] w fun e w'=>Ez b w e w':=by
 have HS:=J0 hs
 clear hs
 go_enter Tryz.func26,Tryz.ntmps26
 go_upto_region 2 with (go_at_call 53;refine(lR s b HS.out hl false 1 (.inl rfl) _).mono ?_;rintro e W1 ⟨s1,nn,am1,rfl,hnn,hl1,st1,hb1⟩)
 have hnn:nn<256:=by simpa using hnn
 have P:=aD.new W1 [.string s1,.bool am1] 124
 have B:=aB hb1 (aA (w:=W1) (.cells #[.string s1,.bool am1] 124))
 obtain⟨rb,hrb⟩:∃r,W1.heap.size=r:=⟨_,rfl⟩
 have hrw:w.heap.size<=rb:=by have:=hb1.size;omega
 go_upto_region 4 with fail
 generalize W1.alloc (.cells #[.string s1,.bool am1] 124)=W2 at *
 have HST1:=J0 st1
 first|rw[hrb] at P |-|rw[hrb] at P
 clear hrb hb1 st1
 go_loopw [2,3,6,7,8,9,10,11,12,13,14,15] (fun _ _ d i _ _ _ _ _ _ _ _ wr=>∃(k:Nat) (X:List bk) (A:EL) (c nx:Nat) (L:List Ty) (s':EP) (am':Bool),k<=nn/\i=.int .i64 k/\d=.slice A nx c/\aD wr rb [.string s',.bool am'] 124/\Below w.heap.size w wr/\X.length=nx/\nx=k/\k<=16/\(bl s').length<=b.length/\bZ (fun _=>True) wr A c X/\Hid (X.map (·.y)=dT L/\(L.map (·.s)).Nodup/\L.length=k/\fY am1 (dW k (bl s1)) L (bl s') am')) (fun _ _ _ i _ _ _ _ _ _ _ _ _=>nn - (intOf i).toNat)
 case atStart=>exact⟨0,[],none,0,0,[],s1,am1,by omega,rfl,rfl,P,B,rfl,rfl,by omega,hl1,⟨Rd.nil _ _,(fun x hx=>by cases hx),J9 _,fun _=>⟨rfl,rfl⟩⟩,J0 ⟨rfl,List.nodup_nil,rfl,fY.refl rfl⟩⟩
 case round=>
  obtain⟨k,X,A,c,nx,L,s',am',hk,rfl,rfl,P',B',hX,rfl,h16,hl',R,HI⟩:=hrel
  clear P B
  by_cases hlt:nx<nn
  ·have k1:decide ((nx:Int)<(nn:Int))=true:=by simp;omega
   have hwk:IntKind.i64.wrap ((nx:Int)+1)=((nx+1:Nat):Int):=(Xj _ (by omega)).trans (by omega)
   go_upto_region 9 with fail
   have T0:=aD.new wr [.string ⟨#[]⟩,.int .i64 0,.slice none 0 0,.slice none 0 0] 58
   have nbt:=aA (w:=wr) (.cells #[.string ⟨#[]⟩,.int .i64 0,.slice none 0 0,.slice none 0 0] 58)
   have M:=kv.start (o:=0) (P'.below nbt) T0 (by have:=P'.lt;omega)
   have hzt:wr.heap.size<(wr.alloc (.cells #[.string ⟨#[]⟩,.int .i64 0,.slice none 0 0,.slice none 0 0] 58)).heap.size:=by simp
   have hBt:Below w.heap.size w (wr.alloc (.cells #[.string ⟨#[]⟩,.int .i64 0,.slice none 0 0,.slice none 0 0] 58)):=B'.trans (nbt.mono B'.size)
   obtain⟨tp,htp⟩:∃r,wr.heap.size=r:=⟨_,rfl⟩
   have hprw:=P'.lt
   rw[htp] at M |-
   generalize wr.alloc (.cells #[.string ⟨#[]⟩,.int .i64 0,.slice none 0 0,.slice none 0 0] 58)=Wt at *
   have RN:Hid (∀W,aO (some rb) (some tp) Wt W->bZ (fun _=>True) W A c X):=J0 fun W hO=>R.nor P' fun g hg hn=>(hO.block g (by have:=nbt.size;omega) (fun e=>hn (Jj e)) (fun e=>by have:=Jj e;omega)).trans (nbt.block g hg)
   clear T0 nbt
   obtain⟨p0,p1,p2,p3⟩:=M.P.f2
   go_upto_region 10 with (go_at_call 53;refine(lR s' _ rfl (by omega) am' 1 (.inl rfl) _).mono ?_;rintro e W3 ⟨s3,nl,am3,rfl,hnl,hl3,st3,hb2⟩;replace M:=M.below hb2;clear p0 p1 p2 p3;obtain⟨p0,p1,p2,p3⟩:=M.P.f2)
   have hnl:nl<256:=by simpa using hnl
   replace M:=M.put s3 am3
   have HST3:=J0 st3
   clear p0 p1 p2 p3 hb2 st3
   generalize (W3.setCell ⟨rb,0,none⟩ (.string s3)).setCell ⟨rb,1,none⟩ (.bool am3)=W4 at *
   obtain⟨p0,p1,p2,p3⟩:=M.P.f2
   obtain⟨t0,t1,t2,t3,t4,t5,t6,t7⟩:=M.T.f8
   go_upto_region 11 with (go_at_call 54;refine(mh s3 _ rfl (by omega) am3 nl (by omega) _).mono ?_;rintro e W5 ⟨s5,nm,am5,rfl,hl5,hnm1,hnm2,st5,_,hb2⟩;replace M:=M.below hb2;clear p0 p1 p2 p3 t0 t1 t2 t3 t4 t5 t6 t7;obtain⟨p0,p1,p2,p3⟩:=M.P.f2;obtain⟨t0,t1,t2,t3,t4,t5,t6,t7⟩:=M.T.f8)
   replace M:=(M.put s5 am5).name nm
   have HST5:=J0 st5
   clear p0 p1 p2 p3 t0 t1 t2 t3 t4 t5 t6 t7 hb2 st5
   generalize ((W5.setCell ⟨rb,0,none⟩ (.string s5)).setCell ⟨rb,1,none⟩ (.bool am5)).setCell ⟨tp,0,none⟩ (.string nm)=W6 at *
   obtain⟨p0,p1,p2,p3⟩:=M.P.f2
   obtain⟨t0,t1,t2,t3,t4,t5,t6,t7⟩:=M.T.f8
   go_upto_region 12 with (go_at_call 53;refine(lR s5 _ rfl (by omega) am5 1 (.inl rfl) _).mono ?_;rintro e W7 ⟨s7,o,am7,rfl,ho,hl7,st7,hb2⟩;replace M:=M.below hb2;clear p0 p1 p2 p3 t0 t1 t2 t3 t4 t5 t6 t7;obtain⟨p0,p1,p2,p3⟩:=M.P.f2;obtain⟨t0,t1,t2,t3,t4,t5,t6,t7⟩:=M.T.f8)
   have ho:o<256:=by simpa using ho
   replace M:=(M.put s7 am7).old o
   have HST7:=J0 st7
   clear p0 p1 p2 p3 t0 t1 t2 t3 t4 t5 t6 t7 hb2 st7
   generalize ((W7.setCell ⟨rb,0,none⟩ (.string s7)).setCell ⟨rb,1,none⟩ (.bool am7)).setCell ⟨tp,1,none⟩ (.int .i64 o)=W8 at *
   obtain⟨p0,p1,p2,p3⟩:=M.P.f2
   go_upto_region 13 with (go_at_call 53;refine(lR s7 _ rfl (by omega) am7 1 (.inl rfl) _).mono ?_;rintro e W9 ⟨s9,la,am9,rfl,hla,hl9,st9,hb2⟩;replace M:=M.below hb2;clear p0 p1 p2 p3;obtain⟨p0,p1,p2,p3⟩:=M.P.f2)
   have hla:la<256:=by simpa using hla
   replace M:=M.put s9 am9
   have HST9:=J0 st9
   clear p0 p1 p2 p3 hb2 st9
   generalize (W9.setCell ⟨rb,0,none⟩ (.string s9)).setCell ⟨rb,1,none⟩ (.bool am9)=Wi at *
   obtain⟨t0,t1,t2,t3,t4,t5,t6,t7⟩:=M.T.f8
   go_upto_region 14 with fail
   clear t0 t1 t2 t3 t4 t5 t6 t7
   have hsl:(bl s9).length<=(bl s').length:=by omega
   have htw:w.heap.size<=Wi.heap.size:=by have:=M.only.size;have:=hBt.size;omega
   go_loopw [11,12,13,14,15] (fun v _ _ _ _ wx=>∃(j i:Nat) (ts:List Tb) (fv:List FV) (tv:List bB) (Fv Tv:ER) (sx:EP) (ax:Bool),(o+i<=j/\j<=o+i)/\v=.int .i64 j/\(j<=la+1\/i=0)/\kv Wt wx rb tp sx ax nm o Fv Tv fv tv/\fv.length=i/\tv.length=i - 1/\(bl sx).length<=(bl s').length/\Hid (fv.map (·.l)=ts.map (·.n)/\tv.map (·.t)=ts.tail/\ts.length=i/\(tv=[]->Tv=.slice none 0 0)/\(∀t∈ts,aK t.n=true)/\fY am9 (kw i (bl s9)) ts (bl sx) ax)) (fun v _ _ _ _ _=>la+1 - (intOf v).toNat)
   case atStart=>exact⟨o,0,[],[],[],_,_,s9,am9,⟨by omega,by omega⟩,rfl,.inr rfl,M,rfl,rfl,hsl,J0 ⟨rfl,rfl,rfl,fun _=>rfl,(fun t ht=>by cases ht),fY.refl rfl⟩⟩
   case round=>
    obtain⟨j,i,ts,fv,tv,Fv,Tv,sx,ax,hji,rfl,hj1,N,hfl,htl,hlx,HJ⟩:=hrel
    clear M
    obtain⟨p0,p1,p2,p3⟩:=N.P.f2
    by_cases hjl:j<=la/\ax=false
    ·obtain⟨hjl,rfl⟩:=hjl
     have f1:decide ((j:Int)<=(la:Int))=true:=by simp;omega
     have hwj:IntKind.i64.wrap ((j:Int)+1)=((j+1:Nat):Int):=(Xj _ (by omega)).trans (by omega)
     go_upto_region 17 with (go_at_call 55;refine(Dw sx _ rfl (by omega) false _).mono ?_;rintro e W3 ⟨s3,fs,vF,nf,am3,rfl,hnf,own3,hfr,hl3,st3,hb2⟩)
     have N3:=N.below hb2
     have RB:=aD.new W3 [.string s3,.bool am3] 124
     have N4:=N3.below (aA (w:=W3) (.cells #[.string s3,.bool am3] 124))
     have own4:=aG own3 (aA (w:=W3) (.cells #[.string s3,.bool am3] 124))
     have hzr:=N.only.size
     have HST10:=J0 st3
     obtain⟨qb,hqb⟩:∃r,W3.heap.size=r:=⟨_,rfl⟩
     rw[hqb] at RB |-
     clear p0 p1 p2 p3 N3 hb2 st3 own3 hqb
     generalize W3.alloc (.cells #[.string s3,.bool am3] 124)=W4 at *
     obtain⟨p0,p1,p2,p3⟩:=N4.P.f2
     obtain⟨r0,r1,_,_⟩:=RB.f2
     go_upto_region 18 with fail
     have N5:=N4.put s3 am3
     obtain⟨F,cF,rfl,hcF,_,_⟩:=aL own4
     have hrow:au (fun g=>Wt.heap.size<=g/\Fv.ownBlock≠some g/\Tv.ownBlock≠some g) ((W4.setCell ⟨rb,0,none⟩ (.string s3)).setCell ⟨rb,1,none⟩ (.bool am3)) F (aC fs):=by
      have h1:au (fun g=>wr.heap.size<=g) W4 F (aC fs):=dj own4 (fun g hg=>aF own4 g hg)
      have hr:=N.hr
      refine(h1.keep (fun g hg=>(J5 _ _ _ _ (by show g≠rb;omega)).trans (J5 _ _ _ _ (by show g≠rb;omega)))).mono (fun g hg=>⟨by omega,fun e=>?_,fun e=>?_⟩)
      ·have:=aY N.ownF g e;omega
      ·have:=aY N.ownT g e;omega
     clear p0 p1 p2 p3 r0 r1 RB N4 own4 N
     generalize (W4.setCell ⟨rb,0,none⟩ (.string s3)).setCell ⟨rb,1,none⟩ (.bool am3)=W5 at *
     obtain⟨t0,t1,t2,t3,t4,t5,t6,t7⟩:=N5.T.f8
     go_upto_if 71 with fail
     clear t0 t1 t2 t3 t4 t5 t6 t7
     go_cut [14,15] (fun _ _ wx=>∃(t:Tb) (tv':List bB) (Tv':ER) (s6:EP) (am6:Bool),kv Wt wx rb tp s6 am6 nm o Fv Tv' fv tv'/\au (fun g=>Wt.heap.size<=g/\Fv.ownBlock≠some g/\Tv'.ownBlock≠some g) wx F (aC fs)/\tv'.length=i/\(bl s6).length<=(bl sx).length/\Hid (t.n=fs/\tv'.map (·.t)=(ts++[t]).tail/\(tv'=[]->Tv'=.slice none 0 0)/\dU false (jH (fC ts) (decide (i=0)) (bl sx)) t (bl s6) am6))
     case first=>
      by_cases hi0:i=0
      ·have e1:decide ((o:Int)<(j:Int))=false:=by simp;omega
       go_wp2_with fail
       go_meet
       obtain⟨a1,a2,a3,a4,a5,a6⟩:=HJ.out
       obtain rfl:ts=[]:=List.eq_nil_of_length_eq_zero (by omega)
       obtain rfl:tv=[]:=List.eq_nil_of_length_eq_zero (by omega)
       refine⟨bA fs,[],Tv,s3,am3,N5,hrow,by simp;omega,hl3,J0 ⟨by rw[bx hfr],rfl,a4,?_⟩⟩
       rw[show decide (i=0)=true by simpa using hi0]
       exact ny HST10.out
      ·
       obtain⟨k,hk1,hk2⟩:∃k,k+1<=i/\i<=k+1:=⟨i - 1,by omega,by omega⟩
       have e1:decide ((o:Int)<(j:Int))=true:=by simp;omega
       obtain⟨v,hv⟩:∃v,fv[k]?=some v:=⟨_,J4 (by omega)⟩
       have hvm:=J7 hv
       obtain⟨hvl,hvr⟩:v.l=fC ts/\aK v.l=true:=by
        obtain⟨a1,a2,a3,a4,a5,a6⟩:=HJ.out
        have h1:(fv.map (·.l))[k]?=some v.l:=by rw[Kv,hv];rfl
        rw[a1,Kv] at h1
        cases hx:ts[k]? with
        |none=>rw[hx] at h1;cases h1
        |some t=>
         rw[hx] at h1
         have e:=Jj h1
         refine⟨?_,?_⟩
         ·rw[fC,List.getLast?_eq_getElem?,show ts.length - 1=k by omega,hx];exact e.symm
         ·rw[<-e];exact a5 t (J7 hx)
       obtain⟨no,hno⟩:∃x,v.l.length=x:=⟨_,rfl⟩
       have hno16:no<=16:=by have:=(aQ hvr).2;omega
       obtain⟨Fa,cv,hFv,_,_,rFv⟩:=aL N5.ownF
       obtain⟨fd,hfd,hfc⟩:=rFv.fv hv
       rw[hfl,hfd] at hFv
       rw[hno] at hfc
       subst hFv
       clear hfd rFv
       have hO:Rd W5 v.A (aC v.l):=(N5.fl v hvm).rd
       have hFs:Rd W5 F (aC fs):=hrow.rd
       have hz5:=N5.only.size
       have HNO:=J0 hno;have HVR:=J0 hvr;have HVL:=J0 hvl;have HNF:=J0 hnf;have HFR:=J0 hfr;have HO:=J0 hO;have HF:=J0 hFs;have HV:=J0 hv;have HVM:=J0 hvm;have HFL:=J0 hfl;have HTL:=J0 htl;have HI0:=J0 hi0
       have hkw:IntKind.i64.wrap ((i:Int) - 1)=(k:Int):=(Xj _ (by omega)).trans (by omega)
       have k0:(0:Int)<=(k:Int):=by omega
       have k1:(k:Int)<(i:Int):=by omega
       have hall:∀W,Below W5.heap.size W5 W->W.cell? ⟨rb,0,none⟩=some (.string s3)/\W.cell? ⟨rb,1,none⟩=some (.bool am3)/\W.cell? ⟨tp,2,none⟩=some (.slice (some fd) i cv)/\W.cell? (fd.add k)=some (.slice v.A no v.a)/\Below W5.heap.size W5 W:=fun W hb=>by
        obtain⟨a0,a1,_,_⟩:=(N5.P.below hb).f2
        obtain⟨_,_,b2,_⟩:=(N5.T.below hb).f4
        exact⟨a0,a1,b2,aE (B:=0) hb hfc,hb⟩
       clear hno hvr hvl hnf hfr hO hFs hv hvm hfl htl hfc hi0
       go_upto_region 19 with fail
       go_cut [14,15] (fun s14 s15 wx=>∃(rb2 tb2:Nat) (s6:EP) (ms:List Mv) (C:EL) (nm2 cm:Nat) (am6:Bool),s14=.pointer (some ⟨rb2,0,none⟩)/\s15=.pointer (some ⟨tb2,0,none⟩)/\wx.cell? ⟨rb2,0,none⟩=some (.string s6)/\wx.cell? ⟨rb2,1,none⟩=some (.bool am6)/\wx.cell? ⟨tb2,0,none⟩=some (.slice v.A no v.a)/\wx.cell? ⟨tb2,1,none⟩=some (.slice F nf cF)/\wx.cell? ⟨tb2,2,none⟩=some (.slice C nm2 cm)/\W5.heap.size<=tb2/\Below W5.heap.size W5 wx/\au (fun g=>W5.heap.size<=g) wx C (aJ ms)/\Hid (ms.length=nm2/\dU am3 (jG v.l fs (bl s3)) ⟨v.l,fs,ms⟩ (bl s6) am6/\(bl s6).length<=(bl s3).length))
       case first=>
        have l1:∀(W:EQ) (o:Obj) (b j:Nat),b<W.heap.size->(W.alloc o).cell? ⟨b,j,none⟩=W.cell? ⟨b,j,none⟩:=fun W o b j h=>(aA (w:=W) o).cell h
        have l2:∀(W:EQ) (cs:Array ER) (T:ES) (b j:Nat),b=W.heap.size->(W.alloc (.cells cs T)).cell? ⟨b,j,none⟩=cs[j]?:=fun W cs T b j h=>by subst h;have h:=Y7 W (.cells cs T);simp only[World.cell?,h];simp
        have l3:∀(W:EQ) (o:Obj) (b j:Nat),b<W.heap.size->(W.alloc o).frozen? ⟨b,j,none⟩=W.frozen? ⟨b,j,none⟩:=fun W o b j h=>by simp only[World.frozen?];rw[(aA (w:=W) o).block b h]
        have l4:∀(W:EQ) (cs:Array ER) (T:ES) (b j:Nat),b=W.heap.size->(W.alloc (.cells cs T)).frozen? ⟨b,j,none⟩=false:=fun W cs T b j h=>by subst h;have h:=Y7 W (.cells cs T);simp only[World.frozen?,h];simp
        go_region_held3 (fun W=>W.cell? ⟨rb,0,none⟩=some (.string s3)/\W.cell? ⟨rb,1,none⟩=some (.bool am3)/\W.cell? ⟨tp,2,none⟩=some (.slice (some fd) i cv)/\W.cell? (fd.add k)=some (.slice v.A no v.a)/\Below W5.heap.size W5 W) ((refine hall _ ?_;repeat (first|with_reducible assumption|with_reducible exact Jy _ _|with_reducible refine J8 ?_ (by dsimp only;(try simp) <;> omega) _|with_reducible refine Jk ?_ (by (try simp) <;> omega) _|with_reducible apply Jv)))
         ((go_at_call 56;obtain⟨_,_,_,_,HBx⟩:=‹_/\_/\_/\_/\Below W5.heap.size W5 _›;refine(AD s3 _ rfl (by omega) am3 v.A no v.a F nf cF v.l fs HNO.out HNF.out HVR.out HFR.out _ (HO.out.below HBx) (HF.out.below HBx)).mono ?_;rintro e W9 ⟨s6,ms,C,nm2,cm,am6,rfl,hnm2,hmw,hC,hl6,st6,hb9⟩;have HNM:=J0 hnm2;obtain⟨q0,HQ0,HC⟩:=ET hb9 hC;have HB9:=aB HBx hb9;have hz9:=HB9.size;have hzx:=HBx.size;have hzz:=hb9.size;obtain⟨hcc,hff⟩:=aS hb9;(try (have zz0:W5.heap.size<W9.heap.size:=by (have hq_:=hb9.size;(try simp at hq_);omega)));(try (have zz1:W5.heap.size+1<W9.heap.size:=by (have hq_:=hb9.size;(try simp at hq_);omega)));clear hnm2 hC))
        all_goals
         go_wp2_with fail
         go_meet
         refine⟨_,_,s6,ms,C,nm2,cm,am6,rfl,rfl,?_,?_,?_,?_,?_,?_,?_,?_,J0 ⟨HNM.out,st6,hl6⟩⟩
         ·first|(go_simp;done)|(go_simp;refine Fc ?_ _;go_simp;done)
         ·first|(go_simp;done)|(go_simp;refine Fc ?_ _;go_simp;done)
         ·first|(go_simp;done)|(go_simp;refine Fc ?_ _;go_simp;done)
         ·first|(go_simp;done)|(go_simp;refine Fc ?_ _;go_simp;done)
         ·first|(go_simp;done)|(go_simp;refine Fc ?_ _;go_simp;done)
         ·(try simp) <;> omega
         ·(repeat (first|with_reducible assumption|with_reducible exact Jy _ _|with_reducible refine J8 ?_ (by dsimp only;(try simp) <;> omega) _|with_reducible refine Jk ?_ (by (try simp) <;> omega) _|with_reducible apply Jv))
         ·have hq0:=HQ0.out
          (try simp at hq0)
          refine au.mono (P:=fun g=>q0<=g/\g<W9.heap.size) ?_ (fun g hg=>by have:=hg.1;omega)
          (repeat (first|with_reducible exact HC|with_reducible refine au.up ?_ (aA _)|with_reducible refine au.far ?_ (fun g hg=>by have:=hg.1;have:=hg.2;dsimp only;omega) _|with_reducible refine au.dr ?_))
       case rest=>
        obtain⟨rb2,tb2,s6,ms,C,nm2,cm,am6,rfl,rfl,r0,r1,tc0,tc1,tc2,htb,hb6,hC6,HT⟩:=hcut
        rename EQ=>W6
        have N6:=N5.below hb6
        obtain⟨p0,p1,p2,p3⟩:=N6.P.f2
        go_upto_region 21 with fail
        have hr:=N6.hr
        have N7:=N6.put s6 am6
        have hrtb:tb2≠rb:=by omega
        have t0:=Fe tc0 hrtb (.string s6) (.bool am6)
        have t1:=Fe tc1 hrtb (.string s6) (.bool am6)
        have t2:=Fe tc2 hrtb (.string s6) (.bool am6)
        have hC7:au (fun g=>W5.heap.size<=g) ((W6.setCell ⟨rb,0,none⟩ (.string s6)).setCell ⟨rb,1,none⟩ (.bool am6)) C (aJ ms):=(hC6.far (p:=⟨rb,0,none⟩) (fun g hg=>by show g≠rb;omega) _).far (p:=⟨rb,1,none⟩) (fun g hg=>by show g≠rb;omega) _
        have hrow7:=((hrow.up hb6).far (p:=⟨rb,0,none⟩) (fun g hg=>by show g≠rb;have:=hg.1;omega) (.string s6)).far (p:=⟨rb,1,none⟩) (fun g hg=>by show g≠rb;have:=hg.1;omega) (.bool am6)
        have hlt5:∀g,(Value.slice (some fd) i cv).ownBlock=some g\/Tv.ownBlock=some g->g<W5.heap.size:=fun g hg=>by
         rcases hg with hg|hg
         ·exact aY N5.ownF g hg
         ·exact aY N5.ownT g hg
        clear r0 r1 p0 p1 p2 p3 tc0 tc1 tc2 hC6 hrow N6 N5 hall hb6
        generalize (W6.setCell ⟨rb,0,none⟩ (.string s6)).setCell ⟨rb,1,none⟩ (.bool am6)=W7 at *
        obtain⟨iT,hiT,hzT0,hzT1,hzT2⟩:=info_parts zY
        obtain⟨_,_,_,u3⟩:=N7.T.f4
        have hownT:=N7.ownT
        have htk:tv.length=k:=by have:=HTL.out;omega
        rw[htk] at hownT
        have hz7:=N7.only.size
        go_wp2_with (at_builtin;refine Y4 _ rfl _ _ 56 rfl Wt.heap.size 110 iT (.agg #[.slice none 0 0,.slice none 0 0,.slice none 0 0]) 3 72 Tryz.underlying56 hiT hzT0 hzT1 hzT2 rfl (by decide) _ _ _ ?g1 (hownT.alloc _) ⟨W7.heap.size,0,none⟩ 1 1 [.slice v.A no v.a,.slice F nf cF,.slice C nm2 cm] ?g2 rfl ?c1 ?c2 ?c3 ?c4 ?c5 ?_)
        case g1=>simp[Act.eval]
        case g2=>simp[Act.eval]
        case c1=>exact jD _ _ _ (by simp)
        case c2=>intro u hu;simp at hu;rcases hu with rfl|rfl|rfl <;> rfl
        case c3=>simp only[maxLen];omega
        case c4=>omega
        case c5=>simp <;> omega
        intro v' w8 hown8 hgrow _ hat
        have hP3:bB.P3 (fun g=>Wt.heap.size<=g/\(Value.slice (some fd) i cv).ownBlock≠some g/\Tv.ownBlock≠some g) W7 ⟨⟨v.l,fs,ms⟩,v.A,v.a,F,cF,C,cm⟩:=⟨N7.fl v HVM.out,hrow7,hC7.mono fun g hg=>⟨by omega,fun e=>by have:=hlt5 g (.inl e);omega,fun e=>by have:=hlt5 g (.inr e);omega⟩⟩
        have N9:=N7.addT (x:=⟨⟨v.l,fs,ms⟩,v.A,v.a,F,cF,C,cm⟩) hP3 htk (v':=v') (n:=k) (W5:=w8) (by show w8.ownsRow _ _ _ _ _ (_++[Value.slice v.A v.l.length v.a,Value.slice F fs.length cF,Value.slice C ms.length cm]);rw[HNO.out,HNF.out,HT.out.1];exact hown8) hgrow (by rw[Jq];exact hat)
        have T8:=(N7.T.below (aA (w:=W7) (.cells #[.slice v.A no v.a,.slice F nf cF,.slice C nm2 cm] 110))).grown hgrow (by intro e;have:=aF hownT tp e.symm;have:=N7.ht;omega)
        obtain⟨T9,c9,rfl,_,_,_⟩:=aL hown8
        clear t0 t1 t2 u3 hown8 hgrow hat hownT N7 hC7 hrow7 hP3
        obtain⟨t0,t1,t2,t3,t4,t5,t6,t7⟩:=T8.f8
        go_wp2_with fail
        go_meet
        refine⟨⟨v.l,fs,ms⟩,tv++[⟨⟨v.l,fs,ms⟩,v.A,v.a,F,cF,C,cm⟩],_,s6,am6,N9,(N9.tb _ (List.mem_append_right _ (List.mem_singleton_self _))).2.1,by rw[Vq,htk];simp;omega,by have:=HT.out.2.2;omega,J0 ⟨rfl,?_,fun h=>by simp at h,?_⟩⟩
        ·obtain⟨a1,a2,a3,a4,a5,a6⟩:=HJ.out
         rw[List.map_append,a2,List.tail_append_of_ne_nil (by intro e;rw[e] at a3;simp at a3;omega)]
         rfl
        ·rw[show decide (i=0)=false by simpa using HI0.out]
         refine qC HST10.out ?_
         rw[<-HVL.out]
         exact HT.out.2.1
     case rest=>
      obtain⟨t,tv',Tv',s6,am6,N6,hr6,htl',hl6,HT⟩:=hcut
      rename EQ=>W6
      clear N5 hrow
      obtain⟨iF,hiF,hzF0,hzF1,hzF2⟩:=info_parts zX
      obtain⟨t0,t1,t2,t3,t4,t5,t6,t7⟩:=N6.T.f8
      have hownF:=N6.ownF
      rw[hfl] at hownF
      have hz6:=N6.only.size
      go_wp2_with (at_builtin;refine Y4 _ rfl _ _ 55 rfl Wt.heap.size 27 iF (.slice none 0 0) 1 24 Tryz.underlying55 hiF hzF0 hzF1 hzF2 rfl (by decide) _ _ _ rfl (hownF.alloc _) ⟨W6.heap.size,0,none⟩ 1 1 [.slice F nf cF] rfl rfl ?c1 ?c2 ?c3 ?c4 ?c5 ?_)
      case c1=>exact cell_one_new _ _ _
      case c2=>intro u hu;simp at hu;subst hu;rfl
      case c3=>simp only[maxLen];omega
      case c4=>omega
      case c5=>simp;omega
      intro v' w8 hown8 hgrow _ hat
      have hN7:=N6.addF (x:=⟨fs,F,cF⟩) hr6 hfl (v':=v') (n:=i) (W5:=w8) (by show w8.ownsRow _ _ _ _ _ (_++[Value.slice F fs.length cF]);rw[hnf];exact hown8) hgrow (by rw[Jq];exact hat)
      have T8:=(N6.T.below (aA (w:=W6) (.cells #[.slice F nf cF] 27))).grown hgrow (by intro e;have:=aF hownF tp e.symm;have:=N6.ht;omega)
      obtain⟨F8,c8,rfl,_,_,_⟩:=aL hown8
      clear t0 t1 t2 t3 t4 t5 t6 t7 hown8 hgrow hat hownF hr6 N6
      obtain⟨t0,t1,t2,t3,t4,t5,t6,t7⟩:=T8.f8
      have hnew:Hid ((fv++[(⟨fs,F,cF⟩:FV)]).map (·.l)=(ts++[t]).map (·.n)/\tv'.map (·.t)=(ts++[t]).tail/\(ts++[t]).length=i+1/\(tv'=[]->Tv'=.slice none 0 0)/\(∀y∈ts++[t],aK y.n=true)/\fY am9 (kw (i+1) (bl s9)) (ts++[t]) (bl s6) am6):=by
       obtain⟨a1,a2,a3,a4,a5,a6⟩:=HJ.out
       obtain⟨b1,b2,b3,b4⟩:=HT.out
       refine J0 ⟨by rw[List.map_append,List.map_append,a1];simp[b1],b2,by simp[a3],b3,fun y hy=>?_,qD a6 b4.w⟩
       rcases X5.1 hy with h|h
       ·exact a5 y h
       ·simp at h;subst h;rw[b1];exact hfr
      go_wp2
      go_roundw
      case rel=>exact⟨j+1,i+1,ts++[t],fv++[⟨fs,F,cF⟩],tv',_,Tv',s6,am6,⟨by omega,by omega⟩,by go_num,.inl (by omega),hN7,by simp[hfl],by omega,by omega,hnew⟩
      case measure=>simp[intOf];omega
    ·
     obtain⟨a1,a2,a3,a4,a5,a6⟩:=HJ.out
     obtain⟨c1,c2,c3,c4⟩:=HI.out
     obtain⟨x,hxy,hxf,hxt,hFv,hTv,hxI⟩:=N.tyv a1 a2 a4
     subst hFv;subst hTv;subst hxf;subst hxt
     have RX:=RN.out _ N.only
     have BW:Below w.heap.size w wr:=hBt.trans (N.only.low hBt.size (fun g e=>by cases e;exact hrw) (fun g e=>by cases e;omega))
     obtain⟨z,hz⟩:∃z,it (X.map (·.y)) nm=z:=⟨_,rfl⟩
     obtain⟨rn,hrn⟩:∃r,bI nm=r:=⟨_,rfl⟩
     have hbad:(ax=true\/cu o la nm=false)->dQ b=none:=fun h=>by
      have ht:fY am' (ro (bl s')) ⟨aR (bl nm),o,ts⟩ (bl sx) true:=rD HST3.out.w HST5.out.w HST7.out.w HST9.out.w (fun _=>rfl) (fun hc=>by
       rcases h with rfl|h
       ·exact tf a6 (by omega)
       ·rw[cl,h] at hc;cases hc) (fun _=>rfl)
      exact io HST1.out.w (iY c4 ht) (by omega)
     have hgd:ax=false->cu o la nm=true->fY am1 (dW (nx+1) (bl s1)) (L++[⟨nm,o,ts⟩]) (bl sx) false:=fun e hc=>by
      subst e
      have hcc:1<=o/\o<=la/\la<=64:=by
       unfold cu at hc
       rw[Qz] at hc
       exact Yv hc.1
      have hnl:¬j<=la:=fun h=>hjl ⟨h,rfl⟩
      have ht:fY am' (ro (bl s')) ⟨aR (bl nm),o,ts⟩ (bl sx) false:=rD HST3.out.w HST5.out.w HST7.out.w HST9.out.w (fun e=>by rw[a6.good.1] at e;cases e) (fun _=>by rw[show la+1 - o=i by omega];exact a6) (fun e=>by rw[cl,hc] at e;cases e)
      rw[cl] at ht
      exact iY c4 ht
     have hnod:¬0<=z->((L++[(⟨nm,o,ts⟩:Ty)]).map (·.s)).Nodup:=fun h0=>by
      rw[List.map_append,List.nodup_append]
      refine⟨c2,by simp,fun u hu q hq=>?_⟩
      rw[show q=nm by simpa using hq]
      obtain⟨t,ht,rfl⟩:=Vy.1 hu
      have hf:ak (X.map (·.y)) nm=none:=by
       cases hf:ak (X.map (·.y)) nm with
       |none=>rfl
       |some t=>obtain⟨q,e,_⟩:=jS hf;rw[hz] at e;omega
      refine df hf t ?_
      rw[c1]
      exact(iD c2).2.symm.subset ht
     have hdup:0<=z->¬((L++[(⟨nm,o,ts⟩:Ty)]).map (·.s)).Nodup:=fun h0 hn=>by
      rw[List.map_append,List.nodup_append] at hn
      cases hf:ak (X.map (·.y)) nm with
      |none=>have:=fH hf;omega
      |some t=>
       obtain⟨hm,hs⟩:=bQ hf
       rw[c1] at hm
       exact hn.2.2 t.s (Vy.2 ⟨t,(iD c2).2.subset hm,rfl⟩) nm (by simp) hs
     have hput:=fun W (hb:Below wr.heap.size wr W)=>AE A c nx X hX (by omega) x i (i - 1) hfl htl W (RX.row.below hb)
     rw[hxy] at hput
     dsimp only at hput
     have HBAD:=J0 hbad;have HGD:=J0 hgd;have HNOD:=J0 hnod;have HDUP:=J0 hdup;have HPUT:=J0 hput;have HRX:=J0 RX;have HXI:=J0 hxI;have HZ:=J0 hz;have HRN:=J0 hrn;have HX:=J0 hX;have HXY:=J0 hxy
     have hrow:=RX.row
     have hsz:nm.size<=9223372036854775807:=by rw[<-aZ];omega
     obtain⟨p0,p1,p2,p3⟩:=N.P.f2
     obtain⟨t0,t1,t2,t3⟩:=N.T.f4
     rw[hfl] at t2
     rw[htl] at t3
     clear a1 a2 a3 a4 a5 a6 c1 c2 c3 c4 hbad hgd hnod hdup hput RX hxI hz hrn hX hxy HJ RN
     by_cases hax:ax=true
     ·subst hax
      have HB0:=BW
      clear hjl
      by_cases hjl:j<=la
      ·have f1:decide ((j:Int)<=(la:Int))=true:=by simp;omega
       go_wp2_with fail
       refine Xx (v:=.tuple #[.slice none 0 0,.bool false]) (by simp[results,Tryz.results26,go_sem, *];done) rfl (.inr ⟨HBAD.out (by simp),rfl,HB0⟩)
      ·have f1:decide ((j:Int)<=(la:Int))=false:=by simp;omega
       go_wp2_with fail
       refine Xx (v:=.tuple #[.slice none 0 0,.bool false]) (by simp[results,Tryz.results26,go_sem, *];done) rfl (.inr ⟨HBAD.out (by simp),rfl,HB0⟩)
     ·obtain rfl:ax=false:=by simpa using hax
      have hnl:¬j<=la:=fun h=>hjl ⟨h,rfl⟩
      have f1:decide ((j:Int)<=(la:Int))=false:=by simp;omega
      clear hjl hax
      go_upto_region 23 with fail
      have HB:=Jy wr.heap.size wr
      by_cases ho1:o<1
      ·have d1:decide ((o:Int)<1)=true:=by simp;omega
       have HN1:=J0 (HBAD.out (.inr (EU (by omega))))
       go_wp2_with fail
       refine Xx (v:=.tuple #[.slice none 0 0,.bool false]) (by simp[results,Tryz.results26,go_sem, *];done) rfl (.inr ⟨HN1.out,rfl,BW⟩)
      have d1:decide ((o:Int)<1)=false:=by simp;omega
      by_cases hlo:la<o
      ·have d2:decide ((la:Int)<(o:Int))=true:=by simp;omega
       have HN1:=J0 (HBAD.out (.inr (EU (by omega))))
       go_wp2_with fail
       refine Xx (v:=.tuple #[.slice none 0 0,.bool false]) (by simp[results,Tryz.results26,go_sem, *];done) rfl (.inr ⟨HN1.out,rfl,BW⟩)
      have d2:decide ((la:Int)<(o:Int))=false:=by simp;omega
      by_cases h64:64<la
      ·have d3:decide ((64:Int)<(la:Int))=true:=by simp;omega
       have HN1:=J0 (HBAD.out (.inr (EU (by omega))))
       go_wp2_with fail
       refine Xx (v:=.tuple #[.slice none 0 0,.bool false]) (by simp[results,Tryz.results26,go_sem, *];done) rfl (.inr ⟨HN1.out,rfl,BW⟩)
      have d3:decide ((64:Int)<(la:Int))=false:=by simp;omega
      cases rn
      ·have HN1:=J0 (HBAD.out (.inr (EW HRN.out)))
       go_wp2_with (go_at_call 57;refine(fW nm hsz _ HRN.out _).mono ?_;rintro e W1 ⟨rfl,hb⟩;replace HB:=HB.trans (hb.mono HB.size);clear hb t0;obtain⟨t0,_,_,_⟩:=(N.T.below HB).f4)
       refine Xx (v:=.tuple #[.slice none 0 0,.bool false]) (by simp[results,Tryz.results26,go_sem, *];done) rfl (.inr ⟨HN1.out,rfl,BW.trans (HB.mono BW.size)⟩)
      have HG:=J0 (HGD.out rfl (EV (by omega) HRN.out))
      by_cases hz0:0<=z
      ·have d4:decide ((0:Int)<=z)=true:=by simpa using hz0
       have HN1:=J0 (zJ HST1.out.w HG.out (by omega) (HDUP.out hz0))
       go_wp2_with (first|(go_at_call 57;refine(fW nm hsz _ HRN.out _).mono ?_;rintro e W1 ⟨rfl,hb⟩;replace HB:=HB.trans (hb.mono HB.size);clear hb t0;obtain⟨t0,_,_,_⟩:=(N.T.below HB).f4)|(go_at_call 42;refine(cS A c nx X HX.out (by omega) nm _ HZ.out _ (hrow.below HB)).mono ?_;rintro e W3 ⟨rfl,hb⟩;replace HB:=HB.trans (hb.mono HB.size);clear hb))
       refine Xx (v:=.tuple #[.slice none 0 0,.bool false]) (by simp[results,Tryz.results26,go_sem, *];done) rfl (.inr ⟨HN1.out,rfl,BW.trans (HB.mono BW.size)⟩)
      have d4:decide ((0:Int)<=z)=false:=by simpa using hz0
      have HNN:=J0 (HNOD.out hz0)
      by_cases hn16:16<=nx
      ·have d5:decide ((16:Int)<=(nx:Int))=true:=by simp;omega
       have d6:decide (16<=nx)=true:=by simp;omega
       have HN1:=J0 (pa HST1.out.w (HI.out.2.2.2) hlt hn16)
       go_wp2_with (first|(go_at_call 57;refine(fW nm hsz _ HRN.out _).mono ?_;rintro e W1 ⟨rfl,hb⟩;replace HB:=HB.trans (hb.mono HB.size);clear hb t0;obtain⟨t0,_,_,_⟩:=(N.T.below HB).f4)|(go_at_call 42;refine(cS A c nx X HX.out (by omega) nm _ HZ.out _ (hrow.below HB)).mono ?_;rintro e W3 ⟨rfl,hb⟩;replace HB:=HB.trans (hb.mono HB.size);clear hb))
       refine Xx (v:=.tuple #[.slice none 0 0,.bool false]) (by simp[results,Tryz.results26,go_sem, *];done) rfl (.inr ⟨HN1.out,rfl,BW.trans (HB.mono BW.size)⟩)
      have d5:decide ((16:Int)<=(nx:Int))=false:=by simp;omega
      have d6:decide (16<=nx)=false:=by simp;omega
      go_upto_region 25 with (first|(go_at_call 57;refine(fW nm hsz _ HRN.out _).mono ?_;rintro e W1 ⟨rfl,hb⟩;replace HB:=HB.trans (hb.mono HB.size);clear hb t0;obtain⟨t0,_,_,_⟩:=(N.T.below HB).f4)|(go_at_call 42;refine(cS A c nx X HX.out (by omega) nm _ HZ.out _ (hrow.below HB)).mono ?_;rintro e W3 ⟨rfl,hb⟩;replace HB:=HB.trans (hb.mono HB.size);clear hb))
      rename EQ=>W3
      have N3:=N.below HB
      clear p0 p1 p2 p3 t0 t1 t2 t3
      obtain⟨t0,t1,t2,t3⟩:=N3.T.f4
      rw[hfl] at t2
      rw[htl] at t3
      go_wp2_with (go_at_call 58;refine(HPUT.out _ HB).mono ?_;rintro e w5 ⟨B,d,rfl,hd,rB,hb5⟩)
      have HB5:=HB.trans (hb5.mono HB.size)
      have P5:=N.P.below HB5
      have BW5:=BW.trans (HB5.mono BW.size)
      have RI:bZ (fun _=>True) w5 B d (fS (·.y.s) x X):=by
       refine⟨rB,fun u hu=>?_,?_,fun he=>?_⟩
       ·rcases List.mem_cons.1 ((dC _ x X).subset hu) with rfl|hu
        ·exact HXI.out.below HB5
        ·exact(HRX.out.ty u hu).below HB5
       ·rw[(dC _ x X).length_eq,Xq,HX.out];exact hd
       ·have:=congrArg List.length he
        rw[(dC _ x X).length_eq] at this
        simp at this
      have hil:(fS (·.y.s) x X).length=nx+1:=by rw[(dC _ x X).length_eq,Xq,HX.out]
      have hI5:Hid ((fS (·.y.s) x X).map (·.y)=dT (L++[⟨nm,o,ts⟩])/\((L++[(⟨nm,o,ts⟩:Ty)]).map (·.s)).Nodup/\(L++[(⟨nm,o,ts⟩:Ty)]).length=nx+1/\fY am1 (dW (nx+1) (bl s1)) (L++[⟨nm,o,ts⟩]) (bl sx) false):=by
       obtain⟨c1,c2,c3,c4⟩:=HI.out
       refine J0 ⟨?_,HNN.out,by simp[c3],HG.out⟩
       refine(tP (fun x:bk=>x.y) (fun t:Ty=>t.s) x X).trans ?_
       rw[c1,HXY.out,dT,dT,List.foldl_append]
       rfl
      go_roundw
      case rel=>exact⟨nx+1,_,B,d,nx+1,L++[⟨nm,o,ts⟩],sx,false,by omega,by go_num,rfl,P5,BW5,hil,rfl,by omega,by omega,RI,hI5⟩
      case measure=>simp[intOf];omega
  ·
   obtain rfl:nx=nn:=by omega
   obtain⟨c1,c2,c3,c4⟩:=HI.out
   obtain⟨p0,p1,p2,p3⟩:=P'.f2
   cases am' with
   |true=>
    have HN1:=J0 (io HST1.out.w c4 (J9 _))
    clear c1 c2 c3 c4
    go_wp2_with fail
    refine Xx (v:=.tuple #[.slice none 0 0,.bool false]) (by simp[results,Tryz.results26,go_sem, *];done) rfl (.inr ⟨HN1.out,rfl,B'⟩)
   |false=>
    obtain⟨hok,hyes,hno⟩:=Bo HST1.out.w c4 c2 (by omega)
    obtain⟨p,hp⟩:∃p,aR (eL (dT L))=p:=⟨_,rfl⟩
    have hps:p=s->dQ b=some (dT L):=fun e=>hyes (by rw[<-fi (eL (dT L)),hp,e];exact HS.out)
    have hpn:p≠s->dQ b=none:=fun e=>hno (fun h=>e (by rw[<-hp,h,<-HS.out,cl]))
    rw[<-c1] at hok hp
    have HOK:=J0 hok;have HP:=J0 hp;have HX:=J0 hX;have HC1:=J0 c1;have HPS:=J0 hps;have HPN:=J0 hpn;have HR:=J0 R
    clear hok hp hX c1 c2 c3 c4 hyes hno hps hpn R
    by_cases he:p=s
    ·have ht:(p.toList == s.toList)=true:=by rw[fU];exact Yx he
     have ht2:(p.toList != s.toList)=false:=by rw[bne,ht];rfl
     have HN1:=J0 (HPS.out he)
     clear he
     go_wp2_with (go_at_call 46;refine(kG HR.out nx HX.out HOK.out p HP.out).mono ?_;rintro e w9 ⟨rfl,hb9⟩)
     refine Xx (v:=.tuple #[.slice A nx c,.bool true]) (by simp[results,Tryz.results26,go_sem, *];done) rfl (.inl ⟨dT L,X,A,nx,c,HN1.out,rfl,HX.out,HC1.out,HR.out.below hb9,B'.trans (hb9.mono B'.size)⟩)
    ·have ht:(p.toList == s.toList)=false:=by rw[fU];exact Y9 he
     have ht2:(p.toList != s.toList)=true:=by rw[bne,ht];rfl
     have HN1:=J0 (HPN.out he)
     clear he
     go_wp2_with (go_at_call 46;refine(kG HR.out nx HX.out HOK.out p HP.out).mono ?_;rintro e w9 ⟨rfl,hb9⟩)
     refine Xx (v:=.tuple #[.slice none 0 0,.bool false]) (by simp[results,Tryz.results26,go_sem, *];done) rfl (.inr ⟨HN1.out,rfl,B'.trans (hb9.mono B'.size)⟩)
end
end Go.Proofs.YteembinfgbapgaaGreat
