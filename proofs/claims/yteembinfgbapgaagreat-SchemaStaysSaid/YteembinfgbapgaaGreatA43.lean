/- The law SchemaAll: WHATEVER THE INPUT it tells true, it never panics, and the input reads as it did: the row, out of SchemaAll_calls. The law SchemaErrors: WHATEVER THE INPUT it tells true, it never panics, and the input reads as it did: the row, out of SchemaErrors_calls. The law SchemaRetires: WHATEVER THE INPUT it tells true, it never panics, and the input reads as it did: the row, out of SchemaRetires_calls. Merged out of: Vp Vq Zg Vr Ze Vs Zf. -/
import Derived.Test.YteembinfgbapgaaGreatA42
import Derived.Test.YteembinfgbapgaaGreatRows
import Derived.Test.YteembinfgbapgaaGreatA01
import Derived.Test.YteembinfgbapgaaGreatA27
import Derived.Test.YteembinfgbapgaaGreatA25
set_option linter.unusedSimpArgs false
set_option linter.unusedVariables false
set_option maxRecDepth 100000
set_option maxHeartbeats 8000000
namespace Go.Proofs.YteembinfgbapgaaGreat
section
open Go.RowKit Go.Lib Go.Maps
theorem putY_perm {L D:List Ty} (hp:L.Perm D) (y:Ty):(putY L y).Perm (putY D y):=hp.map _
theorem rdoD_perm {L D:List Ty} (h:CatOk D) (hp:L.Perm D) (hr:Ranked L) (o:OpZ):(rdoD L o).Perm (doD D o)∧Ranked (rdoD L o)∧doE L o=doE D o∧doV L o=doV D o:=by
 have hf:∀nm,findY L nm=findY D nm:=fun nm=>findY_perm hp h.nd nm
 have hl:=hp.length_eq
 have e0:∀nm fs,defE L nm fs=defE D nm fs:=fun nm fs=>by rw[defE,defE,hf,hl]
 have e1:∀nm cs,chE L nm cs=chE D nm cs:=fun nm cs=>by rw[chE,chE,hf]
 have e2:∀nm q,reE L nm q=reE D nm q:=fun nm q=>by rw[reE,reE,hf]
 have w1:∀nm cs,chV L nm cs=chV D nm cs:=fun nm cs=>by rw[chV,chV,e1,hf]
 have w2:∀nm q,reV L nm q=reV D nm q:=fun nm q=>by rw[reV,reV,e2,hf]
 have d0:(rdefD L o.s o.fs).Perm (defD D o.s o.fs)∧Ranked (rdefD L o.s o.fs):=by
  rw[rdefD,defD,e0]
  by_cases hz:defE D o.s o.fs=0
  ·rw[if_pos hz,if_pos hz]
   refine⟨(insT_perm _ _ _).trans ((hp.cons _).trans (List.perm_append_singleton _ _).symm),insL_ranked hr fun u hu e=>?_⟩
   unfold defE at hz
   split at hz
   ·cases hz
   ·split at hz
    ·cases hz
    ·rename_i hn
     have hnone:findY D o.s=none:=by
      cases hx:findY D o.s with
      |none=>rfl
      |some t=>exact absurd (.inl (by rw[hx];simp)) hn
     exact findY_none hnone u (hp.subset hu) e
  ·rw[if_neg hz,if_neg hz];exact⟨hp,hr⟩
 have d1:(chD L o.s o.cs).Perm (chD D o.s o.cs)∧Ranked (chD L o.s o.cs):=by
  rw[chD,chD,e1,hf]
  split
  ·cases findY D o.s with
   |none=>exact⟨hp,hr⟩
   |some t=>exact⟨putY_perm hp _,hr.put _⟩
  ·exact⟨hp,hr⟩
 have d2:(reD L o.s o.live).Perm (reD D o.s o.live)∧Ranked (reD L o.s o.live):=by
  rw[reD,reD,e2,hf]
  split
  ·cases findY D o.s with
   |none=>exact⟨hp,hr⟩
   |some t=>exact⟨putY_perm hp _,hr.put _⟩
  ·exact⟨hp,hr⟩
 refine⟨?_,?_,by rw[doE,doE,e0,e1,e2],by rw[doV,doV,w1,w2]⟩
 ·rw[rdoD,doD,doD]
  split
  ·exact d0.1
  ·split
   ·exact d1.1
   ·split
    ·exact d2.1
    ·exact hp
 ·rw[rdoD,doD]
  split
  ·exact d0.2
  ·split
   ·exact d1.2
   ·split
    ·exact d2.2
    ·exact hr
def Mid (w:World) (cp mp:Nat) (D L:List Ty) (A:Option Addr) (n c:Nat) (W:World):Prop:=∃E es clock X,E.map (·.y)=D∧X.map (·.y)=L∧X.length=n∧CatIs 89 80 W cp mp E es clock∧Low w W mp E∧CatOk D∧RefIs (Unowned E mp) W A c X
theorem Mid.below {w W W':World} {cp mp:Nat} {D L:List Ty} {A:Option Addr} {n c:Nat} (h:Mid w cp mp D L A n c W) (hb:Below W.heap.size W W'):Mid w cp mp D L A n c W':=by
 obtain⟨E,es,k,X,h1,h2,h3,h4,h5,h6,h7⟩:=h
 exact⟨E,es,k,X,h1,h2,h3,h4.below hb,h5.below hb,h6,h7.below hb⟩
theorem Mid.b {w W:World} {cp mp:Nat} {D L:List Ty} {A:Option Addr} {n c:Nat} (h:Mid w cp mp D L A n c W):Below w.heap.size w W:=by
 obtain⟨E,es,k,X,h1,h2,h3,h4,h5,h6,h7⟩:=h
 exact h5.b
theorem Mid.ok {w W:World} {cp mp:Nat} {D L:List Ty} {A:Option Addr} {n c:Nat} (h:Mid w cp mp D L A n c W):CatOk D:=by
 obtain⟨E,es,k,X,h1,h2,h3,h4,h5,h6,h7⟩:=h
 exact h6
theorem Mid.a {w W:World} {cp mp:Nat} {D L:List Ty} {A:Option Addr} {n c:Nat} (h:Mid w cp mp D L A n c W):ASt w cp mp D W:=by
 obtain⟨E,es,k,X,h1,h2,h3,h4,h5,h6,h7⟩:=h
 exact⟨E,es,k,h1,h4,h5,h6⟩
theorem Unowned.new {W:World} {cp mp:Nat} {E:List En} {es:List MapEntry} {clock:Nat} (h:CatIs 89 80 W cp mp E es clock) {g:Nat} (hg:W.heap.size≤g):Unowned E mp g:=
 ⟨by have:=(Array.getElem?_eq_some_iff.1 h.map).1;omega,fun d hd hh=>by have:=En.lt (h.ents d hd) hh;omega⟩
theorem New_b (w W:World) (hb:Below w.heap.size w W):Calls Tryz.prog 12 #[] W fun e w'=>∃cp mp,e=.returned (.pointer (some ⟨cp,0,none⟩))∧Mid w cp mp [] [] none 0 0 w':=by
 refine(New_a w W hb).mono ?_
 rintro e w' ⟨cp,mp,rfl,⟨E,es,k,h1,h2,h3,h4⟩,hb2⟩
 exact⟨cp,mp,rfl,E,es,k,[],h1,rfl,rfl,h2,h3,h4,⟨Rd.nil _ _,(fun x hx=>by cases hx),Nat.le_refl _,fun _=>⟨rfl,rfl⟩⟩⟩
theorem rDo_b {w W:World} {cp mp:Nat} {D L:List Ty} {A:Option Addr} {n c:Nat} (h:Mid w cp mp D L A n c W) (hp:L.Perm D) (hr:Ranked L) (x:OpV) (hG:x.G W) (hS:x.S) (nf nc nl:Nat) (hnf:x.fs.length=nf) (hnc:x.cs.length=nc) (hnl:x.live.length=nl)
 (q:Int) (hq:doE D x.z=q) (v:Nat) (hv:doV D x.z=v) (L':List Ty) (hL:rdoD L x.z=L'):
 Calls Tryz.prog 36 #[.slice A n c,.agg #[.int .i64 x.k,.string x.s,.slice x.A nf x.a,.slice x.C nc x.c,.slice x.L nl x.l]] W fun e w'=>∃B k d,e=.returned (.tuple #[.slice B k d,.int .i64 (v:Nat),.int .i64 q])∧Mid w cp mp D L' B k d w'∧Below W.heap.size W w':=by
 obtain⟨E,es,k,X,h1,h2,h3,h4,h5,h6,h7⟩:=h
 obtain⟨_,_,hqe,hve⟩:=rdoD_perm h6 hp hr x.z
 refine(rDo_m h7 n h3 (by rw[h2];exact h6.perm hp) x hG hS nf nc nl hnf hnc hnl q (by rw[h2,hqe];exact hq) v (by rw[h2,hve];exact hv) L' (by rw[h2];exact hL)).mono ?_
 rintro e w' ⟨B,m,d,rfl,X',r1,r2,r3,hb⟩
 refine⟨B,m,d,rfl,⟨E,es,k,X',h1,r1,r2,h4.below hb,h5.below hb,h6,r3.mono fun g hg=>?_⟩,hb⟩
 rcases hg with hg|hg
 ·exact hg
 ·exact Unowned.new h4 hg
theorem does_b {w W:World} {cp mp:Nat} {D L:List Ty} {A:Option Addr} {n c:Nat} (h:Mid w cp mp D L A n c W) (x:OpV) (hG:x.G W) (hS:x.S) (nf nc nl:Nat) (hnf:x.fs.length=nf) (hnc:x.cs.length=nc) (hnl:x.live.length=nl)
 (q:Int) (hq:doE D x.z=q) (v:Nat) (hv:doV D x.z=v) (D':List Ty) (hD:doD D x.z=D'):
 Calls Tryz.prog 13 #[.pointer (some ⟨cp,0,none⟩),.agg #[.int .i64 x.k,.string x.s,.slice x.A nf x.a,.slice x.C nc x.c,.slice x.L nl x.l]] W fun e w'=>e=.returned (.tuple #[.int .i64 (v:Nat),.int .i64 q])∧Mid w cp mp D' L A n c w'∧Kp W w':=by
 obtain⟨E,es,k,X,rfl,h2,h3,h4,h5,h6,h7⟩:=h
 refine(does_m h4 h6 x hG hS nf nc nl hnf hnc hnl q hq v hv D' hD).mono ?_
 rintro e w' ⟨rfl,E',es',k',r1,r2,r3⟩
 exact⟨rfl,⟨E',es',k',X,r1,h2,h3,r2,h5.next r3,by rw[←hD];exact h6.do (opOk hG hS),h7.cat h4 r3⟩,fun A cs hA hs=>r3.solid h4 hA hs⟩
theorem stands_b {w W:World} {cp mp:Nat} {D L:List Ty} {A:Option Addr} {n c:Nat} (h:Mid w cp mp D L A n c W) (hp:L.Perm D) (hr:Ranked L):
 Calls Tryz.prog 21 #[.pointer (some ⟨cp,0,none⟩),.slice A n c] W fun e w'=>e=.returned (.bool true)∧Below W.heap.size W w':=by
 obtain⟨E,es,k,X,rfl,rfl,h3,h4,h5,h6,h7⟩:=h
 exact stands_m h4 h6 h7 n h3 hp hr
theorem made_m (A:Option Addr) (cA m:Nat) (os:List OpV) (hm:os.length=m) (hl:m≤281474976710656) (w:World) (hA:Rd w A (cellsO os)) (hG:∀x∈os,x.G w) (hS:∀x∈os,x.S):
 Calls Tryz.prog 17 #[.slice A m cA] w fun e w'=>∃cp mp D L B n c,e=.returned (.tuple #[.pointer (some ⟨cp,0,none⟩),.slice B n c,.bool true])∧Mid w cp mp D L B n c w'∧L.Perm D∧Ranked L:=by
 have HM:=Lib.hid hm;have HG:=Lib.hid hG;have HS:=Lib.hid hS
 clear hm hG hS
 go_enter Tryz.func17,Tryz.ntmps17
 go_upto_region 4 with (go_at_call 12;refine(New_b w _ (Below.refl _ _)).mono ?_;rintro e w1 ⟨cp,mp,rfl,S1⟩)
 go_loopw [6,17] (fun r i wr=>∃(k:Nat) (D L:List Ty) (B:Option Addr) (n c:Nat),k≤m∧i=.int .i64 k∧r=.slice B n c∧Mid w cp mp D L B n c wr∧Hid (L.Perm D∧Ranked L)) (fun _ i _=>m - (intOf i).toNat)
 case atStart=>exact⟨0,[],[],none,0,0,by omega,rfl,rfl,S1,Lib.hid ⟨List.Perm.refl _,List.Pairwise.nil⟩⟩
 case round=>
  obtain⟨k,D,L,B,n,c,hk,rfl,rfl,St,hLD⟩:=hrel
  clear S1
  have HB:=St.b
  have hAr:=hA.below HB
  by_cases hlt:k<m
  ·obtain⟨x,hx⟩:∃x,os[k]?=some x:=⟨_,List.getElem?_eq_getElem (by rw[HM.out];exact hlt)⟩
   have hxm:=List.mem_of_getElem? hx
   have xG:=(HG.out x hxm).below HB
   have xS:=HS.out x hxm
   obtain⟨ad,rfl,c0,c1,c2,c3,c4⟩:=hAr.op hx
   obtain⟨nf,hnf⟩:∃y,x.fs.length=y:=⟨_,rfl⟩
   obtain⟨nc,hnc⟩:∃y,x.cs.length=y:=⟨_,rfl⟩
   obtain⟨nl,hnl⟩:∃y,x.live.length=y:=⟨_,rfl⟩
   rw[hnf] at c2;rw[hnc] at c3;rw[hnl] at c4
   obtain⟨q,hq⟩:∃y,doE D x.z=y:=⟨_,rfl⟩
   obtain⟨v,hv⟩:∃y,doV D x.z=y:=⟨_,rfl⟩
   obtain⟨D',hD⟩:∃y,doD D x.z=y:=⟨_,rfl⟩
   obtain⟨L',hL⟩:∃y,rdoD L x.z=y:=⟨_,rfl⟩
   have hLD':L'.Perm D'∧Ranked L':=by
    obtain⟨a1,a2,_⟩:=rdoD_perm St.ok hLD.out.1 hLD.out.2 x.z
    rw[←hL,←hD];exact⟨a1,a2⟩
   have P:=OBox.new wr [.int .i64 x.k,.string x.s,.slice x.A nf x.a,.slice x.C nc x.c,.slice x.L nl x.l] 31
   have nb:=below_new (w:=wr) (.cells #[.int .i64 x.k,.string x.s,.slice x.A nf x.a,.slice x.C nc x.c,.slice x.L nl x.l] 31)
   have S2:=St.below nb
   have xG2:=xG.below nb
   have HNF:=Lib.hid hnf;have HNC:=Lib.hid hnc;have HNL:=Lib.hid hnl;have HQ:=Lib.hid hq;have HV:=Lib.hid hv;have HD:=Lib.hid hD;have HXS:=Lib.hid xS;have HXG:=Lib.hid xG2;have HL:=Lib.hid hL;have HLD:=Lib.hid hLD'
   clear hAr hx hnf hnc hnl hq hv hD xG xG2 xS HB St hL hLD'
   go_upto_region 6 with fail
   generalize wr.alloc (.cells #[.int .i64 x.k,.string x.s,.slice x.A nf x.a,.slice x.C nc x.c,.slice x.L nl x.l] 31)=W2 at *
   obtain⟨p0,p1,p2,p3,p4⟩:=P.f5
   clear c0 c1 c2 c3 c4 nb
   go_upto_region 10 with (go_at_call 36;refine(rDo_b S2 hLD.out.1 hLD.out.2 x HXG.out HXS.out nf nc nl HNF.out HNC.out HNL.out q HQ.out v HV.out L' HL.out).mono ?_;rintro e w3 ⟨B3,n3,c3,rfl,S3,hb3⟩;replace P:=P.below hb3;replace HXG:=Lib.hid (HXG.out.below hb3);clear S2 p0 p1 p2 p3 p4)
   obtain⟨p0,p1,p2,p3,p4⟩:=P.f5
   go_upto_region 11 with (go_at_call 13;refine(does_b S3 x HXG.out HXS.out nf nc nl HNF.out HNC.out HNL.out q HQ.out v HV.out D' HD.out).mono ?_;rintro e w4 ⟨rfl,S4,_⟩;clear S3 P p0 p1 p2 p3 p4 HXG)
   go_wp2_with (go_at_call 21;refine(stands_b S4 HLD.out.1 HLD.out.2).mono ?_;rintro e w5 ⟨rfl,hb5⟩;replace S4:=S4.below hb5)
   go_roundw
   case rel=>exact⟨k+1,D',L',B3,n3,c3,by omega,by go_num,rfl,S4,HLD⟩
   case measure=>simp[intOf];omega
  ·obtain rfl:k=m:=by omega
   go_wp2
   refine bodyPost_ret (v:=.tuple #[.pointer (some ⟨cp,0,none⟩),.slice B n c,.bool true]) (by simp[results,Tryz.results17,go_sem, *];done) rfl ⟨cp,mp,D,L,B,n,c,rfl,St,hLD.out.1,hLD.out.2⟩
def nmQ:ByteArray:=⟨#[63]⟩
theorem nmQ_max:nmQ.size≤maxLen:=by decide
theorem nmQ_none {D:List Ty} (h:CatOk D):findY D nmQ=none:=by
 cases hf:findY D nmQ with
 |none=>rfl
 |some t=>
  have h1:=(h.ok t (findY_mem hf).1).nm
  rw[(findY_mem hf).2] at h1
  exact absurd h1 (by decide +kernel)
theorem doErr (D:List Ty) (o:OpZ) (h:doE D o≠0):doD D o=D∧doV D o=0:=by
 unfold doE at h
 unfold doD doV
 split
 ·rename_i hk
  rw[if_pos hk] at h
  exact⟨by rw[defD,if_neg h],rfl⟩
 ·rename_i hk
  rw[if_neg hk] at h
  split
  ·rename_i hk1
   rw[if_pos hk1] at h
   exact⟨by rw[chD,if_neg h],by rw[chV,if_neg h]⟩
  ·rename_i hk1
   rw[if_neg hk1] at h
   split
   ·rename_i hk2
    rw[if_pos hk2] at h
    exact⟨by rw[reD,if_neg h],by rw[reV,if_neg h]⟩
   ·exact⟨rfl,rfl⟩
theorem SchemaAll_row (A:Option Addr) (cA:Nat) (os:List OpV) (w:World) (hA:Rd w A (cellsO os)) (hcA:os.length≤cA) (hG:∀x∈os,x.G w) (hz:(∀x∈os,x.S)∧os.length≤281474976710656):
 Calls Tryz.prog 4 #[.slice A os.length cA] w fun e w'=>e=.returned (.bool true)∧Below w.heap.size w w':=by
 obtain⟨m,hm⟩:∃m,os.length=m:=⟨_,rfl⟩
 rw[hm] at hcA ⊢
 obtain⟨hS,hl⟩:=hz
 rw[hm] at hl
 have HM:=Lib.hid hm;have HG:=Lib.hid hG;have HS:=Lib.hid hS
 clear hm hG hS
 go_enter Tryz.func4,Tryz.ntmps4
 go_wp2_with (go_at_call 10;refine(few9_m A cA m os HM.out (by omega) _ hA HG.out HS.out).mono ?_)
 rintro e W1 ⟨rf,rfl,HB⟩
 cases rf
 ·go_wp2_with (go_at_call 11;refine(alive_calls9 _).mono ?_;rintro e wM ⟨rfl,hb'⟩;replace HB:=HB.trans (hb'.mono HB.size);clear hb')
  go_ret
  exact⟨rfl,HB⟩
 have hA1:=hA.below HB
 have HG1:=Lib.hid (fun x hx=>(HG.out x hx).below HB:∀x∈os,x.G W1)
 go_upto_region 4 with (go_at_call 17;refine(made_m A cA m os HM.out (by omega) _ hA1 HG1.out HS.out).mono ?_;rintro e W2 ⟨cp,mp,D,L,B,n,c,rfl,St,hp,hr⟩)
 replace HB:=HB.trans (St.b.mono HB.size)
 have hn:=nmQ_none St.ok
 have e1:verO D nmQ=0:=by rw[verO,hn]
 have e2:verT D nmQ=0:=by rw[verT,hn]
 have e3:verE D nmQ=90:=by rw[verE,hn]
 have e4:fldE D nmQ 1=90:=by rw[fldE,verTab,hn];rfl
 have e5:fldL D nmQ 1=[]:=by rw[fldL,verTab,hn];rfl
 have SA:=St.a
 clear St hp hr hn hA1 HG1
 go_wp2_with (first
  |(go_at_call 15;refine(Versions_a SA nmQ_max 0 0 90 e1 e2 e3).mono ?_;rintro e w5 ⟨rfl,hb5⟩;replace SA:=SA.below hb5;replace HB:=HB.trans (hb5.mono HB.size);clear hb5)
  |(go_at_call 16;refine(Fields_a SA nmQ_max 1 90 e4 [] e5 0 rfl).mono ?_;rintro e w6 ⟨B6,b6,rfl,_,_,hb6⟩;replace SA:=SA.below hb6;replace HB:=HB.trans (hb6.mono HB.size);clear hb6)
  |(go_at_call 11;refine(alive_calls9 _).mono ?_;rintro e wM ⟨rfl,hb'⟩;replace HB:=HB.trans (hb'.mono HB.size);clear hb'))
 go_ret
 exact⟨rfl,HB⟩
end
end Go.Proofs.YteembinfgbapgaaGreat
namespace Go.Proofs.YteembinfgbapgaaGreat.schemaAll
open Go.ChangeShapes Go.WideShapes Go.ChangeAt Go.RowKit Go.Joins
open Go.ChangeMaps (open_string shut_string)
theorem own:ownKnob Tryz.prog.godebug=none:=by kernel_rfl
theorem laidOut:laidOutB Tryz.prog=true:=by kernel_rfl
set_option maxRecDepth 100000 in
theorem lifted (os:Os) (started:os.Started) (H:Type) (enc:TypeId×Value→H):
 ReturnsInHanded {} Tryz.checked os 4 .any (Rows.schemaAllSpec.pre6 enc Tryz.prog Tryz.f4 Rows.schemaAllRow.domain false) (Rows.schemaAllSpec.post enc Tryz.prog Tryz.f4 false true false false):=by
 refine returnsInHanded_of_change_sized (C:=Tryz.checked) own started (by kernel_rfl) Tryz.func4
  (ChangeSpec.witness6 (enc:=enc) (C:=Tryz.checked) false ⟨#[],#[.slice none 0 0],[]⟩ 8 (by kernel_rfl) (by kernel_rfl) (by kernel_rfl) (by kernel_rfl)) ?_
 intro W base args ds gs before hval0 hW hcnd hsz0 _
 have hval:∀(j:Nat) t v,Tryz.f4.params[j]?=some t→args[j]?=some v→Value.okWide Tryz.prog W .any base t v:=hval0
 have hW':=hW
 obtain⟨p,q,hA0,hV,rfl,hfz,hnd⟩:=hW
 have hA:DataW.TrodAll enc Tryz.prog W 0 (fun _=>true) true Tryz.f4.params.toList args.toList ds p:=hA0
 rw[Tryz.params4] at hA hval
 obtain⟨v0,vs0,d0,ds0,p0,q0,hargs,rfl,rfl,h0,r0⟩:=trodAll_cons hA
 obtain⟨rfl,rfl,rfl⟩:=trodAll_nil r0
 obtain rfl:args=#[v0]:=by cases args;simp_all
 obtain⟨rfl,rfl⟩:=trodVars_none hV
 have k0:=h0
 have lt0:∀x∈p0,x.block<W.heap.size:=by obtain⟨m,hm⟩:=k0;exact DataW.trod_lt m _ _ _ hm
 obtain⟨a0,c0,l0,rfl,e0,f0,g0,s0,z0⟩:=open_ops (hval 0 22 v0 rfl rfl) h0
 replace z0:=z0 (SzT.of hsz0 (j:=0) rfl rfl)
 clear hA0 hval0 hsz0
 refine(SchemaAll_row a0 c0 l0 W g0 e0 s0 z0).mono fun e W' ⟨he,bel⟩=>?_
 subst he
 exact⟨_,rfl,_,_,_,[],_,[],hW',trodAll_mk1 (shut_bool Tryz.underlying4 _),(trodAll_cons_mk (Below.trod laidOut (by kernel_rfl) (of_decide_eq_true (by kernel_rfl)) k0 bel lt0) trodAll_mk0),rfl,bel.frame _,fun h=>by cases h⟩
theorem over:Rows.schemaAllRow.holds Tryz.pinned (OpenSpec.ofChange Rows.schemaAllSpec):=
 OpenClaim.holds_of_wide 4 Tryz.f4 rfl rfl rfl rfl rfl rfl rfl ⟨rfl,rfl,rfl,rfl,rfl⟩ rfl rfl rfl rfl rfl (by kernel_rfl) Tryz.func4 (by kernel_rfl)
  (of_decide_eq_true (by kernel_rfl)) (by unfold Func.isWrapper;first|(rw[if_pos (by decide +kernel)];kernel_rfl)|(rw[if_neg (by decide +kernel)];exact⟨rfl,rfl⟩))
  (fun os started H enc _=>lifted os started H enc)
theorem proved:Rows.SchemaAllSaid:=over
end Go.Proofs.YteembinfgbapgaaGreat.schemaAll
namespace Go.Proofs.YteembinfgbapgaaGreat
theorem schemaAll_holds:Rows.SchemaAllSaid:=schemaAll.proved
end Go.Proofs.YteembinfgbapgaaGreat
namespace Go.Proofs.YteembinfgbapgaaGreat
section
open Go.ChangeShapes Go.WideShapes Go.ChangeAt Go.RowKit Go.Joins Go.Deep Go.Lib Go.Maps
section
variable {H:Type} {enc:TypeId×Value→H} {w:World} {base b0:Nat} {r:Reach} {spare:Nat→Bool} {held:Bool} {v:Value} {d:DataW H} {p:List MemPlace}
theorem open_op (hv:Value.okWide Tryz.prog w r b0 31 v) (h:DataW.Trod enc Tryz.prog w base spare held 31 v d p):
 ∃x:OpV,v=.agg x.cells.toArray∧x.G w∧(SzT 31 d→x.S):=by
 obtain⟨cs,rfl,hsz⟩:=okWide_struct Tryz.underlying31 hv
 obtain⟨fuel,hf⟩:=h
 obtain⟨x,e,h1,h2⟩:=elem_op hf
 refine⟨x,?_,h1,h2⟩
 simp only[Value.cells] at e
 rw[←e]
end
theorem SchemaErrors_row (A:Option Addr) (cA:Nat) (os:List OpV) (x:OpV) (w:World) (hA:Rd w A (cellsO os)) (hcA:os.length≤cA) (hG:∀x∈os,x.G w) (hz:(∀x∈os,x.S)∧os.length≤281474976710656) (xG:x.G w) (xS:x.S):
 Calls Tryz.prog 7 #[.slice A os.length cA,.agg x.cells.toArray] w fun e w'=>e=.returned (.bool true)∧Below w.heap.size w w':=by
 obtain⟨m,hm⟩:∃m,os.length=m:=⟨_,rfl⟩
 rw[hm] at hcA ⊢
 obtain⟨hS,hl⟩:=hz
 rw[hm] at hl
 obtain⟨nf,hnf⟩:∃y,x.fs.length=y:=⟨_,rfl⟩
 obtain⟨nc,hnc⟩:∃y,x.cs.length=y:=⟨_,rfl⟩
 obtain⟨nl,hnl⟩:∃y,x.live.length=y:=⟨_,rfl⟩
 have ex:x.cells=[.int .i64 x.k,.string x.s,.slice x.A nf x.a,.slice x.C nc x.c,.slice x.L nl x.l]:=by rw[OpV.cells,hnf,hnc,hnl]
 rw[ex]
 have nb:=below_new (w:=w) (.cells #[.int .i64 x.k,.string x.s,.slice x.A nf x.a,.slice x.C nc x.c,.slice x.L nl x.l] 31)
 have P:=OBox.new w [.int .i64 x.k,.string x.s,.slice x.A nf x.a,.slice x.C nc x.c,.slice x.L nl x.l] 31
 have hA0:=hA.below nb
 have HG:=Lib.hid (fun y hy=>(hG y hy).below nb:∀y∈os,y.G (w.alloc (.cells #[.int .i64 x.k,.string x.s,.slice x.A nf x.a,.slice x.C nc x.c,.slice x.L nl x.l] 31)))
 have HXG:=Lib.hid (xG.below nb)
 have HM:=Lib.hid hm;have HS:=Lib.hid hS;have HXS:=Lib.hid xS;have HNF:=Lib.hid hnf;have HNC:=Lib.hid hnc;have HNL:=Lib.hid hnl;have HEX:=Lib.hid ex
 clear hm hG hS xG xS hnf hnc hnl ex
 go_enter Tryz.func7,Tryz.ntmps7
 go_upto_region 1 with fail
 generalize w.alloc (.cells #[.int .i64 x.k,.string x.s,.slice x.A nf x.a,.slice x.C nc x.c,.slice x.L nl x.l] 31)=W0 at *
 have HB:=nb
 go_wp2_with (go_at_call 10;refine(few9_m A cA m os HM.out (by omega) _ hA0 HG.out HS.out).mono ?_)
 rintro e W1 ⟨rf,rfl,hb1⟩
 replace HB:=HB.trans (hb1.mono HB.size)
 cases rf
 ·go_wp2_with (go_at_call 11;refine(alive_calls9 _).mono ?_;rintro e wM ⟨rfl,hb'⟩;replace HB:=HB.trans (hb'.mono HB.size);clear hb')
  go_ret
  exact⟨rfl,HB⟩
 replace P:=P.below hb1
 obtain⟨p0,p1,p2,p3,p4⟩:=P.f5
 have nb2:=below_new (w:=W1) (.cells #[.int .i64 x.k,.string x.s,.slice x.A nf x.a,.slice x.C nc x.c,.slice x.L nl x.l] 31)
 have R2:Rd (W1.alloc (.cells #[.int .i64 x.k,.string x.s,.slice x.A nf x.a,.slice x.C nc x.c,.slice x.L nl x.l] 31)) (some ⟨W1.heap.size,0,none⟩) (cellsO [x]):=by
  have:=rd_new W1 [.int .i64 x.k,.string x.s,.slice x.A nf x.a,.slice x.C nc x.c,.slice x.L nl x.l] 31
  rw[←HEX.out] at this ⊢
  simpa[cellsO] using this
 have HXG2:=Lib.hid ((HXG.out.below hb1).below nb2)
 go_wp2_with (go_at_call 10;refine(few9_m _ 1 1 [x] rfl (by omega) _ R2 (by simpa using HXG2.out) (by simpa using HXS.out)).mono ?_)
 rintro e W2 ⟨rg,rfl,hb2⟩
 replace HB:=(HB.trans (nb2.mono HB.size)).trans (hb2.mono (Nat.le_trans HB.size nb2.size))
 cases rg
 ·go_wp2_with (go_at_call 11;refine(alive_calls9 _).mono ?_;rintro e wM ⟨rfl,hb'⟩;replace HB:=HB.trans (hb'.mono HB.size);clear hb')
  go_ret
  exact⟨rfl,HB⟩
 have hb12:=nb2.trans (hb2.mono nb2.size)
 replace P:=P.below hb12
 have HX2:=Lib.hid (HXG2.out.below hb2)
 have hA2:=(hA0.below hb1).below hb12
 have HG2:=Lib.hid (fun y hy=>((HG.out y hy).below hb1).below hb12:∀y∈os,y.G W2)
 clear p0 p1 p2 p3 p4 hA0 HG HXG HXG2 R2 nb2 hb2 hb1 hb12 nb
 go_upto_region 4 with (go_at_call 17;refine(made_m A cA m os HM.out (by omega) _ hA2 HG2.out HS.out).mono ?_;rintro e W3 ⟨cp,mp,D,L,B,n,c,rfl,St,hp,hr⟩)
 have hb3:=St.b
 replace P:=P.below hb3
 have HB0:=HB
 have HX3:=Lib.hid (HX2.out.below hb3)
 obtain⟨p0,p1,p2,p3,p4⟩:=P.f5
 obtain⟨q,hq⟩:∃y,doE D x.z=y:=⟨_,rfl⟩
 obtain⟨v,hv⟩:∃y,doV D x.z=y:=⟨_,rfl⟩
 obtain⟨D',hD⟩:∃y,doD D x.z=y:=⟨_,rfl⟩
 have hH:q≠0→D'=D∧v=0:=fun h0=>by
  have:=doErr D x.z (by rw[hq];exact h0)
  rw[←hD,←hv];exact this
 have HQ:=Lib.hid hq;have HV:=Lib.hid hv;have HD:=Lib.hid hD;have HH:=Lib.hid hH;have HP:=Lib.hid hp;have HR:=Lib.hid hr
 clear hq hv hD hH HX2 hA2 HG2 hb3 hp hr
 go_upto_region 7 with (go_at_call 13;refine(does_b St x HX3.out HXS.out nf nc nl HNF.out HNC.out HNL.out q HQ.out v HV.out D' HD.out).mono ?_;rintro e W4 ⟨rfl,S4,_⟩)
 replace HB:Below w.heap.size w W4:=HB0.trans (S4.b.mono HB0.size)
 by_cases h0:q=0
 ·subst h0
  go_wp2_with (go_at_call 11;refine(alive_calls9 _).mono ?_;rintro e wM ⟨rfl,hb'⟩;replace HB:=HB.trans (hb'.mono HB.size);clear hb')
  go_ret
  exact⟨rfl,HB⟩
 ·obtain⟨rfl,rfl⟩:=HH.out h0
  have h0':decide (q=0)=false:=by simpa using h0
  go_wp2_with (first
   |(go_at_call 11;refine(alive_calls9 _).mono ?_;rintro e wM ⟨rfl,HBx⟩;replace HB:=HB.trans (HBx.mono HB.size))
   |(go_at_call 21;refine(stands_b (S4.below HBx) HP.out HR.out).mono ?_;rintro e wS ⟨rfl,hbS⟩;replace HB:=HB.trans (hbS.mono HB.size)))
  go_ret
  exact⟨rfl,HB⟩
end
end Go.Proofs.YteembinfgbapgaaGreat
namespace Go.Proofs.YteembinfgbapgaaGreat.schemaErrors
open Go.ChangeShapes Go.WideShapes Go.ChangeAt Go.RowKit Go.Joins
open Go.ChangeMaps (open_string shut_string)
theorem own:ownKnob Tryz.prog.godebug=none:=by kernel_rfl
theorem laidOut:laidOutB Tryz.prog=true:=by kernel_rfl
set_option maxRecDepth 100000 in
theorem lifted (os:Os) (started:os.Started) (H:Type) (enc:TypeId×Value→H):
 ReturnsInHanded {} Tryz.checked os 7 .any (Rows.schemaErrorsSpec.pre6 enc Tryz.prog Tryz.f7 Rows.schemaErrorsRow.domain false) (Rows.schemaErrorsSpec.post enc Tryz.prog Tryz.f7 false true false false):=by
 refine returnsInHanded_of_change_sized (C:=Tryz.checked) own started (by kernel_rfl) Tryz.func7
  (ChangeSpec.witness6 (enc:=enc) (C:=Tryz.checked) false ⟨#[],#[.slice none 0 0,.agg #[.int .i64 0,.string ByteArray.empty,.slice none 0 0,.slice none 0 0,.slice none 0 0]],[]⟩ 8 (by kernel_rfl) (by kernel_rfl) (by kernel_rfl) (by kernel_rfl)) ?_
 intro W base args ds gs before hval0 hW hcnd hsz0 _
 have hval:∀(j:Nat) t v,Tryz.f7.params[j]?=some t→args[j]?=some v→Value.okWide Tryz.prog W .any base t v:=hval0
 have hW':=hW
 obtain⟨p,q,hA0,hV,rfl,hfz,hnd⟩:=hW
 have hA:DataW.TrodAll enc Tryz.prog W 0 (fun _=>true) true Tryz.f7.params.toList args.toList ds p:=hA0
 rw[Tryz.params7] at hA hval
 obtain⟨v0,vs0,d0,ds0,p0,q0,hargs,rfl,rfl,h0,r0⟩:=trodAll_cons hA
 obtain⟨v1,vs1,d1,ds1,p1,q1,rfl,rfl,rfl,h1,r1⟩:=trodAll_cons r0
 obtain⟨rfl,rfl,rfl⟩:=trodAll_nil r1
 obtain rfl:args=#[v0,v1]:=by cases args;simp_all
 obtain⟨rfl,rfl⟩:=trodVars_none hV
 have k0:=h0
 have lt0:∀x∈p0,x.block<W.heap.size:=by obtain⟨m,hm⟩:=k0;exact DataW.trod_lt m _ _ _ hm
 obtain⟨a0,c0,l0,rfl,e0,f0,g0,s0,z0⟩:=open_ops (hval 0 22 v0 rfl rfl) h0
 replace z0:=z0 (SzT.of hsz0 (j:=0) rfl rfl)
 have k1:=h1
 have lt1:∀x∈p1,x.block<W.heap.size:=by obtain⟨m,hm⟩:=k1;exact DataW.trod_lt m _ _ _ hm
 obtain⟨a1,rfl,y1,z1⟩:=open_op (hval 1 31 v1 rfl rfl) h1
 replace z1:=z1 (SzT.of hsz0 (j:=1) rfl rfl)
 clear hA0 hval0 hsz0
 refine(SchemaErrors_row a0 c0 l0 a1 W g0 e0 s0 z0 y1 z1).mono fun e W' ⟨he,bel⟩=>?_
 subst he
 exact⟨_,rfl,_,_,_,[],_,[],hW',trodAll_mk1 (shut_bool Tryz.underlying4 _),(trodAll_cons_mk (Below.trod laidOut (by kernel_rfl) (of_decide_eq_true (by kernel_rfl)) k0 bel lt0) (trodAll_cons_mk (Below.trod laidOut (by kernel_rfl) (of_decide_eq_true (by kernel_rfl)) k1 bel lt1) trodAll_mk0)),rfl,bel.frame _,fun h=>by cases h⟩
theorem over:Rows.schemaErrorsRow.holds Tryz.pinned (OpenSpec.ofChange Rows.schemaErrorsSpec):=
 OpenClaim.holds_of_wide 7 Tryz.f7 rfl rfl rfl rfl rfl rfl rfl ⟨rfl,rfl,rfl,rfl,rfl⟩ rfl rfl rfl rfl rfl (by kernel_rfl) Tryz.func7 (by kernel_rfl)
  (of_decide_eq_true (by kernel_rfl)) (by unfold Func.isWrapper;first|(rw[if_pos (by decide +kernel)];kernel_rfl)|(rw[if_neg (by decide +kernel)];exact⟨rfl,rfl⟩))
  (fun os started H enc _=>lifted os started H enc)
theorem proved:Rows.SchemaErrorsSaid:=over
end Go.Proofs.YteembinfgbapgaaGreat.schemaErrors
namespace Go.Proofs.YteembinfgbapgaaGreat
theorem schemaErrors_holds:Rows.SchemaErrorsSaid:=schemaErrors.proved
end Go.Proofs.YteembinfgbapgaaGreat
namespace Go.Proofs.YteembinfgbapgaaGreat
section
open Go.RowKit Go.Lib Go.Maps
theorem re_facts {D:List Ty} (h:CatOk D) {nm:ByteArray} {live:List Int} (h0:reE D nm live=0):
 verE D nm=0∧(∀v∈live,¬((verO D nm:Int)≤v∧v<(verT D nm:Int)))∧reV D nm live+verO D nm=verT D nm∧verO (reD D nm live) nm=verT D nm∧verT (reD D nm live) nm=verT D nm∧verE (reD D nm live) nm=0∧
  fldL (reD D nm live) nm (verT D nm:Int)=fldL D nm (verT D nm:Int)∧reE (reD D nm live) nm [(verO D nm:Int),(verT D nm:Int)]=0∧reV (reD D nm live) nm [(verO D nm:Int),(verT D nm:Int)]=0∧verT D nm≤64:=by
 cases hf:findY D nm with
 |none=>unfold reE at h0;rw[hf] at h0;cases h0
 |some t=>
  obtain⟨htm,hts⟩:=findY_mem hf
  have ht:=h.ok t htm
  have hlen:0<t.ts.length:=by cases hx:t.ts with|nil=>exact absurd hx ht.ne|cons a r=>simp
  have htop:t.top=t.old+t.ts.length - 1:=rfl
  have hre:reD D nm live=putY D (reY t):=by rw[reD,if_pos h0,hf]
  have hf2:findY (putY D (reY t)) nm=some (reY t):=findY_self (h.put (reY_ok ht)) (List.mem_map.2 ⟨t,htm,if_pos rfl⟩) hts
  have hv:reV D nm live=t.ts.length - 1:=by rw[reV,if_pos h0,hf]
  have hr2:(reY t).top=t.top:=by show t.top+1 - 1=t.top;omega
  have hro:(reY t).old=t.top:=rfl
  have e1:verO D nm=t.old:=by rw[verO,hf]
  have e2:verT D nm=t.top:=by rw[verT,hf]
  have hu:useB t live=false:=by
   unfold reE at h0;rw[hf] at h0
   cases hx:useB t live with
   |false=>rfl
   |true=>dsimp only at h0;rw[hx] at h0;cases h0
  have hu2:useB (reY t) [(t.old:Int),(t.top:Int)]=false:=by
   unfold useB
   rw[hr2,hro]
   simp
  have hk2:reE (putY D (reY t)) nm [(t.old:Int),(t.top:Int)]=0:=by rw[reE,hf2];dsimp only;rw[hu2];rfl
  rw[hre,e1,e2,hv]
  refine⟨by rw[verE,hf],fun v hv hvv=>?_,by omega,by rw[verO,hf2];exact hro,by rw[verT,hf2];exact hr2,by rw[verE,hf2],?_,hk2,by rw[reV,if_pos hk2,hf2];rfl,ht.hi⟩
  ·unfold useB at hu
   rw[List.any_eq_false] at hu
   have:=hu v hv
   simp at this
   omega
  ·have a1:verTab D nm (t.top:Int)=t.ts.getLast?:=by
    rw[verTab,hf]
    show tabAt t (t.top:Int)=_
    rw[tabAt,if_neg (by omega),List.getLast?_eq_getElem?]
    congr 1
    omega
   have a2:verTab (putY D (reY t)) nm (t.top:Int)=some (keepT t.last):=by
    rw[verTab,hf2]
    show tabAt (reY t) (t.top:Int)=_
    rw[tabAt,hro,if_neg (by omega)]
    have:((t.top:Int) - (t.top:Int)).toNat=0:=by omega
    rw[this];rfl
   obtain⟨x,hx,hl,_⟩:=last_ok ht
   rw[fldL,fldL,a1,a2,hx]
   show(keepT t.last).n=x.n
   rw[keepT_right (last_right ht).1,hl]
theorem re_err {D:List Ty} {nm:ByteArray} {live:List Int} (h0:reE D nm live≠0):reD D nm live=D∧reV D nm live=0∧(verE D nm=0∨reE D nm live=90):=by
 refine⟨by rw[reD,if_neg h0],by rw[reV,if_neg h0],?_⟩
 cases hf:findY D nm with
 |none=>exact .inr (by rw[reE,hf])
 |some t=>exact .inl (by rw[verE,hf])
theorem Retire_b {w W:World} {cp mp:Nat} {D L:List Ty} {A:Option Addr} {n c:Nat} (h:Mid w cp mp D L A n c W) {nm:ByteArray} (hn:nm.size≤maxLen) (K:Option Addr) (cK nl:Nat) (q:List Int) (hnl:q.length=nl) (hl:nl≤9223372036854775807) (hL:Rd W K (cellsI q)) (qe:Int) (hqe:reE D nm q=qe) (v:Nat) (hv:reV D nm q=v) (D':List Ty) (hD:reD D nm q=D'):
 Calls Tryz.prog 20 #[.pointer (some ⟨cp,0,none⟩),.string nm,.slice K nl cK] W fun e w'=>e=.returned (.tuple #[.int .i64 (v:Nat),.int .i64 qe])∧Mid w cp mp D' L A n c w'∧Kp W w':=by
 obtain⟨E,es,k,X,rfl,h2,h3,h4,h5,h6,h7⟩:=h
 refine(Retire_m h4 hn K cK nl q hnl hl hL h6 qe hqe v hv D' hD).mono ?_
 rintro e w' ⟨rfl,E',es',k',r1,r2,r3⟩
 exact⟨rfl,⟨E',es',k',X,r1,h2,h3,r2,h5.next r3,by rw[←hD];exact h6.re nm q,h7.cat h4 r3⟩,fun A cs hA hs=>r3.solid h4 hA hs⟩
theorem SchemaRetires_row (A:Option Addr) (cA:Nat) (os:List OpV) (nm:ByteArray) (K:Option Addr) (live:List Int) (cK:Nat) (w:World) (hA:Rd w A (cellsO os)) (hcA:os.length≤cA) (hG:∀x∈os,x.G w) (hz:(∀x∈os,x.S)∧os.length≤281474976710656) (hn:nm.size≤maxLen) (hK:Rd w K (cellsI live)) (hcK:live.length≤cK) (hcm:cK≤maxLen) (hlz:live.length≤281474976710656):
 Calls Tryz.prog 6 #[.slice A os.length cA,.string nm,.slice K live.length cK] w fun e w'=>e=.returned (.bool true)∧Below w.heap.size w w':=by
 obtain⟨m,hm⟩:∃m,os.length=m:=⟨_,rfl⟩
 obtain⟨nl,hnl⟩:∃m,live.length=m:=⟨_,rfl⟩
 rw[hm] at hcA ⊢
 rw[hnl] at hcK hlz ⊢
 obtain⟨hS,hl⟩:=hz
 rw[hm] at hl
 have HM:=Lib.hid hm;have HG:=Lib.hid hG;have HS:=Lib.hid hS;have HNL:=Lib.hid hnl;have HN:=Lib.hid hn
 clear hm hG hS hnl hn hcm
 go_enter Tryz.func6,Tryz.ntmps6
 go_wp2_with (go_at_call 10;refine(few9_m A cA m os HM.out (by omega) _ hA HG.out HS.out).mono ?_)
 rintro e W1 ⟨rf,rfl,HB⟩
 cases rf
 ·go_wp2_with (go_at_call 11;refine(alive_calls9 _).mono ?_;rintro e wM ⟨rfl,hb'⟩;replace HB:=HB.trans (hb'.mono HB.size);clear hb')
  go_ret
  exact⟨rfl,HB⟩
 by_cases h100:100<nl
 ·have d1:decide ((100:Int)<(nl:Int))=true:=by simp;omega
  go_wp2_with (go_at_call 11;refine(alive_calls9 _).mono ?_;rintro e wM ⟨rfl,hb'⟩;replace HB:=HB.trans (hb'.mono HB.size);clear hb')
  go_ret
  exact⟨rfl,HB⟩
 have d1:decide ((100:Int)<(nl:Int))=false:=by simp;omega
 have hA1:=hA.below HB
 have hK1:=hK.below HB
 have HG1:=Lib.hid (fun x hx=>(HG.out x hx).below HB:∀x∈os,x.G W1)
 have HB0:=HB
 clear HB
 go_upto_region 4 with (go_at_call 17;refine(made_m A cA m os HM.out (by omega) _ hA1 HG1.out HS.out).mono ?_;rintro e W2 ⟨cp,mp,D,L,B,n,c,rfl,St,hp,hr⟩)
 obtain⟨o,ho⟩:∃o,verO D nm=o:=⟨_,rfl⟩
 obtain⟨t,ht⟩:∃o,verT D nm=o:=⟨_,rfl⟩
 obtain⟨q,hq⟩:∃o,verE D nm=o:=⟨_,rfl⟩
 obtain⟨fq,hfq⟩:∃o,fldE D nm (t:Int)=o:=⟨_,rfl⟩
 obtain⟨l,hl⟩:∃o,fldL D nm (t:Int)=o:=⟨_,rfl⟩
 obtain⟨z,hz⟩:∃o,l.length=o:=⟨_,rfl⟩
 obtain⟨re,hre⟩:∃o,reE D nm live=o:=⟨_,rfl⟩
 obtain⟨rv,hrv⟩:∃o,reV D nm live=o:=⟨_,rfl⟩
 obtain⟨D',hD⟩:∃o,reD D nm live=o:=⟨_,rfl⟩
 have hz16:z≤16:=by rw[←hz,←hl];exact fldL_16 St.ok _ _
 have h1:re=0→q=0∧(∀v∈live,¬((o:Int)≤v∧v<(t:Int)))∧rv+o=t∧verO D' nm=t∧verT D' nm=t∧verE D' nm=0∧fldL D' nm (t:Int)=l∧reE D' nm [(o:Int),(t:Int)]=0∧reV D' nm [(o:Int),(t:Int)]=0∧t≤64:=fun h0=>by
  have:=re_facts St.ok (nm:=nm) (live:=live) (by rw[hre];exact h0)
  rw[ho,ht,hD,hrv,hq,hl] at this
  exact this
 have h2:re≠0→D'=D∧rv=0∧(q=0∨re=90):=fun h0=>by
  have:=re_err (D:=D) (nm:=nm) (live:=live) (by rw[hre];exact h0)
  rw[hre,hrv,hD,hq] at this
  exact this
 have HO:=Lib.hid ho;have HT:=Lib.hid ht;have HQ:=Lib.hid hq;have HFQ:=Lib.hid hfq;have HL:=Lib.hid hl;have HZ:=Lib.hid hz;have HRE:=Lib.hid hre;have HRV:=Lib.hid hrv;have HD:=Lib.hid hD;have H1:=Lib.hid h1;have H2:=Lib.hid h2;have HP:=Lib.hid hp;have HR:=Lib.hid hr
 clear ho ht hq hfq hl hz hre hrv hD h1 h2 hp hr hA1 HG1
 go_upto_region 9 with (first
  |(go_at_call 15;refine(Versions_a St.a HN.out o t q HO.out HT.out HQ.out).mono ?_;rintro e w5 ⟨rfl,hb5⟩;replace St:=St.below hb5;clear hb5)
  |(go_at_call 16;refine(Fields_a St.a HN.out (t:Int) fq HFQ.out l HL.out z HZ.out).mono ?_;rintro e w6 ⟨B6,b6,rfl,_,r6,hb6⟩;replace St:=St.below hb6;replace r6:=r6.rd;clear hb6)
  |(go_at_call 20;refine(Retire_b St HN.out K cK nl live HNL.out (by omega) (hK1.below St.b) re HRE.out rv HRV.out D' HD.out).mono ?_;rintro e w7 ⟨rfl,S7,K7⟩;replace r6:=K7 _ _ r6 (Solid.flds _)))
 by_cases h0:re=0
 ·subst h0
  obtain⟨rfl,hlv,hsum,o2,t2,q2,l2,re2,rv2,ht64⟩:=H1.out rfl
  have HO2:=Lib.hid o2;have HT2:=Lib.hid t2;have HQ2:=Lib.hid q2;have HL2:=Lib.hid l2;have HRE2:=Lib.hid re2;have HRV2:=Lib.hid rv2;have HLV:=Lib.hid hlv
  clear o2 t2 q2 l2 re2 rv2 hlv H1 H2 St
  go_upto_region 12 with fail
  go_loopw [18,86] (fun _ i wr=>∃k:Nat,k≤nl∧i=.int .i64 k∧wr=w7) (fun _ i _=>nl - (intOf i).toNat)
  case atStart=>exact⟨0,by omega,rfl,rfl⟩
  case round=>
   obtain⟨k,hk,rfl,rfl⟩:=hrel
   by_cases hlt:k<nl
   ·obtain⟨v,hv⟩:∃v,live[k]?=some v:=⟨_,List.getElem?_eq_getElem (by rw[HNL.out];exact hlt)⟩
    have hnot:=HLV.out v (List.mem_of_getElem? hv)
    obtain⟨ad,rfl,c0⟩:=(hK1.below S7.b).at (j:=k) (u:=.int .i64 v) (by simp[cellsI,hv])
    have i0:(0:Int)≤(k:Int):=by omega
    have i1:(k:Int)<(nl:Int):=by omega
    have hw3:IntKind.i64.wrap ((k:Int)+1)=((k+1:Nat):Int):=(IntWalk.i64_in _ (by omega)).trans (by omega)
    clear hv
    by_cases hg:(o:Int)≤v
    ·have g1:decide ((o:Int)≤v)=true:=by simpa using hg
     have g2:decide (v<(t:Int))=false:=by rw[decide_eq_false_iff_not];exact fun h=>hnot ⟨hg,h⟩
     go_wp2
     go_roundw
     case rel=>exact⟨k+1,by omega,by go_num,trivial⟩
     case measure=>simp[intOf];omega
    ·have g1:decide ((o:Int)≤v)=false:=by simpa using hg
     go_wp2
     go_roundw
     case rel=>exact⟨k+1,by omega,by go_num,trivial⟩
     case measure=>simp[intOf];omega
   ·obtain rfl:k=nl:=by omega
    have hw5:IntKind.i64.wrap ((t:Int) - (o:Int))=(rv:Int):=(IntWalk.i64_in _ (by omega)).trans (by omega)
    go_upto_region 19 with (first
     |(go_at_call 15;refine(Versions_a S7.a HN.out t t 0 HO2.out HT2.out HQ2.out).mono ?_;rintro e w8 ⟨rfl,hb8⟩;replace S7:=S7.below hb8;replace r6:=r6.below hb8;clear hb8)
     |(go_at_call 16;refine(Fields_a S7.a HN.out (t:Int) _ rfl l HL2.out z HZ.out).mono ?_;rintro e w9 ⟨B9,b9,rfl,_,r9,hb9⟩;replace S7:=S7.below hb9;replace r6:=r6.below hb9;replace r9:=r9.rd;clear hb9))
    have nb9:=below_new (w:=w9) (.cells #[.int .i64 (o:Nat),.int .i64 (t:Nat)] 3)
    have R9:Rd (w9.alloc (.cells #[.int .i64 (o:Nat),.int .i64 (t:Nat)] 3)) (some ⟨w9.heap.size,0,none⟩) (cellsI [(o:Int),(t:Int)]):=rd_new w9 (cellsI [(o:Int),(t:Int)]) 3
    replace S7:=S7.below nb9
    replace r6:=r6.below nb9
    replace r9:=r9.below nb9
    have hok:CatOk D':=S7.ok
    go_upto_region 20 with (go_at_call 20;refine(Retire_b S7 HN.out _ 2 2 [(o:Int),(t:Int)] rfl (by omega) R9 0 HRE2.out 0 HRV2.out _ rfl).mono ?_;rintro e wA ⟨rfl,SA,KA⟩;replace r6:=KA _ _ r6 (Solid.flds _);replace r9:=KA _ _ r9 (Solid.flds _))
    have HB:=HB0.trans (SA.b.mono HB0.size)
    have hsub:decide ((rv:Int)=(rv:Int))=true:=by simp
    go_wp2_with (first
     |(go_at_call 11;refine(alive_calls9 _).mono ?_;rintro e wM ⟨rfl,hb'⟩;replace HB:=HB.trans (hb'.mono HB.size);replace r6:=r6.below hb';replace r9:=r9.below hb';clear hb')
     |(go_at_call 22;refine(Same6_m B9 B6 b9 b6 z z l l HZ.out HZ.out true (by simp[sameFB]) _ r9 r6 (by omega) (by omega)).mono ?_;rintro e w8 ⟨rfl,hb8⟩;replace HB:=HB.trans (hb8.mono HB.size);clear hb8))
    go_ret
    exact⟨rfl,HB⟩
 ·obtain⟨rfl,rfl,h90⟩:=H2.out h0
  have h0':decide (re=0)=false:=by simpa using h0
  have HB:=HB0.trans (S7.b.mono HB0.size)
  rcases h90 with rfl|rfl
  all_goals
   go_wp2_with (first
    |(go_at_call 11;refine(alive_calls9 _).mono ?_;rintro e wM ⟨rfl,HBx⟩;replace HB:=HB.trans (HBx.mono HB.size))
    |(go_at_call 21;refine(stands_b (S7.below HBx) HP.out HR.out).mono ?_;rintro e wS ⟨rfl,hbS⟩;replace HB:=HB.trans (hbS.mono HB.size)))
   all_goals (go_ret;exact⟨rfl,HB⟩)
end
end Go.Proofs.YteembinfgbapgaaGreat
namespace Go.Proofs.YteembinfgbapgaaGreat.schemaRetires
open Go.ChangeShapes Go.WideShapes Go.ChangeAt Go.RowKit Go.Joins
open Go.ChangeMaps (open_string shut_string)
theorem own:ownKnob Tryz.prog.godebug=none:=by kernel_rfl
theorem laidOut:laidOutB Tryz.prog=true:=by kernel_rfl
set_option maxRecDepth 100000 in
theorem lifted (os:Os) (started:os.Started) (H:Type) (enc:TypeId×Value→H):
 ReturnsInHanded {} Tryz.checked os 6 .any (Rows.schemaRetiresSpec.pre6 enc Tryz.prog Tryz.f6 Rows.schemaRetiresRow.domain false) (Rows.schemaRetiresSpec.post enc Tryz.prog Tryz.f6 false true false false):=by
 refine returnsInHanded_of_change_sized (C:=Tryz.checked) own started (by kernel_rfl) Tryz.func6
  (ChangeSpec.witness6 (enc:=enc) (C:=Tryz.checked) false ⟨#[],#[.slice none 0 0,.string ByteArray.empty,.slice none 0 0],[]⟩ 8 (by kernel_rfl) (by kernel_rfl) (by kernel_rfl) (by kernel_rfl)) ?_
 intro W base args ds gs before hval0 hW hcnd hsz0 _
 have hval:∀(j:Nat) t v,Tryz.f6.params[j]?=some t→args[j]?=some v→Value.okWide Tryz.prog W .any base t v:=hval0
 have hW':=hW
 obtain⟨p,q,hA0,hV,rfl,hfz,hnd⟩:=hW
 have hA:DataW.TrodAll enc Tryz.prog W 0 (fun _=>true) true Tryz.f6.params.toList args.toList ds p:=hA0
 rw[Tryz.params6] at hA hval
 obtain⟨v0,vs0,d0,ds0,p0,q0,hargs,rfl,rfl,h0,r0⟩:=trodAll_cons hA
 obtain⟨v1,vs1,d1,ds1,p1,q1,rfl,rfl,rfl,h1,r1⟩:=trodAll_cons r0
 obtain⟨v2,vs2,d2,ds2,p2,q2,rfl,rfl,rfl,h2,r2⟩:=trodAll_cons r1
 obtain⟨rfl,rfl,rfl⟩:=trodAll_nil r2
 obtain rfl:args=#[v0,v1,v2]:=by cases args;simp_all
 obtain⟨rfl,rfl⟩:=trodVars_none hV
 have k0:=h0
 have lt0:∀x∈p0,x.block<W.heap.size:=by obtain⟨m,hm⟩:=k0;exact DataW.trod_lt m _ _ _ hm
 obtain⟨a0,c0,l0,rfl,e0,f0,g0,s0,z0⟩:=open_ops (hval 0 22 v0 rfl rfl) h0
 replace z0:=z0 (SzT.of hsz0 (j:=0) rfl rfl)
 obtain⟨a1,rfl,rfl,rfl,w1⟩:=open_string Tryz.underlying9 (hval 1 9 v1 rfl rfl) h1
 have k2:=h2
 have lt2:∀x∈p2,x.block<W.heap.size:=by obtain⟨m,hm⟩:=k2;exact DataW.trod_lt m _ _ _ hm
 obtain⟨a2,b2,c2,rfl,e2,f2,g2,z2⟩:=open_intsz (hval 2 29 v2 rfl rfl) h2
 replace z2:=z2 (SzT.of hsz0 (j:=2) rfl rfl)
 clear hA0 hval0 hsz0
 refine(SchemaRetires_row a0 c0 l0 a1 a2 b2 c2 W g0 e0 s0 z0 w1 g2 e2 f2 z2).mono fun e W' ⟨he,bel⟩=>?_
 subst he
 exact⟨_,rfl,_,_,_,[],_,[],hW',trodAll_mk1 (shut_bool Tryz.underlying4 _),(trodAll_cons_mk (Below.trod laidOut (by kernel_rfl) (of_decide_eq_true (by kernel_rfl)) k0 bel lt0) (trodAll_cons_mk (shut_string Tryz.underlying9 w1) (trodAll_cons_mk (Below.trod laidOut (by kernel_rfl) (of_decide_eq_true (by kernel_rfl)) k2 bel lt2) trodAll_mk0))),rfl,bel.frame _,fun h=>by cases h⟩
theorem over:Rows.schemaRetiresRow.holds Tryz.pinned (OpenSpec.ofChange Rows.schemaRetiresSpec):=
 OpenClaim.holds_of_wide 6 Tryz.f6 rfl rfl rfl rfl rfl rfl rfl ⟨rfl,rfl,rfl,rfl,rfl⟩ rfl rfl rfl rfl rfl (by kernel_rfl) Tryz.func6 (by kernel_rfl)
  (of_decide_eq_true (by kernel_rfl)) (by unfold Func.isWrapper;first|(rw[if_pos (by decide +kernel)];kernel_rfl)|(rw[if_neg (by decide +kernel)];exact⟨rfl,rfl⟩))
  (fun os started H enc _=>lifted os started H enc)
theorem proved:Rows.SchemaRetiresSaid:=over
end Go.Proofs.YteembinfgbapgaaGreat.schemaRetires
namespace Go.Proofs.YteembinfgbapgaaGreat
theorem schemaRetires_holds:Rows.SchemaRetiresSaid:=schemaRetires.proved
end Go.Proofs.YteembinfgbapgaaGreat
namespace Go.Proofs.YteembinfgbapgaaGreat
end Go.Proofs.YteembinfgbapgaaGreat
