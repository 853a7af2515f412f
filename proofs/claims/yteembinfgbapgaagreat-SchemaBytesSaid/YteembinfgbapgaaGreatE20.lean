/- The law SchemaBytes: WHATEVER THE INPUT it tells true, it never panics, and the input reads as it did: the row, out of SchemaBytes_calls. Merged out of: Yq Zb. -/
import Derived.Test.YteembinfgbapgaaGreatE00
import Derived.Test.YteembinfgbapgaaGreatE18
import Derived.Test.YteembinfgbapgaaGreatE19
import Derived.Test.YteembinfgbapgaaGreatE15
import Derived.Test.YteembinfgbapgaaGreatRows
import Derived.Test.YteembinfgbapgaaGreatE01
import Derived.Test.YteembinfgbapgaaGreatE09
set_option linter.unusedSimpArgs false
set_option linter.unusedVariables false
set_option maxRecDepth 100000
set_option maxHeartbeats 8000000
namespace Go.Proofs.YteembinfgbapgaaGreat
section
open Go.RowKit Go.Lib Go.Maps
theorem tC {b:EN} {L:List Ty} (h:dQ b=some L):bU L:=by
 unfold dQ at h
 cases e1:cJ 1 b with
 |none=>rw[e1] at h;cases h
 |some y=>
  rw[e1] at h
  simp only at h
  cases e2:dW y.1 y.2 with
  |none=>rw[e2] at h;cases h
  |some z=>
   rw[e2] at h
   simp only at h
   split at h
   ·rename_i hc
    obtain rfl:=Jj h
    exact(iD hc.1).1
   ·cases h
theorem sk {L:List Ty} (h:Wq L):(eL L).length<=1363233:=by
 have:=kt h.ok h.len L.length
 rw[eL,Vq,aX]
 omega
theorem jp (w:EQ) (A:EL) (c n:Nat) (b:EN) (hn:b.length=n) (hA:Rd w A (aH b)) (hl:n<=100000000) (hc:n<=c) (hcm:c<=maxLen) {L:List Ty} (h:dQ b=some L):
 Calls Tryz.prog 25 #[.slice A n c] w fun e w'=>∃cp mp D,e=.returned (.tuple #[.pointer (some ⟨cp,0,none⟩),.int .i64 0])/\mY w cp mp D w'/\L.Perm D:=by
 refine(sE w A c n b hn hA hl hc hcm).mono ?_
 rintro e w' (⟨L',cp,mp,D,h1,h2,h3,h4⟩|⟨h1,_⟩)
 ·rw[h] at h1;cases h1;exact⟨cp,mp,D,h2,h3,h4⟩
 ·rw[h] at h1;cases h1
theorem xL (w:EQ) (A:EL) (c n:Nat) (b:EN) (hn:b.length=n) (hA:Rd w A (aH b)) (hl:n<=100000000) (hc:n<=c) (hcm:c<=maxLen) (h:dQ b=none):
 Calls Tryz.prog 25 #[.slice A n c] w fun e w'=>e=.returned (.tuple #[.pointer none,.int .i64 92])/\Below w.heap.size w w':=by
 refine(sE w A c n b hn hA hl hc hcm).mono ?_
 rintro e w' (⟨L',cp,mp,D,h1,h2,h3,h4⟩|⟨h1,h2⟩)
 ·rw[h] at h1;cases h1
 ·exact h2
theorem tn (s:EP) (b:EN) (hs:bl s=b) (hl:b.length<=100000000) {L:List Ty} (h:dQ b=some L) (w:EQ):
 Calls Tryz.prog 26 #[.string s] w fun e w'=>∃(X:List bk) (A:EL) (n c:Nat),e=.returned (.tuple #[.slice A n c,.bool true])/\X.length=n/\X.map (·.y)=L/\bZ (fun _=>True) w' A c X/\Below w.heap.size w w':=by
 refine(oH s b hs hl w).mono ?_
 rintro e w' (⟨L',X,A,n,c,h1,h2⟩|⟨h1,_⟩)
 ·rw[h] at h1;cases h1;exact⟨X,A,n,c,h2⟩
 ·rw[h] at h1;cases h1
theorem vY (s:EP) (b:EN) (hs:bl s=b) (hl:b.length<=100000000) (h:dQ b=none) (w:EQ):
 Calls Tryz.prog 26 #[.string s] w fun e w'=>e=.returned (.tuple #[.slice none 0 0,.bool false])/\Below w.heap.size w w':=by
 refine(oH s b hs hl w).mono ?_
 rintro e w' (⟨L',X,A,n,c,h1,h2⟩|⟨h1,h2⟩)
 ·rw[h] at h1;cases h1
 ·exact h2
theorem oX {w W:EQ} {cp mp:Nat} {D L:List Ty} (ha:mY w cp mp D W) {Q:Nat->Prop} {A:EL} {n c:Nat} {X:List bk} (hr:bZ Q W A c X) (hn:X.length=n) (hX:X.map (·.y)=L) (hp:L.Perm D) (hrk:bU L):
 Calls Tryz.prog 21 #[.pointer (some ⟨cp,0,none⟩),.slice A n c] W fun e w'=>e=.returned (.bool true)/\Below W.heap.size W w':=by
 obtain⟨E,es,k,rfl,h2,h3,h4⟩:=ha
 subst hX
 exact uN h2 h4 hr n hn hp hrk
theorem mV (A:EL) (cA:Nat) (os:List lA) (Ab:EL) (cb:Nat) (b:EN) (w:EQ) (hA:Rd w A (lC os)) (hcA:os.length<=cA) (hG:∀x∈os,x.G w) (hz:(∀x∈os,x.S)/\os.length<=281474976710656) (hcb:b.length<=cb) (hcm:cb<=maxLen) (hb:Rd w Ab (aH b)):
 Calls Tryz.prog 9 #[.slice A os.length cA,.slice Ab b.length cb] w fun e w'=>e=.returned (.bool true)/\Below w.heap.size w w':=by
 obtain⟨m,hm⟩:∃m,os.length=m:=⟨_,rfl⟩
 obtain⟨nb,hnb⟩:∃m,b.length=m:=⟨_,rfl⟩
 rw[hm] at hcA |-
 rw[hnb] at hcb |-
 obtain⟨hS,hl⟩:=hz
 rw[hm] at hl
 have HM:=J0 hm;have HG:=J0 hG;have HS:=J0 hS;have HNB:=J0 hnb;have HCM:=J0 hcm
 clear hm hG hS hnb hcm
 go_enter Tryz.func9,Tryz.ntmps9
 go_wp2_with (go_at_call 10;refine(Df A cA m os HM.out (by omega) _ hA HG.out HS.out).mono ?_)
 rintro e W1 ⟨rf,rfl,HB⟩
 cases rf
 ·go_wp2_with (go_at_call 11;refine(fh _).mono ?_;rintro e wM ⟨rfl,hb'⟩;replace HB:=HB.trans (hb'.mono HB.size);clear hb')
  go_ret
  exact⟨rfl,HB⟩
 by_cases h3000:3000<nb
 ·have d1:decide ((3000:Int)<(nb:Int))=true:=by simp;omega
  go_wp2_with (go_at_call 11;refine(fh _).mono ?_;rintro e wM ⟨rfl,hb'⟩;replace HB:=HB.trans (hb'.mono HB.size);clear hb')
  go_ret
  exact⟨rfl,HB⟩
 have d1:decide ((3000:Int)<(nb:Int))=false:=by simp;omega
 have hb1:=hb.below HB
 have HB0:=HB
 clear HB hb
 cases hd:dQ b with
 |some L=>
  have HRK:=J0 (tC hd)
  have HD:=J0 hd
  clear hd
  go_upto_region 4 with (go_at_call 25;refine(jp _ Ab cb nb b HNB.out hb1 (by omega) hcb HCM.out HD.out).mono ?_;rintro e W2 ⟨cp,mp,D,rfl,S2,hp⟩)
  have HP:=J0 hp
  have hbb:=S2.b
  have hcv:=jQ (hb1.below hbb) nb cb HNB.out
  clear hp
  go_upto_region 5 with (go_at_call 26;refine(tn (aR b) b (fi b) (by rw[HNB.out];omega) HD.out _).mono ?_;rintro e W3 ⟨X,AX,nX,cX,rfl,hXn,hXm,RI,hb3⟩)
  have HXN:=J0 hXn;have HXM:=J0 hXm
  have S3:=S2.below hb3
  have HB3:=HB0.trans ((aB hbb hb3).mono HB0.size)
  clear hcv hXn hXm hb1 hbb S2 hb3
  go_upto_region 7 with (go_at_call 21;refine(oX S3 RI HXN.out HXM.out HP.out HRK.out).mono ?_;rintro e W4 ⟨rfl,hb4⟩)
  have HB:=HB3.trans (hb4.mono HB3.size)
  clear S3 RI hb4 HB3 HB0
  have hA4:=hA.below HB
  have HG4:=J0 (fun x hx=>(HG.out x hx).below HB:∀x∈os,x.G W4)
  go_upto_region 10 with (go_at_call 17;refine(zp A cA m os HM.out (by omega) _ hA4 HG4.out HS.out).mono ?_;rintro e W5 ⟨cp2,mp2,D2,L2,B2,n2,c2,rfl,St,hp2,hr2⟩)
  have hok2:=St.ok.perm hp2
  have hz5:=sk hok2
  obtain⟨z,hz⟩:∃z,(eL L2).length=z:=⟨_,rfl⟩
  rw[hz] at hz5
  have HD2:=J0 (wP hok2 hr2)
  obtain⟨E,es,k,X2,hE,hX2,hXn2,hcat,hlow,hok,href⟩:=St
  subst hE
  have HZ:=J0 hz;have HP2:=J0 hp2;have HR2:=J0 hr2;have HXM2:=J0 hX2;have HXN2:=J0 hXn2;have HC:=J0 hcat;have HOK:=J0 hok;have HRF:=J0 href
  have HB5:=HB.trans (hlow.b.mono HB.size)
  clear hok2 hz hp2 hr2 hX2 hXn2 hcat hok href hlow hA4 HG4
  go_upto_region 11 with (first
   |(go_at_call 27;refine(ky HC.out HOK.out L2 HP2.out HR2.out z HZ.out).mono ?_;rintro e W6 ⟨B3,c3,rfl,hc3,hm3,r3,hb6⟩)
   |(go_at_call 25;refine(jp _ B3 c3 z (eL L2) HZ.out r3 (by omega) hc3 hm3 HD2.out).mono ?_;rintro e W7 ⟨cp3,mp3,D3,rfl,S7,hp3⟩))
  have hb57:=aB hb6 S7.b
  have HB7:=HB5.trans (hb57.mono HB5.size)
  have HP3:=J0 hp3;have HR7:=J0 (HRF.out.below hb57)
  clear hp3 hc3 hm3 r3 HRF HC
  go_wp2_with (first
   |(go_at_call 11;refine(fh _).mono ?_;rintro e wM ⟨rfl,HBz⟩)
   |(go_at_call 21;refine(oX (S7.below HBz) (HR7.out.below HBz) HXN2.out HXM2.out HP3.out HR2.out).mono ?_;rintro e wS ⟨rfl,hbS⟩))
  go_ret
  exact⟨rfl,HB7.trans ((aB HBz hbS).mono HB7.size)⟩
 |none=>
  have HD:=J0 hd
  clear hd
  go_upto_region 4 with (go_at_call 25;refine(xL _ Ab cb nb b HNB.out hb1 (by omega) hcb HCM.out HD.out).mono ?_;rintro e W2 ⟨rfl,hbb⟩)
  have hcv:=jQ (hb1.below hbb) nb cb HNB.out
  go_upto_region 5 with (go_at_call 26;refine(vY (aR b) b (fi b) (by rw[HNB.out];omega) HD.out _).mono ?_;rintro e W3 ⟨rfl,hb3⟩)
  have HB:=HB0.trans ((aB hbb hb3).mono HB0.size)
  clear hcv hb1 hbb hb3 HB0
  go_upto_region 7 with fail
  rename EQ=>W4
  have hA4:=hA.below HB
  have HG4:=J0 (fun x hx=>(HG.out x hx).below HB:∀x∈os,x.G W4)
  go_upto_region 10 with (go_at_call 17;refine(zp A cA m os HM.out (by omega) _ hA4 HG4.out HS.out).mono ?_;rintro e W5 ⟨cp2,mp2,D2,L2,B2,n2,c2,rfl,St,hp2,hr2⟩)
  have hok2:=St.ok.perm hp2
  have hz5:=sk hok2
  obtain⟨z,hz⟩:∃z,(eL L2).length=z:=⟨_,rfl⟩
  rw[hz] at hz5
  have HD2:=J0 (wP hok2 hr2)
  obtain⟨E,es,k,X2,hE,hX2,hXn2,hcat,hlow,hok,href⟩:=St
  subst hE
  have HZ:=J0 hz;have HP2:=J0 hp2;have HR2:=J0 hr2;have HXM2:=J0 hX2;have HXN2:=J0 hXn2;have HC:=J0 hcat;have HOK:=J0 hok;have HRF:=J0 href
  have HB5:=HB.trans (hlow.b.mono HB.size)
  clear hok2 hz hp2 hr2 hX2 hXn2 hcat hok href hlow hA4 HG4
  go_upto_region 11 with (first
   |(go_at_call 27;refine(ky HC.out HOK.out L2 HP2.out HR2.out z HZ.out).mono ?_;rintro e W6 ⟨B3,c3,rfl,hc3,hm3,r3,hb6⟩)
   |(go_at_call 25;refine(jp _ B3 c3 z (eL L2) HZ.out r3 (by omega) hc3 hm3 HD2.out).mono ?_;rintro e W7 ⟨cp3,mp3,D3,rfl,S7,hp3⟩))
  have hb57:=aB hb6 S7.b
  have HB7:=HB5.trans (hb57.mono HB5.size)
  have HP3:=J0 hp3;have HR7:=J0 (HRF.out.below hb57)
  clear hp3 hc3 hm3 r3 HRF HC
  go_wp2_with (first
   |(go_at_call 11;refine(fh _).mono ?_;rintro e wM ⟨rfl,HBz⟩)
   |(go_at_call 21;refine(oX (S7.below HBz) (HR7.out.below HBz) HXN2.out HXM2.out HP3.out HR2.out).mono ?_;rintro e wS ⟨rfl,hbS⟩))
  go_ret
  exact⟨rfl,HB7.trans ((aB HBz hbS).mono HB7.size)⟩
end
end Go.Proofs.YteembinfgbapgaaGreat
namespace Go.Proofs.YteembinfgbapgaaGreat.schemaBytes
open Go.ChangeShapes Go.WideShapes Go.ChangeAt Go.RowKit Go.Joins
open Go.ChangeMaps (open_string shut_string)
theorem own:ownKnob Tryz.prog.godebug=none:=by kernel_rfl
theorem laidOut:laidOutB Tryz.prog=true:=by kernel_rfl
set_option maxRecDepth 100000 in
theorem lifted (os:Os) (started:os.Started) (H:Type) (enc:ES×ER->H):
 ReturnsInHanded {} Tryz.checked os 9 .any (Rows.schemaBytesSpec.pre6 enc Tryz.prog Tryz.f9 Rows.schemaBytesRow.domain false) (Rows.schemaBytesSpec.post enc Tryz.prog Tryz.f9 false true false false):=by
 refine returnsInHanded_of_change_sized (C:=Tryz.checked) own started (by kernel_rfl) Tryz.func9
  (ChangeSpec.witness6 (enc:=enc) (C:=Tryz.checked) false ⟨#[],#[.slice none 0 0,.slice none 0 0],[]⟩ 8 (by kernel_rfl) (by kernel_rfl) (by kernel_rfl) (by kernel_rfl)) ?_
 intro W base args ds gs before hval0 hW hcnd hsz0 _
 have hval:∀(j:Nat) t v,Tryz.f9.params[j]?=some t->args[j]?=some v->Value.okWide Tryz.prog W .any base t v:=hval0
 have hW':=hW
 obtain⟨p,q,hA0,hV,rfl,hfz,hnd⟩:=hW
 have hA:DataW.TrodAll enc Tryz.prog W 0 (fun _=>true) true Tryz.f9.params.toList args.toList ds p:=hA0
 rw[Tryz.params9] at hA hval
 obtain⟨v0,vs0,d0,ds0,p0,q0,hargs,rfl,rfl,h0,r0⟩:=trodAll_cons hA
 obtain⟨v1,vs1,d1,ds1,p1,q1,rfl,rfl,rfl,h1,r1⟩:=trodAll_cons r0
 obtain⟨rfl,rfl,rfl⟩:=trodAll_nil r1
 obtain rfl:args=#[v0,v1]:=by cases args;simp_all
 obtain⟨rfl,rfl⟩:=trodVars_none hV
 have k0:=h0
 have lt0:∀x∈p0,x.block<W.heap.size:=by obtain⟨m,hm⟩:=k0;exact DataW.trod_lt m _ _ _ hm
 obtain⟨a0,c0,l0,rfl,e0,f0,g0,s0,z0⟩:=Aa (hval 0 22 v0 rfl rfl) h0
 replace z0:=z0 (kS.of hsz0 (j:=0) rfl rfl)
 have k1:=h1
 have lt1:∀x∈p1,x.block<W.heap.size:=by obtain⟨m,hm⟩:=k1;exact DataW.trod_lt m _ _ _ hm
 obtain⟨a1,c1,l1,rfl,e1,f1,g1⟩:=vK (hval 1 44 v1 rfl rfl) h1
 clear hA0 hval0 hsz0
 refine(mV a0 c0 l0 a1 c1 l1 W g0 e0 s0 z0 e1 f1 g1).mono fun e W' ⟨he,bel⟩=>?_
 subst he
 exact⟨_,rfl,_,_,_,[],_,[],hW',trodAll_mk1 (shut_bool Tryz.underlying4 _),(trodAll_cons_mk (Below.trod laidOut (by kernel_rfl) (Yv (by kernel_rfl)) k0 bel lt0) (trodAll_cons_mk (Below.trod laidOut (by kernel_rfl) (Yv (by kernel_rfl)) k1 bel lt1) trodAll_mk0)),rfl,bel.frame _,fun h=>by cases h⟩
theorem over:Rows.schemaBytesRow.holds Tryz.pinned (OpenSpec.ofChange Rows.schemaBytesSpec):=
 OpenClaim.holds_of_wide 9 Tryz.f9 rfl rfl rfl rfl rfl rfl rfl ⟨rfl,rfl,rfl,rfl,rfl⟩ rfl rfl rfl rfl rfl (by kernel_rfl) Tryz.func9 (by kernel_rfl)
  (Yv (by kernel_rfl)) (by unfold Func.isWrapper;first|(rw[Xz (by decide +kernel)];kernel_rfl)|(rw[Xy (by decide +kernel)];exact⟨rfl,rfl⟩))
  (fun os started H enc _=>lifted os started H enc)
theorem proved:Rows.SchemaBytesSaid:=over
end Go.Proofs.YteembinfgbapgaaGreat.schemaBytes
namespace Go.Proofs.YteembinfgbapgaaGreat
theorem schemaBytes_holds:Rows.SchemaBytesSaid:=schemaBytes.proved
end Go.Proofs.YteembinfgbapgaaGreat
namespace Go.Proofs.YteembinfgbapgaaGreat
end Go.Proofs.YteembinfgbapgaaGreat
