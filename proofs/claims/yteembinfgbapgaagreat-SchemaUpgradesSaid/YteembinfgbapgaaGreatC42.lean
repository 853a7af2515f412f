/- Merged out of: Vh Vi Vj Vk Ue. -/
import Derived.Test.YteembinfgbapgaaGreatC00
import Derived.Test.YteembinfgbapgaaGreatC41
import Derived.Test.YteembinfgbapgaaGreatC29
import Derived.Test.YteembinfgbapgaaGreatC39
set_option linter.unusedSimpArgs false
set_option linter.unusedVariables false
set_option maxRecDepth 100000
set_option maxHeartbeats 8000000
namespace Go.Proofs.YteembinfgbapgaaGreat
section
open Go.RowKit Go.Lib Go.Maps
theorem RefIs.set {Q:Nat→Prop} {w w':World} {A B:Option Addr} {c d n:Nat} {X:List TyV} (h:RefIs Q w A c X) (hn:X.length=n) {i:Nat} {x x':TyV} (hi:X[i]?=some x) (hs:x'.y.s=x.y.s) (hnd:(X.map (·.y.s)).Nodup) (hx:x'.Is (fun g=>Q g∨w.heap.size≤g) w') (hr:Rd w' B (cellsTy (X.set i x'))) (hd:n≤d) (hb:Below w.heap.size w w'):RefTo Q w (putY (X.map (·.y)) x'.y) w' B n d:=by
 refine⟨X.set i x',putY_set hnd hi hs,by rw[List.length_set];exact hn,⟨hr,fun y hy=>?_,by rw[List.length_set,hn];exact hd,fun he=>?_⟩,hb⟩
 ·obtain⟨j,hj⟩:=Qq.1 hy
  by_cases hji:j=i
  ·subst hji
   rw[List.getElem?_set_self (by have:=(J6.1 hi).1;omega)] at hj
   obtain rfl:=Jj hj
   exact hx
  ·rw[X6 (by omega)] at hj
   exact((h.ty y (J7 hj)).below hb).mono (fun g hg=>.inl hg)
 ·have h1:=congrArg List.length he
  rw[List.length_set] at h1
  have:=(J6.1 hi).1
  simp at h1
  rw[h1] at this
  simp at this
theorem CatOk.nds {X:List TyV} (h:CatOk (X.map (·.y))):(X.map (·.y.s)).Nodup:=by have:=h.nd;rw[List.map_map] at this;exact this
theorem CatOk.oks {X:List TyV} (h:CatOk (X.map (·.y))):∀x∈X,x.y.Ok:=fun x hx=>h.ok x.y (X5.2 ⟨x,hx,rfl⟩)
theorem find_at {X:List TyV} {nm:ByteArray} {t:Ty} (hf:findY (X.map (·.y)) nm=some t):∃(i:Nat) (x:TyV),X[i]?=some x∧x.y=t∧fndZ (X.map (·.y)) nm=(i:Int):=by
 obtain⟨i,e,ht⟩:=fndZ_some hf
 rw[Kv] at ht
 cases hx:X[i]? with
 |none=>rw[hx] at ht;cases ht
 |some x=>rw[hx] at ht;exact⟨i,x,hx,Jj ht,e⟩
theorem rChange_m {Q:Nat→Prop} {w:World} {A:Option Addr} {c:Nat} {X:List TyV} (h:RefIs Q w A c X) (n:Nat) (hn:X.length=n) (hok:CatOk (X.map (·.y))) (nm:ByteArray) (K:Option Addr) (cK nc:Nat) (cs:List (Ch×Value)) (hnc:cs.length=nc) (hk:nc≤9223372036854775807) (hw:∀p∈cs,ChW p) (hK:Rd w K (cellsC cs)) (ho:∀p∈cs,ChO w p) (q:Int) (hq:chE (X.map (·.y)) nm (cs.map (·.1))=q) (v:Nat) (hv:chV (X.map (·.y)) nm (cs.map (·.1))=v) (L':List Ty) (hL:chD (X.map (·.y)) nm (cs.map (·.1))=L'):
 Calls Tryz.prog 68 #[.slice A n c,.string nm,.slice K nc cK] w fun e w'=>∃B k d,e=.returned (.tuple #[.slice B k d,.int .i64 (v:Nat),.int .i64 q])∧RefTo Q w L' w' B k d:=by
 have h16:n≤16:=by have:=hok.len;rw[Kz,hn] at this;exact this
 have hst:∀r:Int,r≠0→chE (X.map (·.y)) nm (cs.map (·.1))=r→v=0∧L'=X.map (·.y):=fun r h1 h2=>⟨by rw[←hv,chV,if_neg (by omega)],by rw[←hL,chD,if_neg (by omega)]⟩
 cases hf:findY (X.map (·.y)) nm with
 |none=>
  have e:chE (X.map (·.y)) nm (cs.map (·.1))=90:=by rw[chE,hf]
  obtain⟨rfl,rfl⟩:=hst 90 (by decide) e
  rw[e] at hq
  subst hq
  refine(rChange_none h n hn h16 hok.oks hok.nds nm (fndZ_none hf) K cK nc).mono ?_
  rintro e1 w' ⟨rfl,hb⟩
  exact⟨A,n,c,rfl,RefTo.stay h hn hb⟩
 |some t=>
  obtain⟨i,x,hi,rfl,hz⟩:=find_at hf
  by_cases h64:64≤x.y.top
  ·have e:chE (X.map (·.y)) nm (cs.map (·.1))=91:=by rw[chE,hf];simp only;rw[if_pos h64]
   obtain⟨rfl,rfl⟩:=hst 91 (by decide) e
   rw[e] at hq
   subst hq
   refine(rChange_full h n hn h16 hok.oks hok.nds nm i hi hz h64 K cK nc).mono ?_
   rintro e1 w' ⟨rfl,hb⟩
   exact⟨A,n,c,rfl,RefTo.stay h hn hb⟩
  ·obtain⟨⟨T,r⟩,hT⟩:∃y,allT x.y.last (cs.map (·.1))=y:=⟨_,rfl⟩
   have e:chE (X.map (·.y)) nm (cs.map (·.1))=r:=by rw[chE,hf];simp only;rw[if_neg h64,hT]
   rw[e] at hq
   subst hq
   refine(rChange_do h n hn h16 hok.oks hok.nds nm i hi hz (by omega) K cK nc cs hnc hk hw hK ho T r hT).mono ?_
   rintro e1 w' (⟨hr,rfl,hb⟩|⟨rfl,B,d,x',rfl,hd,hx,hI,hrow,hb⟩)
   ·obtain⟨rfl,rfl⟩:=hst r hr e
    exact⟨A,n,c,rfl,RefTo.stay h hn hb⟩
   ·have hv2:v=x.y.top+1:=by rw[←hv,chV,if_pos e,hf]
    subst hv2
    refine⟨B,n,d,rfl,?_⟩
    have:=h.set hn hi (by rw[hx];rfl) hok.nds hI hrow hd hb
    rw[←hL,chD,if_pos e,hf]
    rw[hx] at this
    exact this
theorem rRetire_m {Q:Nat→Prop} {w:World} {A:Option Addr} {c:Nat} {X:List TyV} (h:RefIs Q w A c X) (n:Nat) (hn:X.length=n) (hok:CatOk (X.map (·.y))) (nm:ByteArray) (L:Option Addr) (cL nl:Nat) (q:List Int) (hnl:q.length=nl) (hl:nl≤9223372036854775807) (hL:Rd w L (cellsI q)) (qe:Int) (hqe:reE (X.map (·.y)) nm q=qe) (v:Nat) (hv:reV (X.map (·.y)) nm q=v) (L':List Ty) (hLL:reD (X.map (·.y)) nm q=L'):
 Calls Tryz.prog 69 #[.slice A n c,.string nm,.slice L nl cL] w fun e w'=>∃B k d,e=.returned (.tuple #[.slice B k d,.int .i64 (v:Nat),.int .i64 qe])∧RefTo Q w L' w' B k d:=by
 have h16:n≤16:=by have:=hok.len;rw[Kz,hn] at this;exact this
 have hst:∀r:Int,r≠0→reE (X.map (·.y)) nm q=r→v=0∧L'=X.map (·.y):=fun r h1 h2=>⟨by rw[←hv,reV,if_neg (by omega)],by rw[←hLL,reD,if_neg (by omega)]⟩
 cases hf:findY (X.map (·.y)) nm with
 |none=>
  have e:reE (X.map (·.y)) nm q=90:=by rw[reE,hf]
  obtain⟨rfl,rfl⟩:=hst 90 (by decide) e
  rw[e] at hqe
  subst hqe
  refine(rRetire_none h n hn h16 hok.oks hok.nds nm (fndZ_none hf) L cL nl).mono ?_
  rintro e1 w' ⟨rfl,hb⟩
  exact⟨A,n,c,rfl,RefTo.stay h hn hb⟩
 |some t=>
  obtain⟨i,x,hi,rfl,hz⟩:=find_at hf
  obtain⟨u,hu⟩:∃u,useB x.y q=u:=⟨_,rfl⟩
  refine(rRetire_do h n hn h16 hok.oks hok.nds nm i hi hz L cL nl q hnl hl hL u hu).mono ?_
  rintro e1 w' (⟨rfl,rfl,hb⟩|⟨rfl,B,d,x',rfl,hd,hx,hI,hrow,hb⟩)
  ·have e:reE (X.map (·.y)) nm q=93:=by rw[reE,hf];simp only;rw[if_pos hu]
   obtain⟨rfl,rfl⟩:=hst 93 (by decide) e
   rw[e] at hqe
   subst hqe
   exact⟨A,n,c,rfl,RefTo.stay h hn hb⟩
  ·have e:reE (X.map (·.y)) nm q=0:=by rw[reE,hf];simp only;rw[if_neg (by rw[hu];decide)]
   have hv2:v=x.y.ts.length - 1:=by rw[←hv,reV,if_pos e,hf]
   subst hv2
   rw[e] at hqe
   subst hqe
   refine⟨B,n,d,rfl,?_⟩
   have:=h.set hn hi (by rw[hx];rfl) hok.nds hI hrow hd hb
   rw[←hLL,reD,if_pos e,hf]
   rw[hx] at this
   exact this
def rdoD (L:List Ty) (o:OpZ):List Ty:=if o.k=0 then rdefD L o.s o.fs else doD L o
theorem rDo_m {Q:Nat→Prop} {w:World} {A:Option Addr} {c:Nat} {X:List TyV} (h:RefIs Q w A c X) (n:Nat) (hn:X.length=n) (hok:CatOk (X.map (·.y))) (x:OpV) (hG:x.G w) (hS:x.S) (nf nc nl:Nat) (hnf:x.fs.length=nf) (hnc:x.cs.length=nc) (hnl:x.live.length=nl)
 (q:Int) (hq:doE (X.map (·.y)) x.z=q) (v:Nat) (hv:doV (X.map (·.y)) x.z=v) (L':List Ty) (hL:rdoD (X.map (·.y)) x.z=L'):
 Calls Tryz.prog 36 #[.slice A n c,.agg #[.int .i64 x.k,.string x.s,.slice x.A nf x.a,.slice x.C nc x.c,.slice x.L nl x.l]] w fun e w'=>∃B k d,e=.returned (.tuple #[.slice B k d,.int .i64 (v:Nat),.int .i64 q])∧RefTo Q w L' w' B k d:=by
 have h16:n≤16:=by have:=hok.len;rw[Kz,hn] at this;exact this
 obtain⟨x1,x2,x3,x4,x5,x6,x7,x8,x9,x10⟩:=hG
 obtain⟨s1,s2,s3,s4,s5,s6⟩:=hS
 have nb:=below_new (w:=w) (.cells #[.int .i64 x.k,.string x.s,.slice x.A nf x.a,.slice x.C nc x.c,.slice x.L nl x.l] 31)
 have P:=OBox.new w [.int .i64 x.k,.string x.s,.slice x.A nf x.a,.slice x.C nc x.c,.slice x.L nl x.l] 31
 have h1:=h.below nb
 have y4:=x4.below nb
 have y6:=x6.below nb
 have y8:∀p∈x.cs,ChO (w.alloc (.cells #[.int .i64 x.k,.string x.s,.slice x.A nf x.a,.slice x.C nc x.c,.slice x.L nl x.l] 31)) p:=fun p hp=>(x8 p hp).2.2.below nb
 have y9:=x9.below nb
 have hw:∀p∈x.cs,ChW p:=fun p hp=>⟨(x8 p hp).1,(x8 p hp).2.1,(s4 p hp).2.2.2,(s4 p hp).2.1⟩
 have hfs:NmS x.fs:=fun f hf=>s2 f hf
 have hsz:x.s.size≤9223372036854775807:=by simp only[maxLen] at x3;omega
 rw[hnf] at x5 s3;rw[hnc] at x7 s5;rw[hnl] at x10 s6
 have hzz:w.heap.size≤(w.alloc (.cells #[.int .i64 x.k,.string x.s,.slice x.A nf x.a,.slice x.C nc x.c,.slice x.L nl x.l] 31)).heap.size:=nb.size
 have fin:∀(w':World) (B:Option Addr) (k d:Nat),RefTo Q (w.alloc (.cells #[.int .i64 x.k,.string x.s,.slice x.A nf x.a,.slice x.C nc x.c,.slice x.L nl x.l] 31)) L' w' B k d→RefTo Q w L' w' B k d:=fun w' B k d ⟨X',h1,h2,h3,h4⟩=>⟨X',h1,h2,h3.mono (fun g hg=>hg.imp id (fun h=>Q7 hzz h)),nb.trans (h4.mono hzz)⟩
 have FIN:=J0 fin
 obtain⟨p0,p1,p2,p3,p4⟩:=P.f5
 clear nb P x4 x6 x8 x9 hzz fin h
 obtain⟨kk,hkk⟩:∃kk,x.k=kk:=⟨_,rfl⟩
 have hz:x.z.k=kk:=hkk
 simp only[hkk] at h1 y4 y6 y8 y9 p0 p1 p2 p3 p4 FIN ⊢
 unfold doE at hq
 unfold doV at hv
 unfold rdoD at hL
 rw[hz] at hq hv hL
 have HOK:=J0 hok;have HNF:=J0 hnf;have HNC:=J0 hnc;have HNL:=J0 hnl;have HN:=J0 hn
 clear hkk hok hnf hnc hnl hn
 by_cases k0:kk=0
 ·subst k0
  rw[if_pos rfl] at hq hv hL
  subst hv
  have HQ:=J0 hq;have HL:=J0 hL
  clear hq hL p3 p4 hz
  go_enter Tryz.func36,Tryz.ntmps36
  go_upto_region 1 with fail
  generalize w.alloc (.cells #[.int .i64 0,.string x.s,.slice x.A nf x.a,.slice x.C nc x.c,.slice x.L nl x.l] 31)=W1 at *
  generalize w.heap.size=pb at *
  go_wp2_with (go_at_call 67;refine(rDefine_m h1 n HN.out h16 x.s hsz x.A x.a nf x.fs HNF.out (by omega) hfs y4 q HQ.out L' HL.out).mono ?_;rintro e w2 ⟨B,k,d,rfl,hc⟩)
  refine bodyPost_ret (v:=.tuple #[.slice B k d,.int .i64 0,.int .i64 q]) (by simp[results,Tryz.results36,go_sem, *];done) rfl ⟨B,k,d,rfl,FIN.out _ _ _ _ hc⟩
 rw[if_neg k0] at hq hv hL
 unfold doD at hL
 rw[hz,if_neg k0] at hL
 have e0:(kk == 0)=false:=by simpa using k0
 by_cases k1:kk=1
 ·subst k1
  rw[if_pos rfl] at hq hv hL
  have HQ:=J0 hq;have HL:=J0 hL;have HV:=J0 hv
  clear hq hL hv p2 p4 k0 hz
  go_enter Tryz.func36,Tryz.ntmps36
  go_upto_region 1 with fail
  generalize w.alloc (.cells #[.int .i64 1,.string x.s,.slice x.A nf x.a,.slice x.C nc x.c,.slice x.L nl x.l] 31)=W1 at *
  generalize w.heap.size=pb at *
  go_wp2_with (go_at_call 68;refine(rChange_m h1 n HN.out HOK.out x.s x.C x.c nc x.cs HNC.out (by omega) hw y6 y8 q HQ.out v HV.out L' HL.out).mono ?_;rintro e w2 ⟨B,k,d,rfl,hc⟩)
  refine bodyPost_ret (v:=.tuple #[.slice B k d,.int .i64 (v:Nat),.int .i64 q]) (by simp[results,Tryz.results36,go_sem, *];done) rfl ⟨B,k,d,rfl,FIN.out _ _ _ _ hc⟩
 rw[if_neg k1] at hq hv hL
 have e1:(kk == 1)=false:=by simpa using k1
 by_cases k2:kk=2
 ·subst k2
  rw[if_pos rfl] at hq hv hL
  have HQ:=J0 hq;have HL:=J0 hL;have HV:=J0 hv
  clear hq hL hv p2 p3 k0 k1 hz
  go_enter Tryz.func36,Tryz.ntmps36
  go_upto_region 1 with fail
  generalize w.alloc (.cells #[.int .i64 2,.string x.s,.slice x.A nf x.a,.slice x.C nc x.c,.slice x.L nl x.l] 31)=W1 at *
  generalize w.heap.size=pb at *
  go_wp2_with (go_at_call 69;refine(rRetire_m h1 n HN.out HOK.out x.s x.L x.l nl x.live HNL.out (by omega) y9 q HQ.out v HV.out L' HL.out).mono ?_;rintro e w2 ⟨B,k,d,rfl,hc⟩)
  refine bodyPost_ret (v:=.tuple #[.slice B k d,.int .i64 (v:Nat),.int .i64 q]) (by simp[results,Tryz.results36,go_sem, *];done) rfl ⟨B,k,d,rfl,FIN.out _ _ _ _ hc⟩
 ·rw[if_neg k2] at hq hv hL
  have e2:(kk == 2)=false:=by simpa using k2
  subst hq hv hL
  have hc:RefTo Q w (X.map (·.y)) (w.alloc (.cells #[.int .i64 kk,.string x.s,.slice x.A nf x.a,.slice x.C nc x.c,.slice x.L nl x.l] 31)) A n c:=FIN.out _ _ _ _ (RefTo.stay h1 HN.out (Jy _ _))
  clear p1 p2 p3 p4 hz
  go_enter Tryz.func36,Tryz.ntmps36
  go_upto_region 1 with fail
  generalize w.alloc (.cells #[.int .i64 kk,.string x.s,.slice x.A nf x.a,.slice x.C nc x.c,.slice x.L nl x.l] 31)=W1 at *
  generalize w.heap.size=pb at *
  go_wp2
  refine bodyPost_ret (v:=.tuple #[.slice A n c,.int .i64 0,.int .i64 0]) (by simp[results,Tryz.results36,go_sem, *];done) rfl ⟨A,n,c,rfl,hc⟩
theorem rFields_none {Q:Nat→Prop} {w:World} {A:Option Addr} {c:Nat} {X:List TyV} (h:RefIs Q w A c X) (n:Nat) (hn:X.length=n) (hok:CatOk (X.map (·.y))) (nm:ByteArray) (hz:fndZ (X.map (·.y)) nm=-1) (v:Int):
 Calls Tryz.prog 40 #[.slice A n c,.string nm,.int .i64 v] w fun e w'=>e=.returned (.tuple #[.slice none 0 0,.int .i64 90])∧Below w.heap.size w w':=by
 have h16:n≤16:=by have:=hok.len;rw[Kz,hn] at this;exact this
 have hrow:=h.row
 have HN:=J0 hn;have HZ:=J0 hz
 have HB:=Jy w.heap.size w
 clear hn hz h hok
 go_enter Tryz.func40,Tryz.ntmps40
 go_wp2_with (go_at_call 42;refine(rFind9_m A c n X HN.out (by omega) nm _ HZ.out _ (hrow.below HB)).mono ?_;rintro e W3 ⟨rfl,hb⟩;replace HB:=HB.trans (hb.mono HB.size);clear hb)
 refine bodyPost_ret (v:=.tuple #[.slice none 0 0,.int .i64 90]) (by simp[results,Tryz.results40,go_sem, *];done) rfl ⟨rfl,HB⟩
theorem rFields_do {Q:Nat→Prop} {w:World} {A:Option Addr} {c:Nat} {X:List TyV} (h:RefIs Q w A c X) (n:Nat) (hn:X.length=n) (hok:CatOk (X.map (·.y))) (nm:ByteArray) {x:TyV} (i:Nat) (hi:X[i]?=some x) (hf:fndZ (X.map (·.y)) nm=(i:Int)) (v:Int) (q:Int) (l:List Fd) (m:Nat) (hm:l.length=m) (hv:(q=90∧l=[]∧(v<(x.y.old:Int)∨(x.y.top:Int)<v))∨(q=0∧∃(k:Nat) (t:Tb),v=((x.y.old+k:Nat):Int)∧x.y.ts[k]?=some t∧t.n=l)):
 Calls Tryz.prog 40 #[.slice A n c,.string nm,.int .i64 v] w fun e w'=>∃B b,e=.returned (.tuple #[.slice B m b,.int .i64 q])∧Rd w' B (cellsF l)∧Below w.heap.size w w':=by
 have h16:n≤16:=by have:=hok.len;rw[Kz,hn] at this;exact this
 have hrow:=h.row
 have hxm:=J7 hi
 have hxo:=hok.oks x hxm
 have hI:=h.ty x hxm
 obtain⟨hfl,htl⟩:=hI.len
 obtain⟨nf,hnf⟩:∃m,x.fv.length=m:=⟨_,rfl⟩
 obtain⟨nt,hnt⟩:∃m,x.tv.length=m:=⟨_,rfl⟩
 obtain⟨top,htop⟩:∃m,x.y.top=m:=⟨_,rfl⟩
 obtain⟨old,hold⟩:∃m,x.y.old=m:=⟨_,rfl⟩
 have hlen:0<x.y.ts.length:=by cases hx:x.y.ts with|nil=>exact absurd hx hxo.ne|cons a r=>simp
 have hsum:x.y.old+nf=top+1:=by have h2:x.y.top=x.y.old+x.y.ts.length - 1:=rfl;omega
 have hhi:top≤64:=by have:=hxo.hi;omega
 have hil:i<n:=by rw[←hn];exact(J6.1 hi).1
 have i0:(0:Int)≤(i:Int):=by omega
 have i1:(i:Int)<(n:Int):=by omega
 have i2:decide ((i:Int)<0)=false:=by simp
 have hcells:∀W',Below w.heap.size w W'→∃ad,A=some ad∧W'.cell? (ad.add (i * 4))=some (.string x.y.s)∧W'.cell? ⟨(ad.add (i * 4)).block,(ad.add (i * 4)).off+(0+1),none⟩=some (.int .i64 (x.y.old:Nat))∧W'.cell? ⟨(ad.add (i * 4)).block,(ad.add (i * 4)).off+(1+1),none⟩=some (.slice x.F nf x.f)∧W'.cell? ⟨(ad.add (i * 4)).block,(ad.add (i * 4)).off+(2+1),none⟩=some (.slice x.T nt x.t):=fun W' hb=>by
  have:=(hrow.below hb).ty hi
  rw[hnf,hnt] at this
  exact this
 obtain⟨ad,had,_⟩:=hcells w (Jy _ _)
 subst had
 have hc4:∀W',Below w.heap.size w W'→W'.cell? (ad.add (i * 4))=some (.string x.y.s)∧W'.cell? ⟨(ad.add (i * 4)).block,(ad.add (i * 4)).off+(0+1),none⟩=some (.int .i64 (x.y.old:Nat))∧W'.cell? ⟨(ad.add (i * 4)).block,(ad.add (i * 4)).off+(1+1),none⟩=some (.slice x.F nf x.f)∧W'.cell? ⟨(ad.add (i * 4)).block,(ad.add (i * 4)).off+(2+1),none⟩=some (.slice x.T nt x.t):=fun W' hb=>by
  obtain⟨ad',e,q⟩:=hcells W' hb
  cases e
  exact q
 have HN:=J0 hn;have HZ:=J0 hf;have HS:=J0 hsum;have HC:=J0 hc4;have HNF:=J0 hnf;have HIS:=J0 hI;have HM:=J0 hm
 have HB:=Jy w.heap.size w
 obtain⟨A0,hA0⟩:∃A0:Option Addr,A0=some ad:=⟨_,rfl⟩
 clear hn hf hxo hfl htl hsum hi hnf hnt hlen hok hxm hI h hcells hc4 hm hA0
 rcases hv with ⟨rfl,rfl,hv⟩|⟨rfl,k,t,rfl,hk,rfl⟩
 ·obtain rfl:m=0:=HM.out.symm
  rw[htop,hold] at hv
  by_cases h1:v<(old:Int)
  ·have d1:decide (v<(old:Int))=true:=by simpa using h1
   clear hv htop
   go_enter Tryz.func40,Tryz.ntmps40
   go_upto_region 2 with (go_at_call 42;refine(rFind9_m (some ad) c n X HN.out (by omega) nm _ HZ.out _ (hrow.below HB)).mono ?_;rintro e W3 ⟨rfl,hb⟩;replace HB:=HB.trans (hb.mono HB.size);clear hb)
   obtain⟨c0,c1,c2,c3⟩:=HC.out _ HB
   rw[hold] at c1
   go_wp2
   refine bodyPost_ret (v:=.tuple #[.slice none 0 0,.int .i64 90]) (by simp[results,Tryz.results40,go_sem, *];done) rfl ⟨none,0,rfl,Rd.nil _ _,HB⟩
  ·have d1:decide (v<(old:Int))=false:=by simpa using h1
   have d2:decide ((top:Int)<v)=true:=by
    rcases hv with h2|h2
    ·exact absurd h2 h1
    ·simpa using h2
   clear hv htop
   go_enter Tryz.func40,Tryz.ntmps40
   go_upto_region 2 with (go_at_call 42;refine(rFind9_m (some ad) c n X HN.out (by omega) nm _ HZ.out _ (hrow.below HB)).mono ?_;rintro e W3 ⟨rfl,hb⟩;replace HB:=HB.trans (hb.mono HB.size);clear hb)
   obtain⟨c0,c1,c2,c3⟩:=HC.out _ HB
   rw[hold] at c1
   go_wp2_with (go_at_call 24;refine(rNewest_m x.y.s old nf x.F x.f x.T nt x.t top (by have:=HS.out;omega) (by omega) _).mono ?_;rintro e W4 ⟨rfl,hb⟩;replace HB:=HB.trans (hb.mono HB.size);clear hb)
   refine bodyPost_ret (v:=.tuple #[.slice none 0 0,.int .i64 90]) (by simp[results,Tryz.results40,go_sem, *];done) rfl ⟨none,0,rfl,Rd.nil _ _,HB⟩
 ·obtain⟨V,hV⟩:∃V,x.fv[k]?=some V:=by
   have h1:=congrArg List.length HIS.out.eF
   rw[Kz,Kz] at h1
   exact⟨_,J4 (by have:=(J6.1 hk).1;omega)⟩
  have hVl:V.l=t.n:=by
   have h1:(x.fv.map (·.l))[k]?=some V.l:=by rw[Kv,hV];rfl
   rw[HIS.out.eF,Kv,hk] at h1
   exact(Jj h1).symm
  have hkn:k<nf:=by rw[←HNF.out];exact(J6.1 hV).1
  obtain⟨fa,hfa,hVc⟩:=HIS.out.rF.rd.fv hV
  have hVr:=HIS.out.fl V (J7 hV)
  rw[hVl,HM.out] at hVc
  rw[hVl] at hVr
  rw[hold]
  obtain⟨v,hv⟩:∃v:Int,((old+k:Nat):Int)=v:=⟨_,rfl⟩
  rw[hv]
  have hs:=HS.out
  have d1:decide (v<(old:Int))=false:=by simp;omega
  have d2:decide ((top:Int)<v)=false:=by simp;omega
  have hw1:IntKind.i64.wrap (v - (old:Int))=(k:Int):=(Xq _ (by omega)).trans (by omega)
  have k0:(0:Int)≤(k:Int):=by omega
  have k1:(k:Int)<(nf:Int):=by omega
  have hc6:∀W',Below w.heap.size w W'→W'.cell? (ad.add (i * 4))=some (.string x.y.s)∧W'.cell? ⟨(ad.add (i * 4)).block,(ad.add (i * 4)).off+(0+1),none⟩=some (.int .i64 (old:Nat))∧W'.cell? ⟨(ad.add (i * 4)).block,(ad.add (i * 4)).off+(1+1),none⟩=some (.slice (some fa) nf x.f)∧W'.cell? ⟨(ad.add (i * 4)).block,(ad.add (i * 4)).off+(2+1),none⟩=some (.slice x.T nt x.t)∧W'.cell? (fa.add k)=some (.slice V.A m V.a):=fun W' hb=>by
   obtain⟨a0,a1,a2,a3⟩:=HC.out W' hb
   rw[hold] at a1
   rw[hfa] at a2
   exact⟨a0,a1,a2,a3,cell_below (B:=0) hb hVc⟩
  have HC6:=J0 hc6
  clear hV hVl hVc hfa hk hv hs hc6 htop
  go_enter Tryz.func40,Tryz.ntmps40
  go_upto_region 2 with (go_at_call 42;refine(rFind9_m (some ad) c n X HN.out (by omega) nm _ HZ.out _ (hrow.below HB)).mono ?_;rintro e W3 ⟨rfl,hb⟩;replace HB:=HB.trans (hb.mono HB.size);clear hb)
  obtain⟨c0,c1,c2,c3,c4⟩:=HC6.out _ HB
  go_upto_region 4 with (go_at_call 24;refine(rNewest_m x.y.s old nf (some fa) x.f x.T nt x.t top (by have:=HS.out;omega) (by omega) _).mono ?_;rintro e W4 ⟨rfl,hb⟩;replace HB:=HB.trans (hb.mono HB.size);clear hb c0 c1 c2 c3 c4)
  refine RW.start (fun w'=>Below w.heap.size w w') (by kernel_rfl) (by kernel_rfl) HB.drew ?_
  repeat (first
   |(refine' RW.val (by rfl) ?_ ?_;rotate_left;(focus (intro w' hS;have HB5:=hS;obtain⟨c0,c1,c2,c3,c4⟩:=HC6.out _ HB5;clear hS;go_simp;rfl));simp only[Act.put,J1,J3,J2])
   |(refine RW.off (by rfl) ?_;simp only[Act.put,J1,J3,J2]))
  refine RW.done (fun w' hS=>?_)
  have HB5:=hS;obtain⟨c0,c1,c2,c3,c4⟩:=HC6.out _ HB5;clear hS
  go_wp2
  refine bodyPost_ret (v:=.tuple #[.slice V.A m V.a,.int .i64 0]) (by simp[results,Tryz.results40,go_sem, *];done) rfl ⟨V.A,V.a,rfl,hVr.below HB5,HB5⟩
theorem rFields_m {Q:Nat→Prop} {w:World} {A:Option Addr} {c:Nat} {X:List TyV} (h:RefIs Q w A c X) (n:Nat) (hn:X.length=n) (hok:CatOk (X.map (·.y))) (nm:ByteArray) (v:Int) (q:Int) (hq:fldE (X.map (·.y)) nm v=q) (l:List Fd) (hl:fldL (X.map (·.y)) nm v=l) (m:Nat) (hm:l.length=m):
 Calls Tryz.prog 40 #[.slice A n c,.string nm,.int .i64 v] w fun e w'=>∃B b,e=.returned (.tuple #[.slice B m b,.int .i64 q])∧Rd w' B (cellsF l)∧Below w.heap.size w w':=by
 cases hf:findY (X.map (·.y)) nm with
 |none=>
  have hvt:verTab (X.map (·.y)) nm v=none:=by rw[verTab,hf];rfl
  rw[fldE,hvt] at hq;rw[fldL,hvt] at hl
  subst hq hl hm
  refine(rFields_none h n hn hok nm (fndZ_none hf) v).mono ?_
  rintro e w' ⟨rfl,hb⟩
  exact⟨none,0,rfl,Rd.nil _ _,hb⟩
 |some t=>
  obtain⟨i,x,hi,rfl,hz⟩:=find_at hf
  have hxo:=hok.oks x (J7 hi)
  have hvt:verTab (X.map (·.y)) nm v=tabAt x.y v:=by rw[verTab,hf];rfl
  rw[fldE,hvt] at hq;rw[fldL,hvt] at hl
  refine rFields_do h n hn hok nm i hi hz v q l m hm ?_
  cases ht:tabAt x.y v with
  |none=>
   rw[ht] at hq hl
   exact .inl ⟨hq.symm,hl.symm,(tabAt_none hxo).1 ht⟩
  |some y=>
   rw[ht] at hq hl
   obtain⟨k,e,hk,_⟩:=tabAt_some ht
   exact .inr ⟨hq.symm,k,y,e,hk,hl⟩
theorem findY_perm {L D:List Ty} (hp:L.Perm D) (hn:(D.map (·.s)).Nodup) (nm:ByteArray):findY L nm=findY D nm:=by
 cases hf:findY D nm with
 |none=>
  cases hg:findY L nm with
  |none=>rfl
  |some t=>
   obtain⟨ht,hs⟩:=findY_mem hg
   exact absurd hs (findY_none hf t (hp.subset ht))
 |some t=>
  obtain⟨ht,hs⟩:=findY_mem hf
  cases hg:findY L nm with
  |none=>exact absurd hs (findY_none hg t (hp.symm.subset ht))
  |some u=>
   obtain⟨hu,hs2⟩:=findY_mem hg
   have huD:=hp.subset hu
   obtain⟨i,hi⟩:=Qq.1 ht
   obtain⟨j,hj⟩:=Qq.1 huD
   have a1:(D.map (·.s))[i]?=some nm:=by rw[Kv,hi];exact congrArg some hs
   have a2:(D.map (·.s))[j]?=some nm:=by rw[Kv,hj];exact congrArg some hs2
   have hij:=(List.getElem?_inj (J6.1 a1).1 hn).1 (a1.trans a2.symm)
   subst hij
   rw[hi] at hj
   exact hj.symm▸rfl
def encQ9 (d:Vl) (f:Fd):List UInt8:=if rightB d.k d.b d.t f.k f.l=true then Go.Proofs.YteembinfgbapgaaGreat.encL d.b d.t f.k f.l else[]
def mvB (m:Mv) (f:Fd):List UInt8:=(if m.f=-1 then[255] else leL m.f 1)++encQ9 m.d f
def mvAt (t:Tb) (i:Nat):List UInt8:=match t.m[i]?,t.n[i]? with
 |some m,some f=>mvB m f
 |_,_=>[]
def mvsB (t:Tb) (k:Nat):List UInt8:=(List.range k).flatMap (mvAt t)
def fldB (fs:List Fd):List UInt8:=leL (wrL fs).length 2++wrL fs
def tabB (k:Nat) (t:Tb):List UInt8:=fldB t.n++(if k=0 then[] else mvsB t t.m.length)
def tabAtB (y:Ty) (i:Nat):List UInt8:=match y.ts[i]? with
 |some t=>tabB i t
 |none=>[]
def tabsB (y:Ty) (k:Nat):List UInt8:=(List.range k).flatMap (tabAtB y)
def headB (y:Ty):List UInt8:=leL y.s.size 1++bl y.s++(leL y.old 1++leL y.top 1)
def tyB (y:Ty):List UInt8:=headB y++tabsB y y.ts.length
def tysB (L:List Ty) (k:Nat):List UInt8:=(L.take k).flatMap tyB
def catB (L:List Ty):List UInt8:=leL L.length 1++tysB L L.length
theorem mvsB_succ (t:Tb) (k:Nat):mvsB t (k+1)=mvsB t k++mvAt t k:=by simp[mvsB,List.range_succ]
theorem tabsB_succ (y:Ty) (k:Nat):tabsB y (k+1)=tabsB y k++tabAtB y k:=by simp[tabsB,List.range_succ]
theorem tysB_succ {L:List Ty} {k:Nat} {y:Ty} (h:L[k]?=some y):tysB L (k+1)=tysB L k++tyB y:=by
 rw[tysB,Vq,h];simp[tysB]
theorem mvsB_zero (t:Tb):mvsB t 0=[]:=rfl
theorem tabsB_zero (y:Ty):tabsB y 0=[]:=rfl
theorem tysB_zero (L:List Ty):tysB L 0=[]:=by simp[tysB]
theorem sizeZ_8 (k:Int):sizeZ k≤8:=by
 unfold sizeZ
 (repeat' split) <;> omega
theorem long_64 {k l:Int}:longZ k l≤64:=by
 by_cases hk:k=12
 ·subst hk
  unfold longZ mayB
  rw[if_pos rfl,if_pos rfl]
  split
  ·rename_i h;exact(btw_iff.1 h).2
  ·omega
 ·unfold longZ
  rw[if_neg hk]
  have:=sizeZ_8 k
  split <;> omega
theorem encQ9_len (d:Vl) (f:Fd):(encQ9 d f).length≤64:=by
 unfold encQ9
 split
 ·rename_i h
  have:=enc_length h
  have:=@long_64 f.k f.l
  omega
 ·simp
theorem mvB_len (m:Mv) (f:Fd):(mvB m f).length≤65:=by
 have:=encQ9_len m.d f
 unfold mvB
 split <;> simp[leL_length] <;> omega
theorem flat_le {α:Type} (l:List α) (F:α→List UInt8) (b:Nat) (h:∀x∈l,(F x).length≤b):(l.flatMap F).length≤l.length * b:=by
 induction l with
 |nil=>simp
 |cons x r ih=>
  have h1:=h x List.mem_cons_self
  have h2:=ih (fun y hy=>h y (List.mem_cons_of_mem _ hy))
  rw[List.flatMap_cons,Qz,Xx,Nat.add_mul]
  omega
theorem mvAt_len (t:Tb) (i:Nat):(mvAt t i).length≤65:=by
 unfold mvAt
 split
 ·exact mvB_len _ _
 ·simp
theorem mvsB_len (t:Tb) (k:Nat):(mvsB t k).length≤k * 65:=by
 have:=flat_le (List.range k) (mvAt t) 65 (fun x _=>mvAt_len t x)
 rw[List.length_range] at this
 exact this
theorem wrL_len (fs:List Fd):(wrL fs).length≤289:=by
 unfold wrL
 split
 ·rename_i h
  have h1:=(rightF_may h).2
  have h2:=flat_length fs (fun f hf=>by
   obtain⟨k,hk⟩:=Qq.1 hf
   have h3:=(rightF_ok h hk).1
   unfold nameB at h3
   rw[Qy] at h3
   exact(of_decide_eq_true h3.2).2)
  simp only[encFL,Xx]
  omega
 ·simp
theorem fldB_len (fs:List Fd):(fldB fs).length≤291:=by
 have:=wrL_len fs
 simp[fldB,leL_length];omega
theorem tabB_len {k:Nat} {t:Tb} (h:t.m.length≤16):(tabB k t).length≤1331:=by
 have h1:=fldB_len t.n
 have h2:=mvsB_len t t.m.length
 unfold tabB
 split <;> simp <;> omega
theorem tabAtB_len {y:Ty} (h:y.Ok) (i:Nat):(tabAtB y i).length≤1331:=by
 unfold tabAtB
 split
 ·rename_i t ht
  exact tabB_len (rightT_16 (h.ok t (J7 ht)).r).2.2
 ·simp
theorem tabsB_len {y:Ty} (h:y.Ok) (k:Nat):(tabsB y k).length≤k * 1331:=by
 have:=flat_le (List.range k) (tabAtB y) 1331 (fun x _=>tabAtB_len h x)
 rw[List.length_range] at this
 exact this
theorem headB_len {y:Ty} (h:y.Ok):(headB y).length≤18:=by
 have h1:=h.nm
 unfold nameB at h1
 rw[Qy] at h1
 have h2:=of_decide_eq_true h1.2
 simp[headB,leL_length,bl_length];omega
theorem Ty.Ok.len64 {y:Ty} (h:y.Ok):y.ts.length≤64:=by
 have h1:=h.hi
 have h2:=h.lo
 have h3:y.top=y.old+y.ts.length - 1:=rfl
 omega
theorem tyB_len {y:Ty} (h:y.Ok):(tyB y).length≤85202:=by
 have h1:=headB_len h
 have h2:=tabsB_len h y.ts.length
 have h3:=h.len64
 simp only[tyB,Qz]
 omega
theorem tysB_len {L:List Ty} (h:∀y∈L,y.Ok) (h16:L.length≤16) (k:Nat):(tysB L k).length≤1363232:=by
 have h1:=flat_le (L.take k) tyB 85202 (fun y hy=>tyB_len (h y (List.mem_of_mem_take hy)))
 have h2:(L.take k).length≤16:=by rw[Qv];omega
 unfold tysB
 omega
theorem encQ9_none {o:List Fd} {g:Fd} {m:Mv} (h:okMv o g m=true) (hf:m.f≠-1):encQ9 m.d g=[]:=by
 obtain⟨h0,hd,f,hof,hc⟩:=okMv_pos hf h
 rw[encQ9,if_neg]
 rw[hd]
 intro hr
 have:=right_may hr
 have h2:=this.1
 unfold rightB at hr
 simp only[Qy,decide_eq_true_eq] at hr
 have h3:(0:Int)=g.k:=hr.1.1.2
 rw[←h3] at h2
 simp[mayB,sizeZ] at h2
theorem RdP.take {P:Nat→Prop} {w:World} {A:Option Addr} {cs:List Value} (h:RdP P w A cs) (n:Nat):RdP P w A (cs.take n):=fun hn=>by
 obtain⟨ad,e,hp,hc⟩:=h (by intro e;rw[e] at hn;simp at hn)
 refine⟨ad,e,hp,fun j u hj=>hc j u ?_⟩
 rw[X9] at hj
 split at hj
 ·exact hj
 ·cases hj
theorem Encode_someP (vk bits:Int) (tx s:ByteArray) (k l:Int) (h0:0≤bits) (h1:bits<18446744073709551616) (h:rightB vk bits tx k l=true) (w:World):
 Calls Tryz.prog 61 #[.agg #[.int .i64 vk,.int .u64 bits,.string tx],.agg #[.string s,.int .i64 k,.int .i64 l]] w fun e w'=>∃B c,e=.returned (.tuple #[.slice B (encL bits tx k l).length c,.int .i64 0])∧(encL bits tx k l).length≤c∧RdP (fun g=>w.heap.size≤g) w' B (bytesV (encL bits tx k l))∧Below w.heap.size w w':=by
 have H:=J0 h
 have hm:=(right_may h).1
 clear h
 by_cases hk:k=12
 ·subst hk
  have hcb:=conv_bytes tx
  clear hm
  go_enter Tryz.func61,Tryz.ntmps61
  go_wp2_with (first|(go_at_call 95;refine(Right_is _ _ _ _ _ _ h0 h1 _ H.out _).mono ?_;rintro e w1 ⟨rfl,hb⟩;obtain⟨hc,hf⟩:=bcell hb))
  go_ret2
  have hz1:=hb.size
  refine⟨some ⟨w1.heap.size,0,none⟩,grownCap w1 tx.size 0 5,by rw[encL,if_pos rfl,bl_length];rfl,?_,?_,?_⟩
  ·rw[encL,if_pos rfl,bl_length];exact grownCap_ge ..
  ·rw[encL,if_pos rfl];exact RdP.mk (bytesWorld_rd _ _ _) (fun ad e=>by cases e;simp at hz1;show w.heap.size≤w1.heap.size;omega)
  ·exact below_seq (below_seq ((below_new _).alloc (by simp) _) hb) (bytesWorld_below _ _ _)
 ·have hlc:=long_cases hm hk
  have hk':(k == 12)=false:=by simpa using hk
  obtain⟨n,hn⟩:∃n:Nat,longZ k l=n:=⟨(longZ k l).toNat,by omega⟩
  have hn8:n≤8:=by omega
  have HN:=J0 hn
  clear hn hlc hm
  go_enter Tryz.func61,Tryz.ntmps61
  go_wp2_with (first
   |(go_at_call 95;refine(Right_is _ _ _ _ _ _ h0 h1 _ H.out _).mono ?_;rintro e w1 ⟨rfl,hb⟩;obtain⟨hc,hf⟩:=bcell hb;obtain⟨z0,z1⟩:w.heap.size<w1.heap.size∧w.heap.size+1<w1.heap.size:=by (have:=hb.size;simp at this;omega))
   |(go_at_call 94;refine(Put_some bits 8 (by omega) (by simp[fitsB,widthB,topZ];omega) h0 h1 _).mono ?_;rintro e w2 ⟨v,rfl,hown,hb2⟩;obtain⟨A,c,rfl,hlen,_,_⟩:=own_rd hown;have hrd:=own_P (P:=fun g=>w1.heap.size≤g) hown (fun g hg=>own_base hown g hg);obtain⟨hc2,hf2⟩:=bcell hb2;clear hown)
   |(go_at_call 89;refine(Long_is _ _ _ _ HN.out _).mono ?_;rintro e w3 ⟨rfl,hb3⟩))
  go_ret2
  have hlt:(leL bits 8).take n=leL bits n:=by
   apply Xv
   intro j
   simp only[leL,X9,Kv,List.getElem?_range']
   by_cases h:j<n
   ·simp[h,show j<8 by omega]
   ·simp[h,Xy (show(List.range n).length≤j by simp;omega)]
  have hel:encL bits tx k l=leL bits n:=by rw[encL,if_neg hk,HN.out];rfl
  have hrd3:=(hrd.up hb3).take n
  rw[bytesV,←List.map_take,hlt] at hrd3
  refine⟨A,c,by rw[hel,leL_length];rfl,by rw[hel,leL_length];omega,?_,?_⟩
  ·rw[hel];exact hrd3.mono (fun g hg=>by omega)
  exact below_seq (below_seq (below_seq ((below_new _).alloc (by simp) _) hb) hb2) hb3
theorem kEnc_m (d:Vl) (f:Fd) (h0:0≤d.b) (h1:d.b<18446744073709551616) (w:World) (x:List UInt8) (hx:encQ9 d f=x) (n:Nat) (hn:x.length=n):
 Calls Tryz.prog 61 #[.agg #[.int .i64 d.k,.int .u64 d.b,.string d.t],.agg #[.string f.s,.int .i64 f.k,.int .i64 f.l]] w fun e w'=>∃B c q,e=.returned (.tuple #[.slice B n c,.int .i64 q])∧n≤c∧RdP (fun g=>w.heap.size≤g) w' B (bytesV x)∧(n=0→B=none∧c=0)∧Below w.heap.size w w':=by
 subst hn hx
 unfold encQ9
 cases hr:rightB d.k d.b d.t f.k f.l with
 |false=>
  rw[if_neg (by decide)]
  refine(Encode_none d.k d.b d.t f.s f.k f.l h0 h1 hr w).mono ?_
  rintro e w' ⟨rfl,hb⟩
  exact⟨none,0,50,rfl,J9 _,(fun hne=>absurd rfl hne),fun _=>⟨rfl,rfl⟩,hb⟩
 |true=>
  rw[if_pos rfl]
  refine(Encode_someP d.k d.b d.t f.s f.k f.l h0 h1 hr w).mono ?_
  rintro e w' ⟨B,c,rfl,hc,hR,hb⟩
  refine⟨B,c,0,rfl,hc,hR,fun h=>?_,hb⟩
  have h2:=encL_length hr
  have h3:=Fd.n_pos (right_may hr).1
  omega
theorem sized_m (A:Option Addr) (nb c:Nat) (b:List UInt8) (hb0:b.length=nb) (h0:0<nb) (width:Nat) (hw:width≤8) (hf:fitsB (nb:Int) width false=true) (hl:nb≤1000000) (w:World) (hA:Rd w A (bytesV b)):
 Calls Tryz.prog 59 #[.slice A nb c,.int .i64 (width:Nat)] w fun e w'=>∃B c',e=.returned (.slice B (width+nb) c')∧Rd w' B (bytesV (leL nb width++b))∧Below w.heap.size w w':=by
 obtain⟨i0,hi,hz0,hz1,hz2⟩:=info_parts info5
 obtain⟨ad,rfl,hcs⟩:=hA (by intro e;have h1:=congrArg List.length e;simp[bytesV] at h1;rw[h1] at hb0;simp at hb0;omega)
 have HB0:=J0 hb0
 clear hb0
 go_enter Tryz.func59,Tryz.ntmps59
 go_upto_region 2 with (go_at_call 94;refine(Put_some (nb:Int) width hw hf (by omega) (by omega) _).mono ?_;rintro e w1 ⟨v,rfl,own,hb1⟩)
 obtain⟨V,vc,rfl,_,_,_⟩:=own_rd own
 have hA1:=hA.below hb1
 go_wp2_with (at_builtin;refine wpList_append_own _ rfl _ _ 44 rfl w.heap.size 5 i0 (.int .u8 0) 1 1 Tryz.underlying44 hi hz0 hz1 hz2 rfl (by decide) _ _ _ rfl own ad nb c (bytesV b) rfl ?c0 ?c1 ?c2 ?c3 ?c4 ?c5 ?_)
 case c0=>simp[bytesV,HB0.out]
 case c1=>
  intro j u hj
  obtain⟨ad',e,h⟩:=hA1 (by rintro e;rw[e] at hj;simp at hj)
  cases e;exact h j u hj
 case c2=>intro u hu;simp[bytesV] at hu;obtain⟨x,_,rfl⟩:=hu;rfl
 case c3=>simp only[maxLen];omega
 case c4=>omega
 case c5=>exact hb1.size
 intro v' w3 hown' hgrow _
 have HB3:=hb1.grown hgrow hb1.size (fun q hq=>own_base own q hq)
 obtain⟨B,c',rfl,_,_,r⟩:=own_rd hown'
 clear hown' hgrow own
 go_wp2
 go_ret
 exact⟨B,c',rfl,by rw[bytesV_append];exact r,HB3⟩
open Go.WideElems Go.MapKept Go.Sort in
theorem Names_s {W:World} {cp mp:Nat} {E:List En} {es:List MapEntry} {clock:Nat} (h:CatIs 89 80 W cp mp E es clock) (hlen:E.length≤1000) (L:List Ty) (hL:L.Perm (E.map (·.y))) (hrk:Ranked L):
 Calls Tryz.prog 14 #[.pointer (some ⟨cp,0,none⟩)] W fun e w'=>∃B c,e=.returned (.slice B L.length c)∧RdP (fun g=>W.heap.size≤g) w' B (cellsS (L.map (·.s)))∧Below W.heap.size W w':=by
 obtain⟨D0,hown,hperm,hsz⟩:=h.ownsMap Tryz.underlying9 hlen
 obtain⟨b0,_⟩:=h.box.f1
 have hmax:Maps.size D0≤maxLen:=by rw[hsz];simp only[maxLen];omega
 have hbytes:Maps.size D0 * 16≤140737488355328:=by rw[hsz];omega
 have HP:=J0 hperm
 clear hperm h
 refine(callsIn_wide (n:=6)).1 ?_
 have hfK:Fence.wide.fn 32:=trivial
 have hfS:Fence.wide.fn 31:=trivial
 refine callsIn_of_wp Tryz.func14 rfl trivial ?_ rfl
 simp only[Tryz.ntmps14,List.size_toArray,Xx,List.length_nil,Nat.reduceAdd,Nat.reduceSub,Array.replicate_succ,Array.replicate_zero,List.push_toArray,List.append_toArray,List.nil_append,List.cons_append]
 gi_wp2_with (first
  |(gi_at_call 32;refine(Tryz.maps_Keys_32 _ _).mono ?_;rintro e w' ⟨rfl,rfl⟩)
  |(gi_at_call 31;refine(Tryz.slices_Sorted_keys_31_32 mp es.length D0 noRead W hown hmax hbytes).mono ?_;rintro e w' ⟨v,ss,rfl,hS,hrow,hnil,hb⟩))
 go_ret
 have hms:(ss.mergeSort (fun x y=>decide (x≤y))).length=ss.length:=List.length_mergeSort _
 obtain⟨B,c,rfl,_,_,_⟩:=own_rd hrow
 have rB:=own_P (P:=fun g=>W.heap.size≤g) hrow (fun g hg=>by have:=own_base hrow g hg;simp at this;omega)
 obtain⟨ns,hnd⟩:∃ns:List ByteArray,ns=(ss.mergeSort (fun x y=>decide (x≤y))).map fun b=>(⟨b.toArray⟩:ByteArray):=⟨_,rfl⟩
 have hns:ns.length=ss.length:=by rw[hnd,Kz,hms]
 have hperm:ns.Perm (L.map (·.s)):=by
  rw[hnd]
  refine((List.mergeSort_perm ss _).map _).trans ((hS.trans HP.out).map _ |>.trans ?_)
  rw[List.map_map]
  refine List.Perm.trans (List.Perm.of_eq (List.map_congr_left fun d _=>?_)) ((hL.map (·.s)).symm.trans (List.Perm.refl _) |> fun h=>(by rw[List.map_map] at h;exact h))
  simp
 have hsort:ns.Pairwise fun a b=>nmLt b a=false:=by
  rw[hnd,List.pairwise_map]
  have:=List.pairwise_mergeSort (le:=fun x y:List UInt8=>decide (x≤y)) (fun a b c h1 h2=>by simp at *;exact List.le_trans h1 h2) (fun a b=>by simpa using List.le_total a b) ss
  refine this.imp fun {a b} hab=>nmLt_not.2 ?_
  simpa using hab
 have hns2:ns=L.map (·.s):=ranked_names hrk hsort hperm
 have hlen2:ss.length=L.length:=by rw[←hns,hns2,Kz]
 refine⟨B,c,by rw[←hlen2];rfl,?_,((Jy _ W).alloc (J9 _) _).trans (hb.mono (by simp))⟩
 have:cellsS ns=(ss.mergeSort (fun x y=>decide (x≤y))).map encStr:=by
  rw[cellsS,hnd,List.map_map]
  rfl
 rw[←hns2,this]
 exact rB
theorem OpV.G.below {w w':World} {x:OpV} (h:x.G w) (hb:Below w.heap.size w w'):x.G w':=
 ⟨h.k0,h.k1,h.s,h.fs.below hb,h.fa,h.cs.below hb,h.ca,fun p hp=>⟨(h.cg p hp).1,(h.cg p hp).2.1,(h.cg p hp).2.2.below hb⟩,h.live.below hb,h.la⟩
theorem findY_of {D:List Ty} {nm:ByteArray} (h:nm∈D.map (·.s)):∃t,findY D nm=some t:=by
 cases hf:findY D nm with
 |some t=>exact⟨t,rfl⟩
 |none=>
  obtain⟨t,ht,e⟩:=X5.1 h
  exact absurd e (findY_none hf t ht)
theorem name_max {nm:ByteArray} (h:nameB nm=true):nm.size≤maxLen:=by
 unfold nameB at h
 rw[Qy] at h
 have:=of_decide_eq_true h.2
 simp only[maxLen]
 omega
theorem Ty.Ok.sum {t:Ty} (h:t.Ok):t.old≤t.top:=by
 have hlen:0<t.ts.length:=by cases hx:t.ts with|nil=>exact absurd hx h.ne|cons a r=>simp
 have h2:t.top=t.old+t.ts.length - 1:=rfl
 omega
end
end Go.Proofs.YteembinfgbapgaaGreat
