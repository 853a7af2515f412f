/- The law SchemaUpgrades: WHATEVER THE INPUT it tells true, it never panics, and the input reads as it did: the row, out of SchemaUpgrades_calls. Merged out of: Vx Vp Vy Zu. -/
import Derived.Test.YteembinfgbapgaaGreatC00
import Derived.Test.YteembinfgbapgaaGreatC34
import Derived.Test.YteembinfgbapgaaGreatC44
import Derived.Test.YteembinfgbapgaaGreatRows
import Derived.Test.YteembinfgbapgaaGreatC01
import Derived.Test.YteembinfgbapgaaGreatC29
set_option linter.unusedSimpArgs false
set_option linter.unusedVariables false
set_option maxRecDepth 100000
set_option maxHeartbeats 8000000
namespace Go.Proofs.YteembinfgbapgaaGreat
section
open Go.RowKit Go.Lib Go.Maps
theorem Rd.tab3 {W:World} {A:Option Addr} {xs:List TabV} (h:Rd W A (cellsT xs)) {i:Nat} {x:TabV} (hx:xs[i]?=some x):∃ad,A=some ad∧W.cell? (ad.add (i * 3))=some (.slice x.A x.t.o.length x.a)∧W.cell? ⟨(ad.add (i * 3)).block,(ad.add (i * 3)).off+(0+1),none⟩=some (.slice x.B x.t.n.length x.b)∧W.cell? ⟨(ad.add (i * 3)).block,(ad.add (i * 3)).off+(1+1),none⟩=some (.slice x.C x.t.m.length x.c):=by
 have hg:=fun r (hr:r<3)=>flat_get (F:=TabV.cells) (k:=3) (fun _=>rfl) hx r hr
 obtain⟨ad,e,hc⟩:=h (by intro e;have:=hg 0 (by omega);unfold cellsT at e;rw[e] at this;simp[TabV.cells] at this)
 have h0:=hc (i * 3) _ (hg 0 (by omega))
 have h1:=hc (i * 3+1) _ (hg 1 (by omega))
 have h2:=hc (i * 3+2) _ (hg 2 (by omega))
 rw[add_part _ _ 0] at h1
 rw[add_part _ _ 1] at h2
 exact⟨ad,e,h0,h1,h2⟩
theorem fld_nms {D:List Ty} (h:CatOk D) (nm:ByteArray) (v:Int):NmS (fldL D nm v):=by
 cases hv:verTab D nm v with
 |none=>rw[fldL,hv];intro f hf;cases hf
 |some x=>
  rw[fldL,hv]
  cases hf:findY D nm with
  |none=>rw[verTab,hf] at hv;cases hv
  |some t=>
   rw[verTab,hf] at hv
   obtain⟨k,_,hk,_⟩:=tabAt_some (t:=t) (v:=v) (x:=x) hv
   exact((h.ok t (findY_mem hf).1).ok x (J7 hk)).n
theorem rUpgrade_m {Q:Nat→Prop} {w:World} {A:Option Addr} {c:Nat} {X:List TyV} (h:RefIs Q w A c X) (n:Nat) (hn:X.length=n) (hok:CatOk (X.map (·.y))) (nm:ByteArray) (v:Int) (s:ByteArray) (b:List UInt8) (hsb:bl s=b) (q:Int) (hq:upgE (X.map (·.y)) nm v b=q) (z:ByteArray) (hz:strL (upgV (X.map (·.y)) nm v b)=z):
 Calls Tryz.prog 19 #[.slice A n c,.string nm,.int .i64 v,.string s] w fun e w'=>e=.returned (.tuple #[.string z,.int .i64 q])∧Below w.heap.size w w':=by
 have h16:n≤16:=by have:=hok.len;rw[Kz,hn] at this;exact this
 obtain⟨l,hl⟩:∃l,fldL (X.map (·.y)) nm v=l:=⟨_,rfl⟩
 obtain⟨m,hm⟩:∃m,l.length=m:=⟨_,rfl⟩
 have hs:NmS l:=by rw[←hl];exact fld_nms hok nm v
 have hrow:=h.row
 have HB:=Jy w.heap.size w
 have HH:=J0 h;have HN:=J0 hn;have HOK:=J0 hok;have HSB:=J0 hsb;have HL:=J0 hl;have HM:=J0 hm;have HS:=J0 hs
 cases hv:verTab (X.map (·.y)) nm v with
 |none=>
  have hf:fldE (X.map (·.y)) nm v=90:=by rw[fldE,hv]
  have hq1:upgE (X.map (·.y)) nm v b=90:=by rw[upgE,hv]
  obtain rfl:z=⟨#[]⟩:=by rw[←hz,upgV,if_neg (by rw[hq1];decide)];rfl
  rw[hq1] at hq
  subst hq
  have HQ:=J0 hf
  clear h hn hok hsb hl hm hs hv hf hq1 hz hrow
  go_enter Tryz.func19,Tryz.ntmps19
  go_wp2_with (go_at_call 40;refine(rFields_m HH.out n HN.out HOK.out nm v _ HQ.out _ HL.out m HM.out).mono ?_;rintro e W1 ⟨B,b1,rfl,rB,hb⟩;replace HB:=HB.trans (hb.mono HB.size);clear hb)
  refine bodyPost_ret (v:=.tuple #[.string ⟨#[]⟩,.int .i64 90]) (by simp[results,Tryz.results19,go_sem, *];done) rfl ⟨rfl,HB⟩
 |some t0=>
  have hf:fldE (X.map (·.y)) nm v=0:=by rw[fldE,hv]
  have hlt:l=t0.n:=by rw[←hl,fldL,hv]
  have hqe:upgE (X.map (·.y)) nm v b=if checkB t0.n b=true then 0 else 70:=by rw[upgE,hv]
  have HQ:=J0 hf
  have hm16:m≤16:=by rw[←hm,←hl];exact fldL_16 hok nm v
  cases hc:checkB l b with
  |false=>
   rw[hlt] at hc
   have hq1:upgE (X.map (·.y)) nm v b=70:=by rw[hqe,hc];rfl
   obtain rfl:z=⟨#[]⟩:=by rw[←hz,upgV,if_neg (by rw[hq1];decide)];rfl
   rw[hq1] at hq
   rw[←hlt] at hc
   subst hq
   have HC:=J0 hc
   clear h hn hok hsb hl hm hs hv hf hq1 hz hrow hlt hqe hc
   go_enter Tryz.func19,Tryz.ntmps19
   go_wp2_with (first|(go_at_call 40;refine(rFields_m HH.out n HN.out HOK.out nm v _ HQ.out _ HL.out m HM.out).mono ?_;rintro e W1 ⟨B,b1,rfl,rB,hb⟩;replace HB:=HB.trans (hb.mono HB.size);clear hb)|(go_at_call 41;refine(rValues_m s b HSB.out B b1 m l HM.out (by omega) _ HC.out _ rB HS.out.fds).mono ?_;rintro e W2 ⟨B2,k2,d2,rfl,_,hb⟩;replace HB:=HB.trans (hb.mono HB.size);clear hb))
   refine bodyPost_ret (v:=.tuple #[.string ⟨#[]⟩,.int .i64 70]) (by simp[results,Tryz.results19,go_sem, *];done) rfl ⟨rfl,HB⟩
  |true=>
   have HC:=J0 hc
   rw[hlt] at hc
   have hq1:upgE (X.map (·.y)) nm v b=0:=by rw[hqe,hc];rfl
   cases hfy:findY (X.map (·.y)) nm with
   |none=>rw[verTab,hfy] at hv;cases hv
   |some t=>
    obtain⟨i,x,hi,rfl,hfz⟩:=find_at hfy
    rw[verTab,hfy] at hv
    obtain⟨k,hvk,hk,hkk⟩:=tabAt_some (t:=x.y) (v:=v) (x:=t0) hv
    have hzz:strL (upgL (x.y.ts.drop (k+1)) b)=z:=by rw[←hz,upgV,if_pos hq1,hfy];simp only;rw[hkk]
    rw[hq1] at hq
    subst hq
    have hxm:=J7 hi
    have hxo:=hok.oks x hxm
    have hI:=h.ty x hxm
    obtain⟨hfl,htl⟩:=hI.len
    have hkl:=(J6.1 hk).1
    have hch:=chain_of hxo.ok hxo.ch _ k t0 rfl hk
    have hup:=upg_check hch hc
    have htv:∀(j:Nat) (y:TabV),x.tv[j]?=some y→x.y.ts[j+1]?=some y.t:=fun j y hy=>by
     have h1:(x.tv.map (·.t))[j]?=some y.t:=by rw[Kv,hy];rfl
     rw[hI.eT,List.getElem?_tail] at h1
     exact h1
    obtain⟨nf,hnf⟩:∃m,x.fv.length=m:=⟨_,rfl⟩
    obtain⟨nt,hnt⟩:∃m,x.tv.length=m:=⟨_,rfl⟩
    obtain⟨old,hold⟩:∃m,x.y.old=m:=⟨_,rfl⟩
    obtain⟨sn,hsn⟩:∃m,x.y.s=m:=⟨_,rfl⟩
    have hhi:x.y.top≤64:=hxo.hi
    have hto:x.y.top=x.y.old+x.y.ts.length - 1:=rfl
    have hnt64:nt≤64:=by omega
    have hold64:old≤64:=by have:=hxo.sum;omega
    have hknt:k≤nt:=by omega
    have hdl:(x.y.ts.drop (k+1)).length=nt - k:=by rw[List.length_drop];omega
    have hil:i<n:=by rw[←hn];exact(J6.1 hi).1
    have i0:(0:Int)≤(i:Int):=by omega
    have i1:(i:Int)<(n:Int):=by omega
    have hw1:IntKind.i64.wrap (v - (old:Int))=(k:Int):=(Xq _ (by omega)).trans (by omega)
    have hc4:∀W',Below w.heap.size w W'→∃ad,A=some ad∧W'.cell? (ad.add (i * 4))=some (.string sn)∧W'.cell? ⟨(ad.add (i * 4)).block,(ad.add (i * 4)).off+(0+1),none⟩=some (.int .i64 (old:Nat))∧W'.cell? ⟨(ad.add (i * 4)).block,(ad.add (i * 4)).off+(1+1),none⟩=some (.slice x.F nf x.f)∧W'.cell? ⟨(ad.add (i * 4)).block,(ad.add (i * 4)).off+(2+1),none⟩=some (.slice x.T nt x.t):=fun W' hb=>by
     have:=(hrow.below hb).ty hi
     rw[hnf,hnt,hold,hsn] at this
     exact this
    have hstep:∀(j:Nat) (y:TabV),k≤j→x.tv[j]?=some y→checkB y.t.o (upgL ((x.y.ts.drop (k+1)).take (j - k)) b)=true∧TOk y.t∧upgL ((x.y.ts.drop (k+1)).take (j+1 - k)) b=outL y.t (valsL y.t.o (upgL ((x.y.ts.drop (k+1)).take (j - k)) b)) y.t.n.length:=fun j y hkj hy=>by
     have h1:(x.y.ts.drop (k+1))[j - k]?=some y.t:=by rw[List.getElem?_drop,show k+1+(j - k)=j+1 by omega];exact htv j y hy
     obtain⟨a1,a2⟩:=(hup (j - k) (Nat.le_of_lt (J6.1 h1).1)).1 y.t h1
     exact⟨a1,a2,by rw[show j+1 - k=j - k+1 by omega];exact upg_take h1 b⟩
    have HC4:=J0 hc4;have HI:=J0 hI;have HST:=J0 hstep;have HZZ:=J0 hzz;have HFZ:=J0 hfz;have HNT:=J0 hnt;have HDL:=J0 hdl
    have hrow':=J0 hrow
    clear h hn hok hsb hl hm hs hv hf hq1 hz hrow hlt hqe hc hfy hi hvk hk hkk hzz hxm hxo hI hfl htl hkl hch hup htv hnf hnt hold hsn hhi hto hdl hc4 hstep hfz hil
    go_enter Tryz.func19,Tryz.ntmps19
    go_upto_region 7 with (first|(go_at_call 40;refine(rFields_m HH.out n HN.out HOK.out nm v _ HQ.out _ HL.out m HM.out).mono ?_;rintro e W1 ⟨B,b1,rfl,rB,hb⟩;replace HB:=HB.trans (hb.mono HB.size);clear hb)|(go_at_call 41;refine(rValues_m s b HSB.out B b1 m l HM.out (by omega) _ HC.out _ rB HS.out.fds).mono ?_;rintro e W2 ⟨B2,k2,d2,rfl,_,hb⟩;replace HB:=HB.trans (hb.mono HB.size);clear hb))
    obtain⟨ad,hA,_⟩:=HC4.out _ HB
    subst hA
    go_upto_region 8 with (go_at_call 42;refine(rFind9_m (some ad) c n X HN.out (by omega) nm _ HFZ.out _ (hrow'.out.below HB)).mono ?_;rintro e W3 ⟨rfl,hb⟩;replace HB:=HB.trans (hb.mono HB.size);obtain⟨_,eA,c0,c1,c2,c3⟩:=HC4.out _ HB;cases eA;have P:=OBox.new W3 [.string sn,.int .i64 (old:Nat),.slice x.F nf x.f,.slice x.T nt x.t] 58;have nb:=below_new (w:=W3) (.cells #[.string sn,.int .i64 (old:Nat),.slice x.F nf x.f,.slice x.T nt x.t] 58);clear hb)
    obtain⟨p,hp⟩:∃p,W3.heap.size=p:=⟨_,rfl⟩
    have HB4:=HB.trans (nb.mono HB.size)
    generalize W3.alloc (.cells #[.string sn,.int .i64 (old:Nat),.slice x.F nf x.f,.slice x.T nt x.t] 58)=W4 at *
    rw[hp] at P ⊢
    clear hp c0 c1 c2 c3 nb HB
    obtain⟨p0,p1,p2,p3⟩:=P.f4
    go_upto_region 9 with fail
    have P0:=P
    have hst0:strL b=s:=by rw[←HSB.out];simp[strL,bl]
    clear p0 p1 p2 p3 P
    go_loopw [3,8,9,15,16,17] (fun u _ _ i _ _ wr=>∃j:Nat,k≤j∧j≤nt∧i=.int .i64 j∧u=.string (strL (upgL ((x.y.ts.drop (k+1)).take (j - k)) b))∧OBox wr p [.string sn,.int .i64 (old:Nat),.slice x.F nf x.f,.slice x.T nt x.t] 58∧Below w.heap.size w wr) (fun _ _ _ i _ _ _=>nt - (intOf i).toNat)
    case atStart=>exact⟨k,J9 _,hknt,rfl,by rw[Nat.sub_self,List.take_zero];exact congrArg Value.string hst0.symm,P0,HB4⟩
    case round=>
     obtain⟨j,hj0,hj1,rfl,rfl,P,HB⟩:=hrel
     clear P0 HB4
     obtain⟨p0,p1,p2,p3⟩:=P.f4
     by_cases hlt:j<nt
     ·obtain⟨y,hy⟩:∃y,x.tv[j]?=some y:=⟨_,J4 (by rw[HNT.out];exact hlt)⟩
      obtain⟨a1,a2,a3⟩:=HST.out j y hj0 hy
      obtain⟨bj,hbj⟩:∃bj,upgL ((x.y.ts.drop (k+1)).take (j - k)) b=bj:=⟨_,rfl⟩
      rw[hbj] at a1 a3 ⊢
      obtain⟨no,hno⟩:∃n,y.t.o.length=n:=⟨_,rfl⟩
      obtain⟨nn,hnn⟩:∃n,y.t.n.length=n:=⟨_,rfl⟩
      obtain⟨nm',hnm⟩:∃n,y.t.m.length=n:=⟨_,rfl⟩
      obtain⟨td,hT,t0,t1,t2⟩:=(HI.out.rT.rd.below HB).tab3 hy
      rw[hno] at t0;rw[hnn] at t1 a3;rw[hnm] at t2
      rw[hT] at p3
      clear hT
      obtain⟨d0,d1,d2⟩:=HI.out.tb y (J7 hy)
      have j0:(0:Int)≤(j:Int):=by omega
      have j1:(j:Int)<(nt:Int):=by omega
      have hwj:IntKind.i64.wrap ((j:Int)+1)=((j+1:Nat):Int):=(Xq _ (by omega)).trans (by omega)
      have HA1:=J0 a1;have HA2:=J0 a2;have HA3:=J0 a3;have HNO:=J0 hno;have HNN:=J0 hnn;have HNM:=J0 hnm
      clear hy a1 a2 a3 hno hnn hnm hbj
      go_upto_region 12 with (go_at_call 43;refine(rApply_m y.t y.A y.B y.C y.a y.b y.c no nn nm' HNO.out HNN.out HNM.out HA2.out (strL bj) bj (bl_strL bj) HA1.out _ rfl _ (d0.below HB) (d1.below HB) (d2.below HB)).mono ?_;rintro e W6 ⟨rfl,hb6⟩;replace HB:=HB.trans (hb6.mono HB.size);replace P:=P.below hb6;clear hb6 t0 t1 t2 p0 p1 p2 p3)
      go_wp2
      go_roundw
      case rel=>exact⟨j+1,by omega,by omega,by go_num,by rw[HA3.out],P,HB⟩
      case measure=>simp[intOf];omega
     ·obtain rfl:j=nt:=by omega
      have he:strL (upgL ((x.y.ts.drop (k+1)).take (j - k)) b)=z:=by rw[Vz (Nat.le_of_eq HDL.out)];exact HZZ.out
      rw[he]
      clear he
      go_wp2
      refine bodyPost_ret (v:=.tuple #[.string z,.int .i64 0]) (by simp[results,Tryz.results19,go_sem, *];done) rfl ⟨rfl,HB⟩
theorem putY_perm {L D:List Ty} (hp:L.Perm D) (y:Ty):(putY L y).Perm (putY D y):=hp.map _
theorem rdoD_perm {L D:List Ty} (h:CatOk D) (hp:L.Perm D) (hr:Ranked L) (o:OpZ):(rdoD L o).Perm (doD D o)∧Ranked (rdoD L o)∧doE L o=doE D o∧doV L o=doV D o:=by
 have hf:∀nm,findY L nm=findY D nm:=fun nm=>findY_perm hp h.nd nm
 have hl:=hp.length_eq
 have e0:∀nm fs,defE L nm fs=defE D nm fs:=fun nm fs=>by rw[defE,defE,hf,hl]
 have e1:∀nm cs,chE L nm cs=chE D nm cs:=fun nm cs=>by rw[chE,chE,hf]
 have e2:∀nm q,reE L nm q=reE D nm q:=fun nm q=>by rw[reE,reE,hf]
 have w1:∀nm cs,chV L nm cs=chV D nm cs:=fun nm cs=>by rw[chV,chV,e1,hf]
 have w2:∀nm q,reV L nm q=reV D nm q:=fun nm q=>by rw[reV,reV,e2,hf]
 have d0:(rdefD L o.s o.fs).Perm (defD D o.s o.fs)∧Ranked (rdefD L o.s o.fs):=by
  rw[rdefD,defD,e0]
  by_cases hz:defE D o.s o.fs=0
  ·rw[if_pos hz,if_pos hz]
   refine⟨(insT_perm _ _ _).trans ((hp.cons _).trans (List.perm_append_singleton _ _).symm),insL_ranked hr fun u hu e=>?_⟩
   unfold defE at hz
   split at hz
   ·cases hz
   ·split at hz
    ·cases hz
    ·rename_i hn
     have hnone:findY D o.s=none:=by
      cases hx:findY D o.s with
      |none=>rfl
      |some t=>exact absurd (.inl (by rw[hx];simp)) hn
     exact findY_none hnone u (hp.subset hu) e
  ·rw[if_neg hz,if_neg hz];exact⟨hp,hr⟩
 have d1:(chD L o.s o.cs).Perm (chD D o.s o.cs)∧Ranked (chD L o.s o.cs):=by
  rw[chD,chD,e1,hf]
  split
  ·cases findY D o.s with
   |none=>exact⟨hp,hr⟩
   |some t=>exact⟨putY_perm hp _,hr.put _⟩
  ·exact⟨hp,hr⟩
 have d2:(reD L o.s o.live).Perm (reD D o.s o.live)∧Ranked (reD L o.s o.live):=by
  rw[reD,reD,e2,hf]
  split
  ·cases findY D o.s with
   |none=>exact⟨hp,hr⟩
   |some t=>exact⟨putY_perm hp _,hr.put _⟩
  ·exact⟨hp,hr⟩
 refine⟨?_,?_,by rw[doE,doE,e0,e1,e2],by rw[doV,doV,w1,w2]⟩
 ·rw[rdoD,doD,doD]
  split
  ·exact d0.1
  ·split
   ·exact d1.1
   ·split
    ·exact d2.1
    ·exact hp
 ·rw[rdoD,doD]
  split
  ·exact d0.2
  ·split
   ·exact d1.2
   ·split
    ·exact d2.2
    ·exact hr
def Mid (w:World) (cp mp:Nat) (D L:List Ty) (A:Option Addr) (n c:Nat) (W:World):Prop:=∃E es clock X,E.map (·.y)=D∧X.map (·.y)=L∧X.length=n∧CatIs 89 80 W cp mp E es clock∧Low w W mp E∧CatOk D∧RefIs (Unowned E mp) W A c X
theorem Mid.below {w W W':World} {cp mp:Nat} {D L:List Ty} {A:Option Addr} {n c:Nat} (h:Mid w cp mp D L A n c W) (hb:Below W.heap.size W W'):Mid w cp mp D L A n c W':=by
 obtain⟨E,es,k,X,h1,h2,h3,h4,h5,h6,h7⟩:=h
 exact⟨E,es,k,X,h1,h2,h3,h4.below hb,h5.below hb,h6,h7.below hb⟩
theorem Mid.b {w W:World} {cp mp:Nat} {D L:List Ty} {A:Option Addr} {n c:Nat} (h:Mid w cp mp D L A n c W):Below w.heap.size w W:=by
 obtain⟨E,es,k,X,h1,h2,h3,h4,h5,h6,h7⟩:=h
 exact h5.b
theorem Mid.ok {w W:World} {cp mp:Nat} {D L:List Ty} {A:Option Addr} {n c:Nat} (h:Mid w cp mp D L A n c W):CatOk D:=by
 obtain⟨E,es,k,X,h1,h2,h3,h4,h5,h6,h7⟩:=h
 exact h6
theorem Mid.a {w W:World} {cp mp:Nat} {D L:List Ty} {A:Option Addr} {n c:Nat} (h:Mid w cp mp D L A n c W):ASt w cp mp D W:=by
 obtain⟨E,es,k,X,h1,h2,h3,h4,h5,h6,h7⟩:=h
 exact⟨E,es,k,h1,h4,h5,h6⟩
theorem Unowned.new {W:World} {cp mp:Nat} {E:List En} {es:List MapEntry} {clock:Nat} (h:CatIs 89 80 W cp mp E es clock) {g:Nat} (hg:W.heap.size≤g):Unowned E mp g:=
 ⟨by have:=(Qk.1 h.map).1;omega,fun d hd hh=>by have:=En.lt (h.ents d hd) hh;omega⟩
theorem New_b (w W:World) (hb:Below w.heap.size w W):Calls Tryz.prog 12 #[] W fun e w'=>∃cp mp,e=.returned (.pointer (some ⟨cp,0,none⟩))∧Mid w cp mp [] [] none 0 0 w':=by
 refine(New_a w W hb).mono ?_
 rintro e w' ⟨cp,mp,rfl,⟨E,es,k,h1,h2,h3,h4⟩,hb2⟩
 exact⟨cp,mp,rfl,E,es,k,[],h1,rfl,rfl,h2,h3,h4,⟨Rd.nil _ _,(fun x hx=>by cases hx),J9 _,fun _=>⟨rfl,rfl⟩⟩⟩
theorem rDo_b {w W:World} {cp mp:Nat} {D L:List Ty} {A:Option Addr} {n c:Nat} (h:Mid w cp mp D L A n c W) (hp:L.Perm D) (hr:Ranked L) (x:OpV) (hG:x.G W) (hS:x.S) (nf nc nl:Nat) (hnf:x.fs.length=nf) (hnc:x.cs.length=nc) (hnl:x.live.length=nl)
 (q:Int) (hq:doE D x.z=q) (v:Nat) (hv:doV D x.z=v) (L':List Ty) (hL:rdoD L x.z=L'):
 Calls Tryz.prog 36 #[.slice A n c,.agg #[.int .i64 x.k,.string x.s,.slice x.A nf x.a,.slice x.C nc x.c,.slice x.L nl x.l]] W fun e w'=>∃B k d,e=.returned (.tuple #[.slice B k d,.int .i64 (v:Nat),.int .i64 q])∧Mid w cp mp D L' B k d w'∧Below W.heap.size W w':=by
 obtain⟨E,es,k,X,h1,h2,h3,h4,h5,h6,h7⟩:=h
 obtain⟨_,_,hqe,hve⟩:=rdoD_perm h6 hp hr x.z
 refine(rDo_m h7 n h3 (by rw[h2];exact h6.perm hp) x hG hS nf nc nl hnf hnc hnl q (by rw[h2,hqe];exact hq) v (by rw[h2,hve];exact hv) L' (by rw[h2];exact hL)).mono ?_
 rintro e w' ⟨B,m,d,rfl,X',r1,r2,r3,hb⟩
 refine⟨B,m,d,rfl,⟨E,es,k,X',h1,r1,r2,h4.below hb,h5.below hb,h6,r3.mono fun g hg=>?_⟩,hb⟩
 rcases hg with hg|hg
 ·exact hg
 ·exact Unowned.new h4 hg
theorem does_b {w W:World} {cp mp:Nat} {D L:List Ty} {A:Option Addr} {n c:Nat} (h:Mid w cp mp D L A n c W) (x:OpV) (hG:x.G W) (hS:x.S) (nf nc nl:Nat) (hnf:x.fs.length=nf) (hnc:x.cs.length=nc) (hnl:x.live.length=nl)
 (q:Int) (hq:doE D x.z=q) (v:Nat) (hv:doV D x.z=v) (D':List Ty) (hD:doD D x.z=D'):
 Calls Tryz.prog 13 #[.pointer (some ⟨cp,0,none⟩),.agg #[.int .i64 x.k,.string x.s,.slice x.A nf x.a,.slice x.C nc x.c,.slice x.L nl x.l]] W fun e w'=>e=.returned (.tuple #[.int .i64 (v:Nat),.int .i64 q])∧Mid w cp mp D' L A n c w'∧Kp W w':=by
 obtain⟨E,es,k,X,rfl,h2,h3,h4,h5,h6,h7⟩:=h
 refine(does_m h4 h6 x hG hS nf nc nl hnf hnc hnl q hq v hv D' hD).mono ?_
 rintro e w' ⟨rfl,E',es',k',r1,r2,r3⟩
 exact⟨rfl,⟨E',es',k',X,r1,h2,h3,r2,h5.next r3,by rw[←hD];exact h6.do (opOk hG hS),h7.cat h4 r3⟩,fun A cs hA hs=>r3.solid h4 hA hs⟩
theorem stands_b {w W:World} {cp mp:Nat} {D L:List Ty} {A:Option Addr} {n c:Nat} (h:Mid w cp mp D L A n c W) (hp:L.Perm D) (hr:Ranked L):
 Calls Tryz.prog 21 #[.pointer (some ⟨cp,0,none⟩),.slice A n c] W fun e w'=>e=.returned (.bool true)∧Below W.heap.size W w':=by
 obtain⟨E,es,k,X,rfl,rfl,h3,h4,h5,h6,h7⟩:=h
 exact stands_m h4 h6 h7 n h3 hp hr
theorem made_m (A:Option Addr) (cA m:Nat) (os:List OpV) (hm:os.length=m) (hl:m≤281474976710656) (w:World) (hA:Rd w A (cellsO os)) (hG:∀x∈os,x.G w) (hS:∀x∈os,x.S):
 Calls Tryz.prog 17 #[.slice A m cA] w fun e w'=>∃cp mp D L B n c,e=.returned (.tuple #[.pointer (some ⟨cp,0,none⟩),.slice B n c,.bool true])∧Mid w cp mp D L B n c w'∧L.Perm D∧Ranked L:=by
 have HM:=J0 hm;have HG:=J0 hG;have HS:=J0 hS
 clear hm hG hS
 go_enter Tryz.func17,Tryz.ntmps17
 go_upto_region 4 with (go_at_call 12;refine(New_b w _ (Jy _ _)).mono ?_;rintro e w1 ⟨cp,mp,rfl,S1⟩)
 go_loopw [6,17] (fun r i wr=>∃(k:Nat) (D L:List Ty) (B:Option Addr) (n c:Nat),k≤m∧i=.int .i64 k∧r=.slice B n c∧Mid w cp mp D L B n c wr∧Hid (L.Perm D∧Ranked L)) (fun _ i _=>m - (intOf i).toNat)
 case atStart=>exact⟨0,[],[],none,0,0,by omega,rfl,rfl,S1,J0 ⟨List.Perm.refl _,List.Pairwise.nil⟩⟩
 case round=>
  obtain⟨k,D,L,B,n,c,hk,rfl,rfl,St,hLD⟩:=hrel
  clear S1
  have HB:=St.b
  have hAr:=hA.below HB
  by_cases hlt:k<m
  ·obtain⟨x,hx⟩:∃x,os[k]?=some x:=⟨_,J4 (by rw[HM.out];exact hlt)⟩
   have hxm:=J7 hx
   have xG:=(HG.out x hxm).below HB
   have xS:=HS.out x hxm
   obtain⟨ad,rfl,c0,c1,c2,c3,c4⟩:=hAr.op hx
   obtain⟨nf,hnf⟩:∃y,x.fs.length=y:=⟨_,rfl⟩
   obtain⟨nc,hnc⟩:∃y,x.cs.length=y:=⟨_,rfl⟩
   obtain⟨nl,hnl⟩:∃y,x.live.length=y:=⟨_,rfl⟩
   rw[hnf] at c2;rw[hnc] at c3;rw[hnl] at c4
   obtain⟨q,hq⟩:∃y,doE D x.z=y:=⟨_,rfl⟩
   obtain⟨v,hv⟩:∃y,doV D x.z=y:=⟨_,rfl⟩
   obtain⟨D',hD⟩:∃y,doD D x.z=y:=⟨_,rfl⟩
   obtain⟨L',hL⟩:∃y,rdoD L x.z=y:=⟨_,rfl⟩
   have hLD':L'.Perm D'∧Ranked L':=by
    obtain⟨a1,a2,_⟩:=rdoD_perm St.ok hLD.out.1 hLD.out.2 x.z
    rw[←hL,←hD];exact⟨a1,a2⟩
   have P:=OBox.new wr [.int .i64 x.k,.string x.s,.slice x.A nf x.a,.slice x.C nc x.c,.slice x.L nl x.l] 31
   have nb:=below_new (w:=wr) (.cells #[.int .i64 x.k,.string x.s,.slice x.A nf x.a,.slice x.C nc x.c,.slice x.L nl x.l] 31)
   have S2:=St.below nb
   have xG2:=xG.below nb
   have HNF:=J0 hnf;have HNC:=J0 hnc;have HNL:=J0 hnl;have HQ:=J0 hq;have HV:=J0 hv;have HD:=J0 hD;have HXS:=J0 xS;have HXG:=J0 xG2;have HL:=J0 hL;have HLD:=J0 hLD'
   clear hAr hx hnf hnc hnl hq hv hD xG xG2 xS HB St hL hLD'
   go_upto_region 6 with fail
   generalize wr.alloc (.cells #[.int .i64 x.k,.string x.s,.slice x.A nf x.a,.slice x.C nc x.c,.slice x.L nl x.l] 31)=W2 at *
   obtain⟨p0,p1,p2,p3,p4⟩:=P.f5
   clear c0 c1 c2 c3 c4 nb
   go_upto_region 10 with (go_at_call 36;refine(rDo_b S2 hLD.out.1 hLD.out.2 x HXG.out HXS.out nf nc nl HNF.out HNC.out HNL.out q HQ.out v HV.out L' HL.out).mono ?_;rintro e w3 ⟨B3,n3,c3,rfl,S3,hb3⟩;replace P:=P.below hb3;replace HXG:=J0 (HXG.out.below hb3);clear S2 p0 p1 p2 p3 p4)
   obtain⟨p0,p1,p2,p3,p4⟩:=P.f5
   go_upto_region 11 with (go_at_call 13;refine(does_b S3 x HXG.out HXS.out nf nc nl HNF.out HNC.out HNL.out q HQ.out v HV.out D' HD.out).mono ?_;rintro e w4 ⟨rfl,S4,_⟩;clear S3 P p0 p1 p2 p3 p4 HXG)
   go_wp2_with (go_at_call 21;refine(stands_b S4 HLD.out.1 HLD.out.2).mono ?_;rintro e w5 ⟨rfl,hb5⟩;replace S4:=S4.below hb5)
   go_roundw
   case rel=>exact⟨k+1,D',L',B3,n3,c3,by omega,by go_num,rfl,S4,HLD⟩
   case measure=>simp[intOf];omega
  ·obtain rfl:k=m:=by omega
   go_wp2
   refine bodyPost_ret (v:=.tuple #[.pointer (some ⟨cp,0,none⟩),.slice B n c,.bool true]) (by simp[results,Tryz.results17,go_sem, *];done) rfl ⟨cp,mp,D,L,B,n,c,rfl,St,hLD.out.1,hLD.out.2⟩
theorem Names_o {W:World} {cp mp:Nat} {E:List En} {es:List MapEntry} {clock:Nat} (h:CatIs 89 80 W cp mp E es clock) (hlen:E.length≤1000):
 Calls Tryz.prog 14 #[.pointer (some ⟨cp,0,none⟩)] W fun e w'=>∃B c ns,e=.returned (.slice B ns.length c)∧ns.Perm (E.map (·.y.s))∧w'.ownsRow W.heap.size 9 1 (.slice B ns.length c) ns.length (cellsS ns)∧Below W.heap.size W w':=by
 obtain⟨D0,hown,hperm,hsz⟩:=h.ownsMap Tryz.underlying9 hlen
 obtain⟨b0,_⟩:=h.box.f1
 have hmax:Maps.size D0≤maxLen:=by rw[hsz];simp only[maxLen];omega
 have hbytes:Maps.size D0 * 16≤140737488355328:=by rw[hsz];omega
 have HP:=J0 hperm
 clear hperm h
 refine(callsIn_wide (n:=6)).1 ?_
 have hfK:Fence.wide.fn 32:=trivial
 have hfS:Fence.wide.fn 31:=trivial
 refine callsIn_of_wp Tryz.func14 rfl trivial ?_ rfl
 simp only[Tryz.ntmps14,List.size_toArray,Xx,List.length_nil,Nat.reduceAdd,Nat.reduceSub,Array.replicate_succ,Array.replicate_zero,List.push_toArray,List.append_toArray,List.nil_append,List.cons_append]
 gi_wp2_with (first
  |(gi_at_call 32;refine(Tryz.maps_Keys_32 _ _).mono ?_;rintro e w' ⟨rfl,rfl⟩)
  |(gi_at_call 31;refine(Tryz.slices_Sorted_keys_31_32 mp es.length D0 noRead W hown hmax hbytes).mono ?_;rintro e w' ⟨v,ss,rfl,hS,hrow,hnil,hb⟩))
 go_ret
 have hms:(ss.mergeSort (fun x y=>decide (x≤y))).length=ss.length:=List.length_mergeSort _
 have hns:((ss.mergeSort (fun x y=>decide (x≤y))).map fun b=>(⟨b.toArray⟩:ByteArray)).length=ss.length:=by rw[Kz,hms]
 obtain⟨B,c,rfl,_,_,_⟩:=own_rd hrow
 refine⟨B,c,(ss.mergeSort (fun x y=>decide (x≤y))).map fun b=>(⟨b.toArray⟩:ByteArray),by rw[hns];rfl,?_,?_,((Jy _ W).alloc (J9 _) _).trans (hb.mono (by simp))⟩
 ·refine((List.mergeSort_perm ss _).map _).trans ((hS.trans HP.out).map _ |>.trans ?_)
  rw[List.map_map]
  exact List.Perm.of_eq (List.map_congr_left fun d _=>by simp)
 ·rw[hns]
  exact own_mono (own_eq hrow rfl (by rw[cellsS,List.map_map];rfl)) (by simp)
theorem upg_last {l:List Fd} {ts:List Tb} (hc:ChainT l ts) {b:List UInt8} (hb:checkB l b=true):checkB ((ts.getLast?.map (·.n)).getD l) (upgL ts b)=true:=by
 induction ts generalizing l b with
 |nil=>exact hb
 |cons t r ih=>
  obtain⟨rfl,hok,hr⟩:=hc
  have:=ih hr (out_check hok hb)
  cases r with
  |nil=>exact this
  |cons u q=>rw[List.getLast?_cons_cons];rw[show upgL (t :: u :: q) b=upgL (u :: q) (outL t (valsL t.o b) t.n.length) from rfl];simpa[List.getLast?_cons] using this
theorem top_tab {D:List Ty} {nm:ByteArray} {t:Ty} (hf:findY D nm=some t) (ht:t.Ok):verTab D nm (t.top:Int)=t.ts.getLast?:=by
 have hlen:0<t.ts.length:=by cases hx:t.ts with|nil=>exact absurd hx ht.ne|cons a r=>simp
 have htop:t.top=t.old+t.ts.length - 1:=rfl
 rw[verTab,hf]
 show tabAt t (t.top:Int)=_
 rw[tabAt,if_neg (by omega),List.getLast?_eq_getElem?]
 congr 1
 omega
theorem upg_again {D:List Ty} (h:CatOk D) {nm:ByteArray} {v:Int} {b:List UInt8} (h0:upgE D nm v b=0):verE D nm=0∧upgE D nm (verT D nm:Int) (upgV D nm v b)=0∧upgV D nm (verT D nm:Int) (upgV D nm v b)=upgV D nm v b:=by
 cases hv:verTab D nm v with
 |none=>rw[upgE,hv] at h0;cases h0
 |some x=>
  have hc:checkB x.n b=true:=by
   cases hc:checkB x.n b with
   |true=>rfl
   |false=>simp[upgE,hv,hc] at h0
  cases hf:findY D nm with
  |none=>rw[verTab,hf] at hv;cases hv
  |some t=>
   have ht:=h.ok t (findY_mem hf).1
   rw[verTab,hf] at hv
   obtain⟨k,hvk,hk,hkk⟩:=tabAt_some (t:=t) (v:=v) (x:=x) hv
   have hr:upgV D nm v b=upgL (t.ts.drop (k+1)) b:=by rw[upgV,if_pos h0,hf];simp only;rw[hkk]
   have e2:verT D nm=t.top:=by rw[verT,hf]
   have hkl:=(J6.1 hk).1
   have htop:t.top=t.old+t.ts.length - 1:=rfl
   obtain⟨y,hy,_,_⟩:=last_ok ht
   have hl:=upg_last (chain_of ht.ok ht.ch _ k x rfl hk) hc
   have hyn:((t.ts.drop (k+1)).getLast?.map (·.n)).getD x.n=y.n:=by
    rw[List.getLast?_drop]
    by_cases hle:t.ts.length≤k+1
    ·rw[if_pos hle]
     have:t.ts.getLast?=some x:=by rw[List.getLast?_eq_getElem?,show t.ts.length - 1=k by omega];exact hk
     rw[this] at hy
     rw[←Jj hy];rfl
    ·rw[if_neg hle,hy];rfl
   rw[hyn] at hl
   have a1:=top_tab hf ht
   have hq:upgE D nm (t.top:Int) (upgL (t.ts.drop (k+1)) b)=0:=by rw[upgE,a1,hy];simp only;rw[hl];rfl
   rw[e2,hr]
   refine⟨by rw[verE,hf],hq,?_⟩
   rw[upgV,if_pos hq,hf]
   simp only
   rw[List.drop_eq_nil_of_le (by omega)]
   rfl
theorem rUpg_b {w W:World} {cp mp:Nat} {D L:List Ty} {A:Option Addr} {n c:Nat} (h:Mid w cp mp D L A n c W) (hp:L.Perm D) (nm:ByteArray) (v:Int) (s:ByteArray) (b:List UInt8) (hsb:bl s=b) (q:Int) (hq:upgE D nm v b=q) (z:ByteArray) (hz:strL (upgV D nm v b)=z):
 Calls Tryz.prog 19 #[.slice A n c,.string nm,.int .i64 v,.string s] W fun e w'=>e=.returned (.tuple #[.string z,.int .i64 q])∧Below W.heap.size W w':=by
 obtain⟨E,es,k,X,rfl,rfl,h3,h4,h5,h6,h7⟩:=h
 have e1:upgE (X.map (·.y)) nm v b=upgE (E.map (·.y)) nm v b:=by rw[upgE,upgE,verTab_perm h6 hp]
 exact rUpgrade_m h7 n h3 (h6.perm hp) nm v s b hsb q (by rw[e1];exact hq) z (by rw[upgV,e1,findY_perm hp h6.nd];exact hz)
theorem Names_b {w W:World} {cp mp:Nat} {D L:List Ty} {A:Option Addr} {n c:Nat} (h:Mid w cp mp D L A n c W):
 Calls Tryz.prog 14 #[.pointer (some ⟨cp,0,none⟩)] W fun e w'=>∃B c ns,e=.returned (.slice B ns.length c)∧ns.Perm (D.map (·.s))∧w'.ownsRow W.heap.size 9 1 (.slice B ns.length c) ns.length (cellsS ns)∧Below W.heap.size W w':=by
 obtain⟨E,es,k,X,rfl,rfl,h3,h4,h5,h6,h7⟩:=h
 rw[List.map_map]
 exact Names_o h4 (by have:=h6.len;rw[Kz] at this;omega)
theorem infoStr:(Tryz.prog.info? 9).map (fun i=>(i.zero,i.size,i.bytes))=some (some (.string ⟨#[]⟩),1,16):=by kernel_rfl
theorem SchemaUpgrades_row (A:Option Addr) (cA:Nat) (os:List OpV) (Ab:Option Addr) (cb:Nat) (b:List UInt8) (v:Int) (w:World) (hA:Rd w A (cellsO os)) (hcA:os.length≤cA) (hG:∀x∈os,x.G w) (hz:(∀x∈os,x.S)∧os.length≤281474976710656) (hcb:b.length≤cb) (hcm:cb≤maxLen) (hb:Rd w Ab (bytesV b)) (hv0:-9223372036854775808≤v) (hv1:v≤9223372036854775807):
 Calls Tryz.prog 5 #[.slice A os.length cA,.slice Ab b.length cb,.int .i64 v] w fun e w'=>e=.returned (.bool true)∧Below w.heap.size w w':=by
 obtain⟨i0,hi,hz0,hz1,hz2⟩:=info_parts infoStr
 obtain⟨m,hm⟩:∃m,os.length=m:=⟨_,rfl⟩
 obtain⟨nb,hnb⟩:∃m,b.length=m:=⟨_,rfl⟩
 rw[hm] at hcA ⊢
 rw[hnb] at hcb ⊢
 obtain⟨hS,hl⟩:=hz
 rw[hm] at hl
 have HM:=J0 hm;have HG:=J0 hG;have HS:=J0 hS;have HNB:=J0 hnb
 simp only[maxLen] at hcm
 clear hm hG hS hnb
 go_enter Tryz.func5,Tryz.ntmps5
 go_wp2_with (go_at_call 10;refine(few9_m A cA m os HM.out (by omega) _ hA HG.out HS.out).mono ?_)
 rintro e W1 ⟨rf,rfl,HB⟩
 cases rf
 ·go_wp2_with (go_at_call 11;refine(alive_calls9 _).mono ?_;rintro e wM ⟨rfl,hb'⟩;replace HB:=HB.trans (hb'.mono HB.size);clear hb')
  go_ret
  exact⟨rfl,HB⟩
 by_cases h2000:2000<nb
 ·have d1:decide ((2000:Int)<(nb:Int))=true:=by simp;omega
  go_wp2_with (go_at_call 11;refine(alive_calls9 _).mono ?_;rintro e wM ⟨rfl,hb'⟩;replace HB:=HB.trans (hb'.mono HB.size);clear hb')
  go_ret
  exact⟨rfl,HB⟩
 have d1:decide ((2000:Int)<(nb:Int))=false:=by simp;omega
 have hA1:=hA.below HB
 have hb1:=hb.below HB
 have HG1:=J0 (fun x hx=>(HG.out x hx).below HB:∀x∈os,x.G W1)
 have HB0:=HB
 clear HB HG hA hb
 go_upto_region 6 with (go_at_call 17;refine(made_m A cA m os HM.out (by omega) _ hA1 HG1.out HS.out).mono ?_;rintro e W2 ⟨cp,mp,D,L,B,n,c,rfl,St,hp,hr⟩)
 have HP:=J0 hp;have HR:=J0 hr
 have HB2:=HB0.trans (St.b.mono HB0.size)
 have hb2:=hb1.below St.b
 clear hp hr HB0 hA1 hb1 HG1
 go_wp2_with (first
  |(go_at_call 14;refine(Names_b St).mono ?_;rintro e W3 ⟨BN,cN,ns,rfl,hperm,hown,hb3⟩;obtain⟨nn,hnn⟩:∃y,ns.length=y:=⟨_,rfl⟩;rw[hnn] at hown ⊢;have hn16:nn≤16:=by have h1:=hperm.length_eq;rw[Kz,hnn] at h1;have:=St.ok.len;omega)
  |(at_builtin;refine wpList_append_own _ rfl _ _ 35 rfl W2.heap.size 9 i0 (.string ⟨#[]⟩) 1 16 Tryz.underlying35 hi hz0 hz1 hz2 rfl (by decide) _ _ _ rfl (hown.alloc _) ⟨W3.heap.size,0,none⟩ 1 1 [.string ⟨#[63]⟩] rfl rfl ?c1 ?c2 ?c3 ?c4 ?c5 ?_))
 case c1=>exact cell_one_new _ _ _
 case c2=>intro u hu;simp at hu;subst hu;rfl
 case c3=>simp only[maxLen];omega
 case c4=>omega
 case c5=>have:=hb3.size;simp;omega
 intro v' w4 hown' hgrow _
 have hb4:Below W2.heap.size W2 w4:=(hb3.alloc hb3.size (.cells #[.string ⟨#[63]⟩] 9)).grown hgrow (by have:=hb3.size;simp;omega) (fun q hq=>own_base hown q hq)
 have hown4:w4.ownsRow W2.heap.size 9 1 v' (nn+1) (cellsS (ns++[⟨#[63]⟩])):=own_eq hown' rfl (by simp[cellsS])
 obtain⟨B5,c5,rfl,_,_,hN5⟩:=own_rd hown4
 have hNL:(ns++[(⟨#[63]⟩:ByteArray)]).length=nn+1:=by simp[hnn]
 have hNM:∀nm∈ns++[(⟨#[63]⟩:ByteArray)],nm.size≤maxLen:=fun nm hm=>by
  rcases X7.1 hm with h|h
  ·obtain⟨t,ht,hs⟩:=X5.1 (hperm.subset h)
   rw[←hs];exact name_max (St.ok.ok t ht).nm
  ·simp at h;subst h;simp only[maxLen];decide
 have S4:=St.below (hb4.mono (J9 _))
 obtain⟨NS,hNS⟩:∃NS,ns++[(⟨#[63]⟩:ByteArray)]=NS:=⟨_,rfl⟩
 rw[hNS] at hN5 hNL hNM
 obtain⟨N,hNN⟩:∃N,nn+1=N:=⟨_,rfl⟩
 rw[hNN] at hNL ⊢
 have hN17:N≤17:=by omega
 have HNL:=J0 hNL;have HNM:=J0 hNM
 have hb44:=hb2.below hb4
 have HB4:=HB2.trans (hb4.mono HB2.size)
 clear hown4 hown' hgrow hown hperm hnn hNS hNN hNL hNM St hb3 hb2 HB2 hn16 hb4
 go_upto_region 7 with fail
 have hB0:=Jy w4.heap.size w4
 go_loopw [11,43] (fun _ i wr=>∃j:Nat,j≤N∧i=.int .i64 j∧Below w4.heap.size w4 wr) (fun _ i _=>N - (intOf i).toNat)
 case atStart=>exact⟨0,by omega,rfl,hB0⟩
 case round=>
  rename World=>wr
  obtain⟨j,hj,rfl,HB⟩:=hrel
  clear hB0
  by_cases hjn:j<N
  ·obtain⟨nm,hnm⟩:∃y,NS[j]?=some y:=⟨_,J4 (by rw[HNL.out];exact hjn)⟩
   have hmx:=HNM.out nm (J7 hnm)
   obtain⟨bd,rfl,n0⟩:=(hN5.below HB).at (j:=j) (u:=.string nm) (by simp[cellsS,hnm])
   have j0:(0:Int)≤(j:Int):=by omega
   have j1:(j:Int)<(N:Int):=by omega
   have hwj:IntKind.i64.wrap ((j:Int)+1)=((j+1:Nat):Int):=(Xq _ (by omega)).trans (by omega)
   obtain⟨q,hq⟩:∃q,upgE D nm v b=q:=⟨_,rfl⟩
   obtain⟨r,hr⟩:∃r,upgV D nm v b=r:=⟨_,rfl⟩
   obtain⟨z,hz⟩:∃z,r.length=z:=⟨_,rfl⟩
   obtain⟨p,hp⟩:∃p,strL r=p:=⟨_,rfl⟩
   obtain⟨o,ho⟩:∃o,verO D nm=o:=⟨_,rfl⟩
   obtain⟨t,ht⟩:∃t,verT D nm=t:=⟨_,rfl⟩
   obtain⟨ve,hve⟩:∃t,verE D nm=t:=⟨_,rfl⟩
   have hag:q=0→ve=0∧upgE D nm (t:Int) r=0∧upgV D nm (t:Int) r=r:=fun h0=>by
    have:=upg_again S4.ok (hq.trans h0)
    rw[hr,ht,hve] at this
    exact this
   have hz4:z≤4096:=by
    rw[←hz]
    by_cases h0:q=0
    ·obtain⟨_,a1,_⟩:=hag h0
     cases hv:verTab D nm (t:Int) with
     |none=>rw[upgE,hv] at a1;cases a1
     |some x=>
      cases hc:checkB x.n r with
      |true=>exact check_len hc
      |false=>simp[upgE,hv,hc] at a1
    ·rw[←hr,upgV,if_neg (by rw[hq];exact h0)];simp
   have HQ:=J0 hq;have HRV:=J0 hr;have HZ:=J0 hz;have HPP:=J0 hp;have HO:=J0 ho;have HT:=J0 ht;have HVE:=J0 hve;have HAG:=J0 hag;have HMX:=J0 hmx
   have hst:strL (upgV D nm v b)=p:=by rw[hr];exact hp
   have HST:=J0 hst
   have hb5:=hb44.below HB
   clear hnm hq hr hz hp ho ht hve hag hst hmx
   go_upto_region 10 with (go_at_call 18;refine(Upgrade_a (S4.below HB).a HMX.out v b nb HNB.out (by omega) Ab cb hcb hb5 q HQ.out r HRV.out z HZ.out).mono ?_;rintro e W5 ⟨BX,cX,rfl,hcX,rX,hbx⟩;replace HB:=HB.trans (hbx.mono HB.size);replace hb5:=hb5.below hbx;clear hbx n0)
   have hcv:=conv_at hb5 nb cb HNB.out
   go_upto_region 11 with (go_at_call 19;refine(rUpg_b (S4.below HB) HP.out nm v (strL b) b (bl_strL b) q HQ.out p HST.out).mono ?_;rintro e W6 ⟨rfl,hbx⟩;replace HB:=HB.trans (hbx.mono HB.size);replace rX:=rX.below hbx;clear hbx hcv hb5)
   have hcv:=conv_at rX z cX HZ.out
   rw[HPP.out] at hcv
   go_upto_region 14 with (go_at_call 15;refine(Versions_a (S4.below HB).a HMX.out o t ve HO.out HT.out HVE.out).mono ?_;rintro e W7 ⟨rfl,hbx⟩;replace HB:=HB.trans (hbx.mono HB.size);replace rX:=rX.below hbx;clear hbx hcv)
   by_cases h0:q=0
   ·obtain⟨hv0,a1,a2⟩:=HAG.out h0
    have e1:(q == 0)=true:=by simpa using h0
    have e2:(ve == 0)=true:=by simpa using hv0
    have HA1:=J0 a1;have HA2:=J0 a2;have HH0:=J0 h0
    clear h0 hv0 a1 a2
    go_upto_region 16 with (go_at_call 18;refine(Upgrade_a (S4.below HB).a HMX.out (t:Int) r z HZ.out (by omega) BX cX hcX rX 0 HA1.out r HA2.out z HZ.out).mono ?_;rintro e W8 ⟨BY,cY,rfl,hcY,rY,hbx⟩;replace HB:=HB.trans (hbx.mono HB.size);replace rX:=rX.below hbx;clear hbx)
    have hcv:=conv_at rX z cX HZ.out
    have hcw:=conv_at rY z cY HZ.out
    go_wp2
    go_roundw
    case rel=>exact⟨j+1,by omega,by go_num,HB⟩
    case measure=>simp[intOf];omega
   ·have e1:(q == 0)=false:=by simpa using h0
    have HH0:=J0 h0
    clear h0
    go_wp2
    go_roundw
    case rel=>exact⟨j+1,by omega,by go_num,HB⟩
    case measure=>simp[intOf];omega
  ·obtain rfl:j=N:=by omega
   replace HB:=HB4.trans (HB.mono HB4.size)
   go_wp2_with (go_at_call 11;refine(alive_calls9 _).mono ?_;rintro e wM ⟨rfl,hb'⟩;replace HB:=HB.trans (hb'.mono HB.size);clear hb')
   go_ret
   exact⟨rfl,HB⟩
end
end Go.Proofs.YteembinfgbapgaaGreat
namespace Go.Proofs.YteembinfgbapgaaGreat.schemaUpgrades
open Go.ChangeShapes Go.WideShapes Go.ChangeAt Go.RowKit Go.Joins
open Go.ChangeMaps (open_string shut_string)
theorem own:ownKnob Tryz.prog.godebug=none:=by kernel_rfl
theorem laidOut:laidOutB Tryz.prog=true:=by kernel_rfl
set_option maxRecDepth 100000 in
theorem lifted (os:Os) (started:os.Started) (H:Type) (enc:TypeId×Value→H):
 ReturnsInHanded {} Tryz.checked os 5 .any (Rows.schemaUpgradesSpec.pre6 enc Tryz.prog Tryz.f5 Rows.schemaUpgradesRow.domain false) (Rows.schemaUpgradesSpec.post enc Tryz.prog Tryz.f5 false true false false):=by
 refine returnsInHanded_of_change_sized (C:=Tryz.checked) own started (by kernel_rfl) Tryz.func5
  (ChangeSpec.witness6 (enc:=enc) (C:=Tryz.checked) false ⟨#[],#[.slice none 0 0,.slice none 0 0,.int .i64 0],[]⟩ 8 (by kernel_rfl) (by kernel_rfl) (by kernel_rfl) (by kernel_rfl)) ?_
 intro W base args ds gs before hval0 hW hcnd hsz0 _
 have hval:∀(j:Nat) t v,Tryz.f5.params[j]?=some t→args[j]?=some v→Value.okWide Tryz.prog W .any base t v:=hval0
 have hW':=hW
 obtain⟨p,q,hA0,hV,rfl,hfz,hnd⟩:=hW
 have hA:DataW.TrodAll enc Tryz.prog W 0 (fun _=>true) true Tryz.f5.params.toList args.toList ds p:=hA0
 rw[Tryz.params5] at hA hval
 obtain⟨v0,vs0,d0,ds0,p0,q0,hargs,rfl,rfl,h0,r0⟩:=trodAll_cons hA
 obtain⟨v1,vs1,d1,ds1,p1,q1,rfl,rfl,rfl,h1,r1⟩:=trodAll_cons r0
 obtain⟨v2,vs2,d2,ds2,p2,q2,rfl,rfl,rfl,h2,r2⟩:=trodAll_cons r1
 obtain⟨rfl,rfl,rfl⟩:=trodAll_nil r2
 obtain rfl:args=#[v0,v1,v2]:=by cases args;simp_all
 obtain⟨rfl,rfl⟩:=trodVars_none hV
 have k0:=h0
 have lt0:∀x∈p0,x.block<W.heap.size:=by obtain⟨m,hm⟩:=k0;exact DataW.trod_lt m _ _ _ hm
 obtain⟨a0,c0,l0,rfl,e0,f0,g0,s0,z0⟩:=open_ops (hval 0 22 v0 rfl rfl) h0
 replace z0:=z0 (SzT.of hsz0 (j:=0) rfl rfl)
 have k1:=h1
 have lt1:∀x∈p1,x.block<W.heap.size:=by obtain⟨m,hm⟩:=k1;exact DataW.trod_lt m _ _ _ hm
 obtain⟨a1,c1,l1,rfl,e1,f1,g1⟩:=open_bytes (hval 1 44 v1 rfl rfl) h1
 obtain⟨a2,rfl,rfl,rfl,w2⟩:=open_int Tryz.underlying3 (hval 2 3 v2 rfl rfl) h2
 clear hA0 hval0 hsz0
 refine(SchemaUpgrades_row a0 c0 l0 a1 c1 l1 a2 W g0 e0 s0 z0 e1 f1 g1 (wf_i64 w2).1 (wf_i64 w2).2).mono fun e W' ⟨he,bel⟩=>?_
 subst he
 exact⟨_,rfl,_,_,_,[],_,[],hW',trodAll_mk1 (shut_bool Tryz.underlying4 _),(trodAll_cons_mk (Below.trod laidOut (by kernel_rfl) (of_decide_eq_true (by kernel_rfl)) k0 bel lt0) (trodAll_cons_mk (Below.trod laidOut (by kernel_rfl) (of_decide_eq_true (by kernel_rfl)) k1 bel lt1) (trodAll_cons_mk (shut_int Tryz.underlying3 w2) trodAll_mk0))),rfl,bel.frame _,fun h=>by cases h⟩
theorem over:Rows.schemaUpgradesRow.holds Tryz.pinned (OpenSpec.ofChange Rows.schemaUpgradesSpec):=
 OpenClaim.holds_of_wide 5 Tryz.f5 rfl rfl rfl rfl rfl rfl rfl ⟨rfl,rfl,rfl,rfl,rfl⟩ rfl rfl rfl rfl rfl (by kernel_rfl) Tryz.func5 (by kernel_rfl)
  (of_decide_eq_true (by kernel_rfl)) (by unfold Func.isWrapper;first|(rw[if_pos (by decide +kernel)];kernel_rfl)|(rw[if_neg (by decide +kernel)];exact⟨rfl,rfl⟩))
  (fun os started H enc _=>lifted os started H enc)
theorem proved:Rows.SchemaUpgradesSaid:=over
end Go.Proofs.YteembinfgbapgaaGreat.schemaUpgrades
namespace Go.Proofs.YteembinfgbapgaaGreat
theorem schemaUpgrades_holds:Rows.SchemaUpgradesSaid:=schemaUpgrades.proved
end Go.Proofs.YteembinfgbapgaaGreat
namespace Go.Proofs.YteembinfgbapgaaGreat
end Go.Proofs.YteembinfgbapgaaGreat
