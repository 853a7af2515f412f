/- Merged out of: Ub Uc Sn Tn Ud Va Vb Vc Vd Ve. -/
import Derived.Test.YteembinfgbapgaaGreatE00
import Derived.Test.YteembinfgbapgaaGreatE11
import Derived.Shelf.SlGeneric
import Derived.Shelf.SlIter.Nil
import Derived.Shelf.SortM.Plain
import Derived.Shelf.SortM.SortNone
import Derived.Ground.GgzProg
import Derived.Ground.SlgmProg
import Derived.Test.YteembinfgbapgaaGreatProg
import Derived.Test.YteembinfgbapgaaGreatE10
import Derived.Sort.Walk0
set_option linter.unusedSimpArgs false
set_option linter.unusedVariables false
set_option maxRecDepth 100000
set_option maxHeartbeats 8000000
namespace Go.Proofs.YteembinfgbapgaaGreat
section
open Go.RowKit Go.Lib Go.Maps
theorem xq {l:List Fd} {b:EN} (hc:dL l b=true) {k:Nat} {f:Fd} (hf:l[k]?=some f):aM (fR b l f.s).k (fR b l f.s).b (fR b l f.s).t f.k f.l=true/\0<=(fR b l f.s).b/\(fR b l f.s).b<18446744073709551616:=by
 obtain⟨hr,hl,he⟩:=eN.1 hc
 obtain⟨at_,_,e⟩:=iz hr hf hl
 have he1:=he f (J7 hf)
 unfold fc at he1
 rw[e] at he1
 unfold fR
 rw[e]
 simp only at he1 |-
 have hd:fZ ((b.drop at_).take f.n) f.k f.l=true:=by
  unfold dq at he1
  split at he1
  ·assumption
  ·exact absurd he1 (by decide)
 rw[gu,Xz hd]
 unfold fZ at hd
 rw[Qz] at hd
 exact⟨hd.2,kU _ _ _⟩
theorem oh {l:List Fd} {b:EN} (hc:dL l b=true):xT l (iE l b):=by
 intro k f v hf hv
 rw[iE,Kv,hf] at hv
 obtain rfl:=Jj hv
 exact xq hc hf
theorem AR {l:List Fd} {b:EN} (hc:dL l b=true):∀(k:Nat) (f:Fd),l[k]?=some f->fc b l f.s=0/\∀v,(iE l b)[k]?=some v->fR b l f.s=v:=by
 intro k f hf
 refine⟨(eN.1 hc).2.2 f (J7 hf),fun v hv=>?_⟩
 rw[iE,Kv,hf] at hv
 exact Jj hv
theorem yC {t:Tb} (ht:iH t) {b:EN} (hc:dL t.o b=true):dL t.n (gE t (iE t.o b) t.n.length)=true:=by
 have hlen:t.o.length<=(iE t.o b).length:=by simp[iE]
 have hf:=oh hc
 rw[eN]
 refine⟨(ae.1 ht.r).2.1,kj ht.r ht.w hlen hf (J9 _),fun f hm=>?_⟩
 obtain⟨k,hk⟩:=Qv.1 hm
 exact(Af ht.r ht.w hlen hf hk).1
def ua (l:List Fd):List Tb->Prop
 |[]=>True
 |t :: r=>t.o=l/\iH t/\ua t.n r
theorem zF {ts:List Tb} (hok:∀x∈ts,iH x) (hch:∀(i:Nat) (a b:Tb),ts[i]?=some a->ts[i+1]?=some b->b.o=a.n):∀(j k:Nat) (a:Tb),ts.length - k=j->ts[k]?=some a->ua a.n (ts.drop (k+1)):=by
 intro j
 induction j with
 |zero=>intro k a hj ha;have:=(J6.1 ha).1;omega
 |succ j ih=>
  intro k a hj ha
  cases hb:ts[k+1]? with
  |none=>
   rw[List.drop_eq_nil_of_le (by rw[List.getElem?_eq_none_iff] at hb;exact hb)]
   trivial
  |some b=>
   have hlt:=(J6.1 hb).1
   have e:ts.drop (k+1)=b :: ts.drop (k+1+1):=by
    rw[List.drop_eq_getElem_cons hlt]
    congr 1
    exact(J6.1 hb).2
   rw[e]
   exact⟨hch k a b ha hb,hok b (J7 hb),ih (k+1) b (by omega) hb⟩
theorem AQ {ts:List Tb} {i:Nat} {t:Tb} (h:ts[i]?=some t) (b:EN):uP (ts.take (i+1)) b=gE t (iE t.o (uP (ts.take i) b)) t.n.length:=by
 rw[Vv,h]
 simp[uP,List.foldl_append]
theorem ye {l:List Fd} {ts:List Tb} (hc:ua l ts) {b:EN} (hb:dL l b=true):∀i,i<=ts.length->(∀t,ts[i]?=some t->dL t.o (uP (ts.take i) b)=true/\iH t)/\(i=ts.length->∃l',dL l' (uP (ts.take i) b)=true):=by
 induction ts generalizing l b with
 |nil=>intro i hi;obtain rfl:i=0:=by simpa using hi
       exact⟨fun t ht=>by simp at ht,fun _=>⟨l,hb⟩⟩
 |cons t r ih=>
  obtain⟨rfl,hok,hr⟩:=hc
  intro i hi
  cases i with
  |zero=>exact⟨fun x hx=>by simp at hx;subst hx;exact⟨hb,hok⟩,fun h=>by simp at h⟩
  |succ i=>
   have:=ih hr (yC hok hb) i (by simpa using hi)
   exact⟨fun x hx=>this.1 x (by simpa using hx),fun h=>this.2 (by simpa using h)⟩
theorem xk {l:List Fd} {b:EN} (h:dL l b=true):b.length<=4096:=by
 obtain⟨hr,hl,_⟩:=eN.1 h
 rw[hl]
 exact oV l
theorem AW (A:EL) (nb c:Nat) (b:EN) (hb0:b.length=nb) (w:EQ) (hA:Rd w A (aH b)) (hl:nb<=140737488355328):
 Calls Tryz.prog 38 #[.slice A nb c] w fun e w'=>∃B c',e=.returned (.slice B nb c')/\nb<=c'/\Rd w' B (aH b)/\Below w.heap.size w w':=by
 subst hb0
 refine(lh A c b w hA hl).mono ?_
 rintro e w' ⟨v,rfl,own,hb⟩
 obtain⟨B,d,rfl,h1,_,r⟩:=aL own
 exact⟨B,d,rfl,h1,r,hb⟩
theorem uh {W:EQ} {cp mp:Nat} {E:List En} {es:List MapEntry} {clock:Nat} (h:aa 89 80 W cp mp E es clock) {nm:EP} (hn:nm.size<=maxLen) (v:Int) (hbad:bH E nm=none\/∃d,bH E nm=some d/\d.y.Ok/\(v<(d.y.old:Int)\/(d.y.top:Int)<v)) (Ab:EL) (nb cb:Nat):
 Calls Tryz.prog 18 #[.pointer (some ⟨cp,0,none⟩),.string nm,.int .i64 v,.slice Ab nb cb] W fun e w'=>e=.returned (.tuple #[.slice none 0 0,.int .i64 90])/\Below W.heap.size W w':=by
 have hfr:Calls Tryz.prog 34 #[.pointer (some ⟨cp,0,none⟩),.string nm,.int .i64 v] W fun e w'=>e=.returned (.tuple #[.slice none 0 0,.int .i64 90])/\Below W.heap.size W w':=by
  rcases hbad with h1|⟨d,h1,h2,h3⟩
  ·exact pj h hn h1 v
  ·exact tO h hn h1 h2 v h3
 have HFR:=J0 hfr
 clear hbad hfr h
 go_enter Tryz.func18,Tryz.ntmps18
 go_wp2_with (go_at_call 34;refine HFR.out.mono ?_;rintro e w1 ⟨rfl,HB⟩)
 refine Xx (v:=.tuple #[.slice none 0 0,.int .i64 90]) (by simp[results,Tryz.results18,go_sem, *];done) rfl ⟨rfl,HB⟩
theorem qX {W:EQ} {cp mp:Nat} {E:List En} {es:List MapEntry} {clock:Nat} (h:aa 89 80 W cp mp E es clock) {nm:EP} (hn:nm.size<=maxLen) {d:En} (hf:bH E nm=some d) (hok:d.y.Ok) (k:Nat) {x:bB} (hx:d.xs[k]?=some x) (v:Int) (hv:v=((d.y.old+k:Nat):Int)) (b:EN) (nb:Nat) (hb0:b.length=nb) (hnb:nb<=9223372036854775807) (Ab:EL) (cb:Nat) (hcb:nb<=cb) (hb:Rd W Ab (aH b)) (hc:dL x.t.n b=false):
 Calls Tryz.prog 18 #[.pointer (some ⟨cp,0,none⟩),.string nm,.int .i64 v,.slice Ab nb cb] W fun e w'=>e=.returned (.tuple #[.slice none 0 0,.int .i64 70])/\Below W.heap.size W w':=by
 subst hv
 have hdE:=(bG hf).1
 have hd:=h.ents d hdE
 obtain⟨g,c,n,ev,hnc,hnl,_,h64,hpos,hrd⟩:=En.open hd hok
 have hkn:k<n:=by rw[<-hnl];exact(J6.1 hx).1
 have hfr:=lE h hn hf hok g c n ev k hkn
 obtain⟨_,t1,_⟩:=Rd.tab hrd hx
 have hxI:=h.tabs d hdE x (J7 hx)
 have hn16:x.t.n.length<=16:=(aQ (ae.1 (hok.ok x.t (by rw[<-hd.tabs];exact Vy.2 ⟨x,J7 hx,rfl⟩)).r).2.1).2
 obtain⟨m,hm⟩:∃m,x.t.n.length=m:=⟨_,rfl⟩
 rw[hm] at t1 hn16
 have hxn:=hxI.n.rd
 have hidx:(0:Int)<((n - k:Nat):Int):=by omega
 have hidx2:0<n - k:=by omega
 have HFR:=J0 hfr;have HM:=J0 hm;have HC:=J0 hc;have HB0:=J0 hb0
 obtain⟨old,ho⟩:∃o:Int,((d.y.old+k:Nat):Int)=o:=⟨_,rfl⟩
 rw[ho] at HFR |-
 obtain⟨j,hj⟩:∃j,n - k=j:=⟨_,rfl⟩
 rw[hj] at HFR hidx hidx2
 clear hfr hf hok hx hd hdE hm ev hnc hnl hrd hxI h ho hj hkn hpos hc hb0
 go_enter Tryz.func18,Tryz.ntmps18
 go_upto_region 4 with (go_at_call 34;refine HFR.out.mono ?_;rintro e w1 ⟨rfl,HB⟩)
 have t1':=aE (B:=0) HB t1
 have hxn':=hxn.below HB
 go_wp2_with (go_at_call 37;refine(wB x.t.n m HM.out (by omega) x.B x.b b nb HB0.out hnb Ab cb hcb _ hxn' (hb.below HB) false HC.out).mono ?_;rintro e w2 ⟨rfl,hb2⟩;replace HB:=HB.trans (hb2.mono HB.size);clear hb2)
 refine Xx (v:=.tuple #[.slice none 0 0,.int .i64 70]) (by simp[results,Tryz.results18,go_sem, *];done) rfl ⟨rfl,HB⟩
theorem sU {W:EQ} {cp mp:Nat} {E:List En} {es:List MapEntry} {clock:Nat} (h:aa 89 80 W cp mp E es clock) {nm:EP} (hn:nm.size<=maxLen) {d:En} (hf:bH E nm=some d) (hok:d.y.Ok) (k:Nat) {x:bB} (hx:d.xs[k]?=some x) (v:Int) (hv:v=((d.y.old+k:Nat):Int)) (b:EN) (nb:Nat) (hb0:b.length=nb) (Ab:EL) (cb:Nat) (hcb:nb<=cb) (hb:Rd W Ab (aH b)) (hc:dL x.t.n b=true) (r:EN) (hr:uP (d.y.ts.drop (k+1)) b=r) (z:Nat) (hz:r.length=z):
 Calls Tryz.prog 18 #[.pointer (some ⟨cp,0,none⟩),.string nm,.int .i64 v,.slice Ab nb cb] W fun e w'=>∃B c',e=.returned (.tuple #[.slice B z c',.int .i64 0])/\z<=c'/\Rd w' B (aH r)/\Below W.heap.size W w':=by
 subst hv
 have hdE:=(bG hf).1
 have hd:=h.ents d hdE
 obtain⟨g,c,n,ev,hnc,hnl,_,h64,hpos,hrd⟩:=En.open hd hok
 have hkn:k<n:=by rw[<-hnl];exact(J6.1 hx).1
 have hfr:=lE h hn hf hok g c n ev k hkn
 obtain⟨_,t1,_⟩:=Rd.tab hrd hx
 have hxI:=h.tabs d hdE x (J7 hx)
 have hn16:x.t.n.length<=16:=(aQ (ae.1 (hok.ok x.t (by rw[<-hd.tabs];exact Vy.2 ⟨x,J7 hx,rfl⟩)).r).2.1).2
 obtain⟨m,hm⟩:∃m,x.t.n.length=m:=⟨_,rfl⟩
 rw[hm] at t1 hn16
 have hxn:=hxI.n.rd
 have hidx:(0:Int)<((n - k:Nat):Int):=by omega
 have hidx2:0<n - k:=by omega
 have hnb:nb<=4096:=by rw[<-hb0];exact xk hc
 have hxy:d.y.ts[k]?=some x.t:=by rw[<-hd.tabs,Kv,hx];rfl
 have hch:=zF hok.ok hok.ch _ k x.t rfl hxy
 have hlen:d.y.ts.length=n:=by rw[<-hd.tabs,Kz];exact hnl
 have hup:=ye hch hc
 have htab:∀W',Below W.heap.size W W'->∀(i:Nat) (t:Tb),(d.y.ts.drop (k+1))[i]?=some t->∃X:bB,X.t=t/\W'.cell? ⟨g,(k+1+i) * 3,none⟩=some (.slice X.A t.o.length X.a)/\W'.cell? ⟨g,(k+1+i) * 3+1,none⟩=some (.slice X.B t.n.length X.b)/\W'.cell? ⟨g,(k+1+i) * 3+2,none⟩=some (.slice X.C t.m.length X.c)/\Rd W' X.A (aC t.o)/\Rd W' X.B (aC t.n)/\Rd W' X.C (aJ t.m):=fun W' hB i t hi=>by
  rw[List.getElem?_drop,<-hd.tabs,Kv] at hi
  cases hX:d.xs[k+1+i]? with
  |none=>rw[hX] at hi;cases hi
  |some X=>
   rw[hX] at hi
   obtain rfl:=Jj hi
   obtain⟨q0,q1,q2⟩:=Rd.tab (hrd.below hB) hX
   have hI:=(h.tabs d hdE X (J7 hX))
   exact⟨X,rfl,q0,q1,q2,hI.o.rd.below hB,hI.n.rd.below hB,hI.m.rd.below hB⟩
 obtain⟨ts,hts⟩:∃ts,d.y.ts.drop (k+1)=ts:=⟨_,rfl⟩
 rw[hts] at hr hup htab
 have htl:ts.length=n - k - 1:=by rw[<-hts,List.length_drop,hlen];omega
 have HFR:=J0 hfr;have HM:=J0 hm;have HC:=J0 hc;have HB0:=J0 hb0;have HUP:=J0 hup;have HTAB:=J0 htab;have HR:=J0 hr;have HZ:=J0 hz
 obtain⟨old,ho⟩:∃o:Int,((d.y.old+k:Nat):Int)=o:=⟨_,rfl⟩
 rw[ho] at HFR |-
 obtain⟨j,hj⟩:∃j,n - k=j+1:=⟨n - k - 1,by omega⟩
 have htj:ts.length=j:=by omega
 have HTL:=J0 htj
 rw[hj] at HFR hidx hidx2
 have hj64:j<=64:=by omega
 clear hfr hf hok hx hd hdE hm ev hnc hnl hrd hxI h ho hj hkn hpos hc hb0 hup htab hr hz hch hlen hxy hts htl htj
 go_enter Tryz.func18,Tryz.ntmps18
 go_upto_region 4 with (go_at_call 34;refine HFR.out.mono ?_;rintro e w1 ⟨rfl,HB⟩)
 have t1':=aE (B:=0) HB t1
 have hxn':=hxn.below HB
 have hb1:=hb.below HB
 go_upto_region 7 with (first
  |(go_at_call 37;refine(wB x.t.n m HM.out (by omega) x.B x.b b nb HB0.out (by omega) Ab cb hcb _ hxn' hb1 true HC.out).mono ?_;rintro e w2 ⟨rfl,hb2⟩;replace HB:=HB.trans (hb2.mono HB.size);replace hb1:=hb1.below hb2;clear hb2)
  |(go_at_call 38;refine(AW Ab nb cb b HB0.out _ hb1 (by omega)).mono ?_;rintro e w3 ⟨B,cB,rfl,hcB,hrB,hb3⟩;replace HB:=HB.trans (hb3.mono HB.size);clear hb3))
 have HBs:=HB
 clear HB t1' hxn' hb1
 cases j with
 |zero=>
  have hr0:r=b:=by
   have h1:=HTL.out
   have h2:=HR.out
   rw[List.eq_nil_of_length_eq_zero h1] at h2
   exact h2.symm
  subst hr0
  have hzz:nb=z:=HB0.out.symm.trans HZ.out
  subst hzz
  clear HTAB HUP
  go_upto_region 8 with fail
  go_loopw [3,11,13,36] (fun vb ve _ vi wr=>vb=.slice B nb cB/\ve=.int .i64 0/\vi=.int .i64 0/\wr=w3) (fun _ _ _ _ _=>0)
  case atStart=>exact⟨rfl,rfl,rfl,rfl⟩
  case round=>
   obtain⟨rfl,rfl,rfl,rfl⟩:=hrel
   go_wp2
   refine Xx (v:=.tuple #[.slice B nb cB,.int .i64 0]) (by simp[results,Tryz.results18,go_sem, *];done) rfl ⟨B,cB,rfl,hcB,hrB,HBs⟩
 |succ j=>
  have q1:¬(j+1+1=1):=by omega
  have q2:1<=j+1+1:=by omega
  go_upto_region 8 with fail
  obtain⟨J,hJ⟩:∃J,j+1=J:=⟨_,rfl⟩
  have hJ2:((j:Int)+1)=(J:Int):=by omega
  have hJ3:j+1+1=J+1:=by omega
  obtain⟨ad,had⟩:∃ad:Addr,ad=⟨g,k * 3+3,none⟩:=⟨_,rfl⟩
  rw[<-had,hJ3,hJ2,hJ]
  rw[hJ] at HTL
  have hJ64:J<=64:=by omega
  have htab2:∀W',Below W.heap.size W W'->∀(i:Nat) (t:Tb),ts[i]?=some t->∃X:bB,X.t=t/\W'.cell? (ad.add (i * 3))=some (.slice X.A t.o.length X.a)/\W'.cell? ⟨(ad.add (i * 3)).block,(ad.add (i * 3)).off+(0+1),none⟩=some (.slice X.B t.n.length X.b)/\W'.cell? ⟨(ad.add (i * 3)).block,(ad.add (i * 3)).off+(1+1),none⟩=some (.slice X.C t.m.length X.c)/\Rd W' X.A (aC t.o)/\Rd W' X.B (aC t.n)/\Rd W' X.C (aJ t.m):=fun W' hB i t hi=>by
   obtain⟨X,e,q0,q1,q2,r⟩:=HTAB.out W' hB i t hi
   have ha:ad.add (i * 3)=⟨g,(k+1+i) * 3,none⟩:=by rw[had,Addr.add_lit];congr 1;omega
   rw[ha]
   exact⟨X,e,q0,q1,q2,r⟩
  have HT2:=J0 htab2
  clear htab2 HTAB q1 q2 hJ hJ2 hJ3 had hj64
  go_loopw [3,11,13,36] (fun vb ve _ vi wr=>∃(i:Nat) (B:EL) (z0 c0:Nat) (cur:EN),i<=J/\vi=.int .i64 i/\vb=.slice B z0 c0/\ve=.int .i64 0/\Hid (uP (ts.take i) b=cur)/\Hid (cur.length=z0)/\z0<=c0/\Rd wr B (aH cur)/\Below W.heap.size W wr) (fun _ _ _ vi _=>J - (intOf vi).toNat)
  case atStart=>exact⟨0,B,nb,cB,b,X6 _,rfl,rfl,rfl,J0 rfl,HB0,hcB,hrB,HBs⟩
  case round=>
   obtain⟨i,B2,z0,c0,cur,hi,rfl,rfl,rfl,hcur,hz0,hc0,hrB2,HB⟩:=hrel
   clear HBs hrB hcB
   by_cases hlt:i<J
   ·obtain⟨t,ht⟩:∃t,ts[i]?=some t:=⟨_,J4 (by rw[HTL.out];exact hlt)⟩
    obtain⟨hck,htok⟩:=(HUP.out i (by rw[HTL.out];omega)).1 t ht
    rw[hcur.out] at hck
    obtain⟨X,hXt,d0,d1,d2,r0,r1,r2⟩:=HT2.out wr HB i t ht
    obtain⟨no,hno⟩:∃y,t.o.length=y:=⟨_,rfl⟩
    obtain⟨nn,hnn⟩:∃y,t.n.length=y:=⟨_,rfl⟩
    obtain⟨nm',hnm⟩:∃y,t.m.length=y:=⟨_,rfl⟩
    obtain⟨z1,hz1⟩:∃y,bP t.n=y:=⟨_,rfl⟩
    rw[hno] at d0;rw[hnn] at d1;rw[hnm] at d2
    have hnx:=AQ ht b
    rw[hcur.out,hnn] at hnx
    have hln:=kj htok.r htok.w (vs:=iE t.o cur) (by simp[iE]) (oh hck) (k:=t.n.length) (J9 _)
    rw[hnn,hz1] at hln
    have HNX:=J0 hnx;have HLN:=J0 hln;have HNO:=J0 hno;have HNN:=J0 hnn;have HNM:=J0 hnm;have HZ1:=J0 hz1;have HCK:=J0 hck;have HTO:=J0 htok
    have nb1:=aA (w:=wr) (.cells #[.slice X.A no X.a,.slice X.B nn X.b,.slice X.C nm' X.c] 96)
    have P:=aD.new wr [.slice X.A no X.a,.slice X.B nn X.b,.slice X.C nm' X.c] 96
    have hB1:=HB.trans (nb1.mono HB.size)
    have r0':=r0.below nb1
    have r1':=r1.below nb1
    have r2':=r2.below nb1
    have rB':=hrB2.below nb1
    clear ht hXt hno hnn hnm hz1 hnx hln hck htok r0 r1 r2 hrB2
    go_upto_region 10 with fail
    generalize wr.alloc (.cells #[.slice X.A no X.a,.slice X.B nn X.b,.slice X.C nm' X.c] 96)=W5 at *
    obtain⟨p0,p1,p2,_,_,_⟩:=P.f3
    clear d0 d1 d2
    go_wp2_with (go_at_call 39;refine(AM t X.A X.B X.C X.a X.b X.c no nn nm' HNO.out HNN.out HNM.out HTO.out.r HTO.out.w (iE t.o cur) (by rw[<-HNO.out];simp[iE]) (oh HCK.out) cur z0 hz0.out ((eN.1 HCK.out).2.1.symm.trans hz0.out) (AR HCK.out) B2 c0 hc0 z1 HZ1.out _ r0' r1' r2' rB').mono ?_;rintro e w6 ⟨B3,c3,rfl,hc3,r3,hb3⟩;replace hB1:=hB1.trans (hb3.mono hB1.size))
    go_roundw
    case rel=>exact⟨i+1,B3,z1,c3,_,by omega,by go_num,rfl,rfl,HNX,HLN,hc3,r3,hB1⟩
    case measure=>simp[intOf];omega
   ·obtain rfl:i=J:=by omega
    have hrc:r=cur:=by
     rw[<-hcur.out,Vx (by rw[HTL.out];exact J9 _)]
     exact HR.out.symm
    subst hrc
    have hzz:z0=z:=hz0.out.symm.trans HZ.out
    subst hzz
    clear HUP HT2
    go_wp2
    refine Xx (v:=.tuple #[.slice B2 z0 c0,.int .i64 0]) (by simp[results,Tryz.results18,go_sem, *];done) rfl ⟨B2,c0,rfl,hc0,hrB2,HB⟩
def vu (D:List Ty) (nm:EP):Int:=match ak D nm with|none=>90|some _=>0
def vv (D:List Ty) (nm:EP):Nat:=match ak D nm with|none=>0|some t=>t.old
def vw (D:List Ty) (nm:EP):Nat:=match ak D nm with|none=>0|some t=>t.top
def oZ (t:Ty) (v:Int):Option Tb:=if v<(t.old:Int) then none else t.ts[(v - t.old).toNat]?
def ct (D:List Ty) (nm:EP) (v:Int):Option Tb:=(ak D nm).bind fun t=>oZ t v
def pG (D:List Ty) (nm:EP) (v:Int):Int:=match ct D nm v with|none=>90|some _=>0
def fldL (D:List Ty) (nm:EP) (v:Int):List Fd:=match ct D nm v with|none=>[]|some x=>x.n
def pR (D:List Ty) (nm:EP) (v:Int) (b:EN):Int:=match ct D nm v with|none=>90|some x=>if dL x.n b=true then 0 else 70
def yd (D:List Ty) (nm:EP) (v:Int) (b:EN):EN:=if pR D nm v b=0 then(match ak D nm with|none=>[]|some t=>uP (t.ts.drop ((v - t.old).toNat+1)) b) else[]
theorem oa {t:Ty} (ht:t.Ok) {v:Int}:oZ t v=none↔v<(t.old:Int)\/(t.top:Int)<v:=by
 have hlen:0<t.ts.length:=by cases hx:t.ts with|nil=>exact absurd hx ht.ne|cons a r=>simp
 have h2:t.top=t.old+t.ts.length - 1:=rfl
 unfold oZ
 split
 ·simp;omega
 ·rw[List.getElem?_eq_none_iff]
  omega
theorem kL {t:Ty} {v:Int} {x:Tb} (h:oZ t v=some x):∃k:Nat,v=((t.old+k:Nat):Int)/\t.ts[k]?=some x/\(v - t.old).toNat=k:=by
 unfold oZ at h
 split at h
 ·cases h
 ·exact⟨(v - t.old).toNat,by omega,h,rfl⟩
theorem kV {E:List En} {nm:EP} {t:Ty} (h:ak (E.map (·.y)) nm=some t):∃d,bH E nm=some d/\d.y=t:=by
 rw[<-jR] at h
 cases hf:bH E nm with
 |none=>rw[hf] at h;cases h
 |some d=>rw[hf] at h;exact⟨d,rfl,Jj h⟩
theorem ph {E:List En} {nm:EP} (h:ak (E.map (·.y)) nm=none):bH E nm=none:=by
 rw[<-jR] at h
 cases hf:bH E nm with
 |none=>rfl
 |some d=>rw[hf] at h;cases h
theorem nA {W:EQ} {cp mp:Nat} {E:List En} {es:List MapEntry} {clock:Nat} (h:aa 89 80 W cp mp E es clock) {nm:EP} (hn:nm.size<=maxLen) (hok:Wq (E.map (·.y))) (D:List Ty) (hD:E.map (·.y)=D) (o t:Nat) (q:Int) (ho:vv D nm=o) (ht:vw D nm=t) (hq:vu D nm=q):
 Calls Tryz.prog 15 #[.pointer (some ⟨cp,0,none⟩),.string nm] W fun e w'=>e=.returned (.tuple #[.int .i64 (o:Nat),.int .i64 (t:Nat),.int .i64 q])/\Below W.heap.size W w':=by
 subst hD
 cases hf:ak (E.map (·.y)) nm with
 |none=>
  rw[vv,hf] at ho;rw[vw,hf] at ht;rw[vu,hf] at hq
  subst ho ht hq
  exact pB h hn (ph hf)
 |some y=>
  rw[vv,hf] at ho;rw[vw,hf] at ht;rw[vu,hf] at hq
  subst hq
  obtain⟨d,hd,hy⟩:=kV hf
  subst hy
  exact pC h hn hd (hok.ok _ (bQ hf).1) o t ho ht
theorem qM {E:List En} (hok:Wq (E.map (·.y))) {nm:EP} {v:Int} (h:ct (E.map (·.y)) nm v=none):bH E nm=none\/∃d,bH E nm=some d/\d.y.Ok/\(v<(d.y.old:Int)\/(d.y.top:Int)<v):=by
 cases hf:ak (E.map (·.y)) nm with
 |none=>exact .inl (ph hf)
 |some y=>
  obtain⟨d,hd,rfl⟩:=kV hf
  have ho:=hok.ok _ (bQ hf).1
  rw[ct,hf] at h
  exact .inr ⟨d,hd,ho,(oa ho).1 h⟩
theorem ol {ST CT:ES} {W:EQ} {cp mp:Nat} {E:List En} {es:List MapEntry} {clock:Nat} (hc:aa ST CT W cp mp E es clock) (hok:Wq (E.map (·.y))) {nm:EP} {v:Int} {x:Tb} (h:ct (E.map (·.y)) nm v=some x):∃d,bH E nm=some d/\d.y.Ok/\ak (E.map (·.y)) nm=some d.y/\∃(k:Nat) (X:bB),d.xs[k]?=some X/\X.t=x/\v=((d.y.old+k:Nat):Int)/\(v - d.y.old).toNat=k:=by
 cases hf:ak (E.map (·.y)) nm with
 |none=>rw[ct,hf] at h;cases h
 |some y=>
  obtain⟨d,hd,rfl⟩:=kV hf
  have ho:=hok.ok _ (bQ hf).1
  rw[ct,hf] at h
  obtain⟨k,hv,hk,hkk⟩:=kL h
  have hI:=hc.ents d (bG hd).1
  rw[<-hI.tabs,Kv] at hk
  cases hX:d.xs[k]? with
  |none=>rw[hX] at hk;cases hk
  |some X=>
   rw[hX] at hk
   exact⟨d,hd,ho,rfl,k,X,hX,Jj hk,hv,hkk⟩
theorem yq {W:EQ} {cp mp:Nat} {E:List En} {es:List MapEntry} {clock:Nat} (h:aa 89 80 W cp mp E es clock) {nm:EP} (hn:nm.size<=maxLen) (hok:Wq (E.map (·.y))) (D:List Ty) (hD:E.map (·.y)=D) (v:Int) (q:Int) (hq:pG D nm v=q) (l:List Fd) (hl:fldL D nm v=l) (m:Nat) (hm:l.length=m):
 Calls Tryz.prog 16 #[.pointer (some ⟨cp,0,none⟩),.string nm,.int .i64 v] W fun e w'=>∃B b,e=.returned (.tuple #[.slice B m b,.int .i64 q])/\m<=b/\au (fun g=>W.heap.size<=g) w' B (aC l)/\Below W.heap.size W w':=by
 subst hD
 cases hf:ct (E.map (·.y)) nm v with
 |none=>
  rw[pG,hf] at hq;rw[fldL,hf] at hl
  subst hq hl hm
  refine(xR h hn v (qM hok hf)).mono ?_
  rintro e w' ⟨rfl,hb⟩
  exact⟨none,0,rfl,J9 _,fun hne=>absurd rfl hne,hb⟩
 |some x=>
  rw[pG,hf] at hq;rw[fldL,hf] at hl
  dsimp only at hq hl
  subst hq hl
  obtain⟨d,hd,ho,hfy,k,X,hX,rfl,hv,_⟩:=ol h hok hf
  have hI:=h.ents d (bG hd).1
  have h16:X.t.n.length<=16:=(aQ (ae.1 (ho.ok X.t (by rw[<-hI.tabs];exact Vy.2 ⟨X,J7 hX,rfl⟩)).r).2.1).2
  exact ud h hn hd ho k hX m hm (by omega) v hv
theorem xe {W:EQ} {cp mp:Nat} {E:List En} {es:List MapEntry} {clock:Nat} (h:aa 89 80 W cp mp E es clock) {nm:EP} (hn:nm.size<=maxLen) (hok:Wq (E.map (·.y))) (D:List Ty) (hD:E.map (·.y)=D) (v:Int) (b:EN) (nb:Nat) (hb0:b.length=nb) (hnb:nb<=9223372036854775807) (Ab:EL) (cb:Nat) (hcb:nb<=cb) (hb:Rd W Ab (aH b)) (q:Int) (hq:pR D nm v b=q) (r:EN) (hr:yd D nm v b=r) (z:Nat) (hz:r.length=z):
 Calls Tryz.prog 18 #[.pointer (some ⟨cp,0,none⟩),.string nm,.int .i64 v,.slice Ab nb cb] W fun e w'=>∃B c',e=.returned (.tuple #[.slice B z c',.int .i64 q])/\z<=c'/\Rd w' B (aH r)/\Below W.heap.size W w':=by
 subst hD
 cases hf:ct (E.map (·.y)) nm v with
 |none=>
  have e1:pR (E.map (·.y)) nm v b=90:=by rw[pR,hf]
  rw[yd,Xy (by rw[e1];decide)] at hr
  rw[e1] at hq
  subst hq hr hz
  refine(uh h hn v (qM hok hf) Ab nb cb).mono ?_
  rintro e w' ⟨rfl,hb⟩
  exact⟨none,0,rfl,J9 _,Rd.nil _ _,hb⟩
 |some x=>
  obtain⟨d,hd,ho,hfy,k,X,hX,rfl,hv,hk⟩:=ol h hok hf
  cases hc:dL X.t.n b with
  |false=>
   have e1:pR (E.map (·.y)) nm v b=70:=by rw[pR,hf];simp only;rw[Xy (by rw[hc];decide)]
   rw[yd,Xy (by rw[e1];decide)] at hr
   rw[e1] at hq
   subst hq hr hz
   refine(qX h hn hd ho k hX v hv b nb hb0 hnb Ab cb hcb hb hc).mono ?_
   rintro e w' ⟨rfl,hb⟩
   exact⟨none,0,rfl,J9 _,Rd.nil _ _,hb⟩
  |true=>
   have e1:pR (E.map (·.y)) nm v b=0:=by rw[pR,hf];simp only;rw[Xz hc]
   rw[yd,Xz e1,hfy] at hr
   simp only[hk] at hr
   rw[e1] at hq
   subst hq
   exact sU h hn hd ho k hX v hv b nb hb0 Ab cb hcb hb hc r hr z hz
end
end Go.Proofs.YteembinfgbapgaaGreat
namespace Go.Proofs
open Go.Shelf
def Tryz.keys32_ren:Go.Shelf.Ren:=⟨fun|7=>32|10=>66|n=>n,fun|23=>78|26=>9|3=>86|28=>84|0=>0|27=>83|33=>120|4=>4|n=>n,fun|n=>n⟩
theorem Tryz.keys32:Go.Proofs.SlLaysZ.n7 Tryz.prog Tryz.keys32_ren:={
 mixed:=by kernel_rfl
 f7:=⟨Tryz.f32.name,by decide,Tryz.func32.trans (congrArg some (by kernel_rfl))⟩
 f10:=⟨Tryz.f66.name,by decide,Tryz.func66.trans (congrArg some (by kernel_rfl))⟩
 t0:=Tryz.underlying0
 a0:=Tryz.isAgg0
 z0:=Tryz.sizeOf0
 v0:=Tryz.zeroValue0
 t4:=Tryz.underlying4
 a4:=Tryz.isAgg4
 z4:=Tryz.sizeOf4
 v4:=Tryz.zeroValue4
 t23:=Tryz.underlying78
 a23:=Tryz.isAgg78
 z23:=Tryz.sizeOf78
 v23:=Tryz.zeroValue78
 t26:=Tryz.underlying9
 a26:=Tryz.isAgg9
 z26:=Tryz.sizeOf9
 v26:=Tryz.zeroValue9
 t27:=Tryz.underlying83
 a27:=Tryz.isAgg83
 z27:=Tryz.sizeOf83
 v27:=Tryz.zeroValue83
 t28:=Tryz.underlying84
 a28:=Tryz.isAgg84
 z28:=Tryz.sizeOf84
 v28:=Tryz.zeroValue84
 t33:=Tryz.underlying120
 a33:=Tryz.isAgg120
 z33:=Tryz.sizeOf120
 v33:=Tryz.zeroValue120 }
def Tryz.sorted31_ren:Go.Shelf.Ren:=⟨fun|6=>31|8=>64|9=>65|11=>99|13=>101|12=>100|23=>151|24=>152|14=>142|15=>143|16=>144|17=>145|18=>146|19=>147|20=>148|21=>149|22=>150|25=>166|26=>167|27=>168|28=>169|29=>170|30=>171|31=>176|n=>n,fun|26=>9|28=>84|24=>35|0=>0|3=>3|37=>180|48=>218|50=>69|4=>4|40=>210|39=>209|45=>215|5=>5|9=>9|51=>231|55=>235|57=>238|58=>239|33=>120|n=>n,fun|n=>n⟩
theorem Tryz.sorted31:Go.Proofs.SlLaysZ.n6 Tryz.prog Tryz.sorted31_ren:={
 mixed:=by kernel_rfl
 f6:=⟨Tryz.f31.name,by decide,Tryz.func31.trans (congrArg some (by kernel_rfl))⟩
 f8:=⟨Tryz.f64.name,by decide,Tryz.func64.trans (congrArg some (by kernel_rfl))⟩
 f11:=⟨Tryz.f99.name,by decide,Tryz.func99.trans (congrArg some (by kernel_rfl))⟩
 t0:=Tryz.underlying0
 a0:=Tryz.isAgg0
 z0:=Tryz.sizeOf0
 v0:=Tryz.zeroValue0
 t24:=Tryz.underlying35
 a24:=Tryz.isAgg35
 z24:=Tryz.sizeOf35
 v24:=Tryz.zeroValue35
 t26:=Tryz.underlying9
 a26:=Tryz.isAgg9
 z26:=Tryz.sizeOf9
 v26:=Tryz.zeroValue9
 t28:=Tryz.underlying84
 a28:=Tryz.isAgg84
 z28:=Tryz.sizeOf84
 v28:=Tryz.zeroValue84
 i26:=by kernel_rfl }
def Tryz.sort65_ren:Go.Shelf.Ren:=⟨fun|6=>65|8=>101|9=>100|19=>151|20=>152|21=>142|22=>143|23=>144|24=>145|25=>146|26=>147|27=>148|28=>149|29=>150|36=>166|31=>167|32=>168|37=>169|38=>170|39=>171|41=>176|n=>n,fun|27=>35|29=>9|3=>3|32=>180|26=>35|0=>0|44=>218|46=>69|4=>4|36=>210|35=>209|41=>215|5=>5|9=>9|53=>231|57=>235|63=>238|64=>239|n=>n,fun|n=>n⟩
theorem Tryz.sort65:Go.Proofs.SlLaysM.n6 Tryz.prog Tryz.sort65_ren:={
 mixed:=by kernel_rfl
 f6:=⟨Tryz.f65.name,by decide,Tryz.func65.trans (congrArg some (by kernel_rfl))⟩
 f8:=Tryz.func101.trans (congrArg some (by kernel_rfl))
 f9:=⟨Tryz.f100.name,by decide,Tryz.func100.trans (congrArg some (by kernel_rfl))⟩
 f19:=Tryz.func151.trans (congrArg some (by kernel_rfl))
 f20:=Tryz.func152.trans (congrArg some (by kernel_rfl))
 f21:=⟨Tryz.f142.name,by decide,Tryz.func142.trans (congrArg some (by kernel_rfl))⟩
 f22:=⟨Tryz.f143.name,by decide,Tryz.func143.trans (congrArg some (by kernel_rfl))⟩
 f23:=⟨Tryz.f144.name,by decide,Tryz.func144.trans (congrArg some (by kernel_rfl))⟩
 f24:=⟨Tryz.f145.name,by decide,Tryz.func145.trans (congrArg some (by kernel_rfl))⟩
 f25:=⟨Tryz.f146.name,by decide,Tryz.func146.trans (congrArg some (by kernel_rfl))⟩
 f26:=⟨Tryz.f147.name,by decide,Tryz.func147.trans (congrArg some (by kernel_rfl))⟩
 f27:=⟨Tryz.f148.name,by decide,Tryz.func148.trans (congrArg some (by kernel_rfl))⟩
 f28:=⟨Tryz.f149.name,by decide,Tryz.func149.trans (congrArg some (by kernel_rfl))⟩
 f29:=⟨Tryz.f150.name,by decide,Tryz.func150.trans (congrArg some (by kernel_rfl))⟩
 f31:=Tryz.func167.trans (congrArg some (by kernel_rfl))
 f32:=Tryz.func168.trans (congrArg some (by kernel_rfl))
 f36:=⟨Tryz.f166.name,by decide,Tryz.func166.trans (congrArg some (by kernel_rfl))⟩
 f37:=⟨Tryz.f169.name,by decide,Tryz.func169.trans (congrArg some (by kernel_rfl))⟩
 f38:=⟨Tryz.f170.name,by decide,Tryz.func170.trans (congrArg some (by kernel_rfl))⟩
 f39:=⟨Tryz.f171.name,by decide,Tryz.func171.trans (congrArg some (by kernel_rfl))⟩
 f41:=⟨Tryz.f176.name,by decide,Tryz.func176.trans (congrArg some (by kernel_rfl))⟩
 t0:=Tryz.underlying0
 a0:=Tryz.isAgg0
 z0:=Tryz.sizeOf0
 v0:=Tryz.zeroValue0
 t3:=Tryz.underlying3
 a3:=Tryz.isAgg3
 z3:=Tryz.sizeOf3
 v3:=Tryz.zeroValue3
 t4:=Tryz.underlying4
 a4:=Tryz.isAgg4
 z4:=Tryz.sizeOf4
 v4:=Tryz.zeroValue4
 t5:=Tryz.underlying5
 a5:=Tryz.isAgg5
 z5:=Tryz.sizeOf5
 v5:=Tryz.zeroValue5
 t9:=Tryz.underlying9
 a9:=Tryz.isAgg9
 z9:=Tryz.sizeOf9
 v9:=Tryz.zeroValue9
 t26:=Tryz.underlying35
 a26:=Tryz.isAgg35
 z26:=Tryz.sizeOf35
 v26:=Tryz.zeroValue35
 t27:=Tryz.underlying35
 a27:=Tryz.isAgg35
 z27:=Tryz.sizeOf35
 v27:=Tryz.zeroValue35
 t29:=Tryz.underlying9
 a29:=Tryz.isAgg9
 z29:=Tryz.sizeOf9
 v29:=Tryz.zeroValue9
 t32:=Tryz.underlying180
 a32:=Tryz.isAgg180
 z32:=Tryz.sizeOf180
 v32:=Tryz.zeroValue180
 t35:=Tryz.underlying209
 a35:=Tryz.isAgg209
 z35:=Tryz.sizeOf209
 v35:=Tryz.zeroValue209
 t36:=Tryz.underlying210
 a36:=Tryz.isAgg210
 z36:=Tryz.sizeOf210
 v36:=Tryz.zeroValue210
 t41:=Tryz.underlying215
 a41:=Tryz.isAgg215
 z41:=Tryz.sizeOf215
 v41:=Tryz.zeroValue215
 t44:=Tryz.underlying218
 a44:=Tryz.isAgg218
 z44:=Tryz.sizeOf218
 v44:=Tryz.zeroValue218
 t46:=Tryz.underlying69
 a46:=Tryz.isAgg69
 z46:=Tryz.sizeOf69
 v46:=Tryz.zeroValue69
 t53:=Tryz.underlying231
 a53:=Tryz.isAgg231
 z53:=Tryz.sizeOf231
 v53:=Tryz.zeroValue231
 t57:=Tryz.underlying235
 a57:=Tryz.isAgg235
 z57:=Tryz.sizeOf235
 v57:=Tryz.zeroValue235
 t63:=Tryz.underlying238
 a63:=Tryz.isAgg238
 z63:=Tryz.sizeOf238
 v63:=Tryz.zeroValue238
 t64:=Tryz.underlying239
 a64:=Tryz.isAgg239
 z64:=Tryz.sizeOf239
 v64:=Tryz.zeroValue239 }
section
open Go.RowKit Go.Maps Go.Sort Go.Shelf
theorem Tryz.sorts31 (m:Nat):AnyZ.SortsIn Tryz.prog Tryz.sorted31_ren Fence.wide m:=
 ⟨fun blk off cap ss W hH hblk hsz=>callsIn_wide.2 (AnyM.slices_Sort_string Tryz.sort65 blk off cap ss W hH hblk hsz),
  fun p cap W=>callsIn_wide.2 (AnyM.slices_Sort_string_none Tryz.sort65 p cap W)⟩
theorem Tryz.maps_Keys_32 (mb:Option Nat) (W:World):CallsIn Fence.wide 5 Tryz.prog 32 #[.map mb] W fun e w'=>e=.returned (.func (.func 66) #[] #[.pointer (some ⟨W.heap.size,0,none⟩)])/\w'=W.alloc (.cells #[.map mb] 78):=
 AnyZ.keys_in Tryz.keys32 Fence.wide 5 trivial rfl mb W
theorem Tryz.slices_Sorted_keys_31_32 {H:Type} (b nn:Nat) (D0:DataW H) (R:Value->Option (DataW H×List MemPlace)) (w:World) (hown:w.ownsMap Tryz.prog 9 R b nn D0) (hmax:Maps.size D0<=maxLen) (hbytes:Maps.size D0 * 16<=140737488355328):
 CallsIn Fence.wide 5 Tryz.prog 31 #[.func (.func 66) #[] #[.pointer (some ⟨w.heap.size,0,none⟩)]] (w.alloc (.cells #[.map (some b)] 78)) fun e w'=>∃(v:Value) (ss:List (List UInt8)),e=.returned v/\ss.Perm (strKeys D0)/\
  w'.ownsRow (w.alloc (.cells #[.map (some b)] 78)).heap.size 9 1 v ss.length ((ss.mergeSort (fun x y=>decide (x<=y))).map encStr)/\(v=.slice none 0 0↔ss=[])/\Below (w.alloc (.cells #[.map (some b)] 78)).heap.size (w.alloc (.cells #[.map (some b)] 78)) w':=by
 have hbl:=hown.lt
 have hseq:SeqGives Fence.wide 2 Tryz.prog 66 #[.pointer (some ⟨w.heap.size,0,none⟩)] encStr (fun ss=>ss.Perm (strKeys D0)) (Maps.size D0) (w.alloc (.cells #[.map (some b)] 78)):=
  AnyZ.keys_gives (ρ:=Tryz.keys32_ren) { Tryz.keys32 with } Fence.wide _ trivial rfl (by omega) w.heap.size b nn D0 _ (by simp) (by simp) (by
   obtain⟨es,clock,hb,Ft,hs,hD⟩:=hown
   exact⟨es,clock,(Below.heap_alloc _ _ b hbl).trans hb,Ft,hs,hD⟩)
 exact AnyZ.sorted_in Tryz.sorted31 Fence.wide 5 trivial trivial trivial trivial rfl (by omega) (Tryz.sorts31 _) (enters_of Tryz.func65 (by kernel_rfl) rfl) 66 #[.pointer (some ⟨w.heap.size,0,none⟩)] trivial (enters_of Tryz.func66 (by kernel_rfl) rfl) _ _ hmax hbytes _ hseq
end
end Go.Proofs
namespace Go.Proofs.YteembinfgbapgaaGreat
section
open Go.RowKit Go.Lib Go.Maps Go.WideElems Go.MapKept Go.Sort
def iS (_:ER):Option (DataW Unit×List MemPlace):=some (.nil,[])
theorem BH {P:Program} {k:ES} (hk:P.underlying k=some .string) {s:EP} (h:s.size<=maxLen):keyOf P k (.string s)=some (.string s.data.toList):=by
 simp[keyOf,hk,mapKey,h]
theorem AC {P:Program} {k:ES} (hk:P.underlying k=some .string) {x:MapEntry} {s:EP} (hx:x.key=.string s) (h:s.size<=maxLen):Go.WideElems.rd P k iS x=some (.string s.data.toList,.nil):=by
 unfold Go.WideElems.rd
 rw[hx,BH hk h]
 rfl
theorem aa.ownsMap {ST CT:ES} {W:EQ} {cp mp:Nat} {E:List En} {es:List MapEntry} {clock:Nat} (h:aa ST CT W cp mp E es clock) {P:Program} {k:ES} (hk:P.underlying k=some .string) (hlen:E.length<=1000):
 ∃D0:DataW Unit,W.ownsMap P k iS mp es.length D0/\(strKeys D0).Perm (E.map fun d=>d.y.s.data.toList)/\Maps.size D0=E.length:=by
 have hel:es.length=E.length:=by have:=congrArg List.length h.prs;rw[iZ,Kz] at this;exact this
 have hkeys:es.map (·.key)=E.map fun d=>Value.string d.y.s:=by
  have:=congrArg (List.map Prod.fst) h.prs
  rw[Go.Proofs.YteembinfgbapgaaGreat.prs,List.map_map,List.map_map] at this
  exact this
 have hread:∀x∈es,∃d∈E,Go.WideElems.rd P k iS x=some (.string d.y.s.data.toList,.nil):=fun x hx=>by
  obtain⟨i,hi⟩:=Qv.1 hx
  obtain⟨d,hd,e1,_⟩:=cd h.prs hi
  exact⟨d,J7 hd,AC hk e1 (h.small d (J7 hd))⟩
 have hrg:es.map (rg P k iS)=E.map fun d=>((.string d.y.s.data.toList,.nil):Lit×DataW Unit):=by
  apply Xk
  intro n
  rw[Kv,Kv]
  cases hx:es[n]? with
  |none=>
   have:E[n]?=none:=by rw[List.getElem?_eq_none_iff] at hx |-;omega
   rw[this];rfl
  |some x=>
   obtain⟨d,hd,e1,_⟩:=cd h.prs hx
   rw[hd]
   show some (rg P k iS x)=some _
   rw[rg_of (AC hk e1 (h.small d (J7 hd)))]
 refine⟨.map ((es.toArray.toList.map (rg P k iS)).foldr DataW.insert []),⟨es.toArray,clock,h.map,⟨by simp[maxLen];omega,⟨by simpa using h.b1,by simpa using h.b2,?_⟩,?_⟩,by simp,rfl⟩,?_,?_⟩
 ·show(es.map (·.key)).Nodup
  rw[hkeys]
  have h1:=h.names
  rw[List.nodup_iff_pairwise_ne,List.pairwise_map] at h1 |-
  exact h1.imp (fun hne e=>hne (by injection e))
 ·intro x hx
  obtain⟨d,_,e⟩:=hread x (by simpa using hx)
  exact⟨_,e⟩
 ·show(List.map (fun p=>strOf p.1) ((es.map (rg P k iS)).foldr DataW.insert [])).Perm _
  refine((Go.WideShapes.sorted_perm _).map _).trans ?_
  rw[hrg,List.map_map]
  exact List.Perm.of_eq rfl
 ·show((es.map (rg P k iS)).foldr DataW.insert []).length=_
  rw[(Go.WideShapes.sorted_perm _).length_eq,Kz,hel]
def ge (l:List EP):EO:=l.map Value.string
end
section
open Go.RowKit Go.Lib Go.Maps
structure AS (w W:EQ) (mp:Nat) (E:List En):Prop where
 b:Below w.heap.size w W
 u:∀g,g<w.heap.size->cU E mp g
theorem AS.next {w W W':EQ} {cp mp:Nat} {E E':List En} (h:AS w W mp E) (hf:bR cp mp E E' W W'):AS w W' mp E':=by
 have hz:=h.b.size
 exact⟨⟨hf.os.trans h.b.os,hf.tape.trans h.b.tape,hf.output.trans h.b.output,Q7 hz hf.size,fun g hg=>(hf.block g (by omega) (h.u g hg)).trans (h.b.block g hg)⟩,fun g hg=>hf.new g (by omega) (h.u g hg)⟩
theorem AS.below {w W W':EQ} {mp:Nat} {E:List En} (h:AS w W mp E) (hb:Below W.heap.size W W'):AS w W' mp E:=⟨h.b.trans (hb.mono h.b.size),h.u⟩
def mY (w:EQ) (cp mp:Nat) (D:List Ty) (W:EQ):Prop:=∃E es clock,E.map (·.y)=D/\aa 89 80 W cp mp E es clock/\AS w W mp E/\Wq D
def Kp (W W':EQ):Prop:=∀A cs,Rd W A cs->gO cs->Rd W' A cs
theorem Kp.of {W W':EQ} (h:Below W.heap.size W W'):Kp W W':=fun _ _ hA _=>hA.below h
theorem Kp.trans {W W' W'':EQ} (h:Kp W W') (h':Kp W' W''):Kp W W'':=fun A cs hA hs=>h' A cs (h A cs hA hs) hs
theorem mY.below {w W W':EQ} {cp mp:Nat} {D:List Ty} (h:mY w cp mp D W) (hb:Below W.heap.size W W'):mY w cp mp D W':=by
 obtain⟨E,es,k,h1,h2,h3,h4⟩:=h
 exact⟨E,es,k,h1,h2.below hb,h3.below hb,h4⟩
theorem mY.b {w W:EQ} {cp mp:Nat} {D:List Ty} (h:mY w cp mp D W):Below w.heap.size w W:=by
 obtain⟨E,es,k,h1,h2,h3,h4⟩:=h
 exact h3.b
theorem mY.to {w W W':EQ} {cp mp:Nat} {E:List En} {es:List MapEntry} {clock:Nat} {D:List Ty} (hc:aa 89 80 W cp mp E es clock) (hl:AS w W mp E) (hk:Wq D) (h:gK cp mp E W D W'):mY w cp mp D W'/\Kp W W':=by
 obtain⟨E',es',k',h1,h2,h3⟩:=h
 exact⟨⟨E',es',k',h1,h2,hl.next h3,hk⟩,fun A cs hA hs=>h3.solid hc hA hs⟩
theorem CE (w W:EQ) (hb:Below w.heap.size w W):Calls Tryz.prog 12 #[] W fun e w'=>∃cp mp,e=.returned (.pointer (some ⟨cp,0,none⟩))/\mY w cp mp [] w'/\Below W.heap.size W w':=by
 refine(wG W).mono ?_
 rintro e w' ⟨rfl,hc,hb2⟩
 have hz:=hb.size
 exact⟨_,_,rfl,⟨[],[],0,rfl,hc,⟨hb.trans (hb2.mono hz),fun g hg=>⟨by omega,fun d hd=>by cases hd⟩⟩,Wq.nil⟩,hb2⟩
theorem yo {w W:EQ} {cp mp:Nat} {D:List Ty} (h:mY w cp mp D W) {nm:EP} (hn:nm.size<=maxLen) (A:EL) (cA m:Nat) (fs:List Fd) (hm:fs.length=m) (hl:m<=9223372036854775807) (hcA:m<=cA) (hA:Rd W A (aC fs)) (hs:mU fs) (q:Int) (hq:fj D nm fs=q) (D':List Ty) (hD:pF D nm fs=D'):
 Calls Tryz.prog 28 #[.pointer (some ⟨cp,0,none⟩),.string nm,.slice A m cA] W fun e w'=>e=.returned (.int .i64 q)/\mY w cp mp D' w'/\Kp W w':=by
 obtain⟨E,es,k,rfl,h2,h3,h4⟩:=h
 refine(sG h2 hn A cA m fs hm hl hcA hA q hq D' hD).mono ?_
 rintro e w' ⟨rfl,hc⟩
 exact⟨rfl,mY.to h2 h3 (by rw[<-hD];exact h4.def hs) hc⟩
theorem Wq.ch {D:List Ty} (h:Wq D) (nm:EP) {cs:List Ch} (hc:∀c∈cs,c.g.s.size<=281474976710656/\0<=c.d.b/\c.d.b<18446744073709551616):Wq (uT D nm cs):=by
 have:=h.do (o:=⟨1,nm,[],cs,[]⟩) ⟨(fun f hf=>by cases hf),hc⟩
 simpa[wQ] using this
theorem Wq.re {D:List Ty} (h:Wq D) (nm:EP) (q:List Int):Wq (rp D nm q):=by
 have:=h.do (o:=⟨2,nm,[],[],q⟩) ⟨(fun f hf=>by cases hf),(fun c hc=>by cases hc)⟩
 simpa[wQ] using this
theorem ym {w W:EQ} {cp mp:Nat} {D:List Ty} (h:mY w cp mp D W) {nm:EP} (hn:nm.size<=maxLen) (K:EL) (cK nc:Nat) (cs:List (Ch×ER)) (hnc:cs.length=nc) (hk:nc<=9223372036854775807) (hw:∀p∈cs,wA p) (hK:Rd W K (bV cs)) (ho:∀p∈cs,ou W p) (q:Int) (hq:mA D nm (cs.map (·.1))=q) (v:Nat) (hv:xj D nm (cs.map (·.1))=v) (D':List Ty) (hD:uT D nm (cs.map (·.1))=D'):
 Calls Tryz.prog 29 #[.pointer (some ⟨cp,0,none⟩),.string nm,.slice K nc cK] W fun e w'=>e=.returned (.tuple #[.int .i64 (v:Nat),.int .i64 q])/\mY w cp mp D' w'/\Kp W w':=by
 obtain⟨E,es,k,rfl,h2,h3,h4⟩:=h
 refine(rz h2 hn K cK nc cs hnc hk hw hK ho h4 q hq v hv D' hD).mono ?_
 rintro e w' ⟨rfl,hc⟩
 have hcc:∀c∈cs.map (·.1),c.g.s.size<=281474976710656/\0<=c.d.b/\c.d.b<18446744073709551616:=fun c hc=>by
  obtain⟨p,hp,rfl⟩:=Vy.1 hc
  exact⟨(hw p hp).2.2.2,(hw p hp).2.1⟩
 exact⟨rfl,mY.to h2 h3 (by rw[<-hD];exact h4.ch nm hcc) hc⟩
theorem sO {w W:EQ} {cp mp:Nat} {D:List Ty} (h:mY w cp mp D W) {nm:EP} (hn:nm.size<=maxLen) (L:EL) (cL nl:Nat) (q:List Int) (hnl:q.length=nl) (hl:nl<=9223372036854775807) (hL:Rd W L (aV q)) (qe:Int) (hqe:mN D nm q=qe) (v:Nat) (hv:wn D nm q=v) (D':List Ty) (hD:rp D nm q=D'):
 Calls Tryz.prog 20 #[.pointer (some ⟨cp,0,none⟩),.string nm,.slice L nl cL] W fun e w'=>e=.returned (.tuple #[.int .i64 (v:Nat),.int .i64 qe])/\mY w cp mp D' w'/\Kp W w':=by
 obtain⟨E,es,k,rfl,h2,h3,h4⟩:=h
 refine(sP h2 hn L cL nl q hnl hl hL h4 qe hqe v hv D' hD).mono ?_
 rintro e w' ⟨rfl,hc⟩
 exact⟨rfl,mY.to h2 h3 (by rw[<-hD];exact h4.re nm q) hc⟩
theorem Ep {W:EQ} {x:lA} (hG:x.G W) (hS:x.S):DN x.z:=by
 refine⟨fun f hf=>hS.fs f hf,fun c hc=>?_⟩
 obtain⟨p,hp,rfl⟩:=Vy.1 hc
 exact⟨(hS.cs p hp).2.1,(hG.cg p hp).2.1⟩
theorem ui {w W:EQ} {cp mp:Nat} {D:List Ty} (h:mY w cp mp D W) {nm:EP} (hn:nm.size<=maxLen) (o t:Nat) (q:Int) (ho:vv D nm=o) (ht:vw D nm=t) (hq:vu D nm=q):
 Calls Tryz.prog 15 #[.pointer (some ⟨cp,0,none⟩),.string nm] W fun e w'=>e=.returned (.tuple #[.int .i64 (o:Nat),.int .i64 (t:Nat),.int .i64 q])/\Below W.heap.size W w':=by
 obtain⟨E,es,k,rfl,h2,h3,h4⟩:=h
 exact nA h2 hn h4 _ rfl o t q ho ht hq
theorem xd {w W:EQ} {cp mp:Nat} {D:List Ty} (h:mY w cp mp D W) {nm:EP} (hn:nm.size<=maxLen) (v:Int) (b:EN) (nb:Nat) (hb0:b.length=nb) (hnb:nb<=9223372036854775807) (Ab:EL) (cb:Nat) (hcb:nb<=cb) (hb:Rd W Ab (aH b)) (q:Int) (hq:pR D nm v b=q) (r:EN) (hr:yd D nm v b=r) (z:Nat) (hz:r.length=z):
 Calls Tryz.prog 18 #[.pointer (some ⟨cp,0,none⟩),.string nm,.int .i64 v,.slice Ab nb cb] W fun e w'=>∃B c',e=.returned (.tuple #[.slice B z c',.int .i64 q])/\z<=c'/\Rd w' B (aH r)/\Below W.heap.size W w':=by
 obtain⟨E,es,k,rfl,h2,h3,h4⟩:=h
 exact xe h2 hn h4 _ rfl v b nb hb0 hnb Ab cb hcb hb q hq r hr z hz
def tY:EP:=⟨#[97]⟩
def DI:List Fd:=[⟨⟨#[120]⟩,1,0⟩]
def CG:Ch:=⟨4,⟨#[120]⟩,⟨⟨#[]⟩,2,0⟩,⟨0,0,⟨#[]⟩⟩,[]⟩
def DA:List Ty:=pF [] tY DI
def DB:List Ty:=uT DA tY [CG]
def DC:List Ty:=rp DB tY []
def bX:EN:=[255,0,0,0,0,0,0,0]
theorem EA:fj [] tY DI=0:=by decide +kernel
theorem EB:mA DA tY [CG]=0:=by decide +kernel
theorem EC:xj DA tY [CG]=2:=by decide +kernel
theorem ED:pR DB tY 1 bX=0:=by decide +kernel
theorem EE:yd DB tY 1 bX=bX:=by decide +kernel
theorem Ey:mN DB tY [1]=93:=by decide +kernel
theorem EG:wn DB tY [1]=0:=by decide +kernel
theorem EH:rp DB tY [1]=DB:=by rw[rp,Xy (by rw[Ey];decide)]
theorem EI:mN DB tY []=0:=by decide +kernel
theorem Ej:wn DB tY []=1:=by decide +kernel
theorem Ek:vv DC tY=2:=by decide +kernel
theorem El:vw DC tY=2:=by decide +kernel
theorem Em:vu DC tY=0:=by decide +kernel
theorem jU:tY.size<=maxLen:=by decide
theorem fh (w:EQ):Calls Tryz.prog 11 #[] w fun e w'=>e=.returned (.bool true)/\Below w.heap.size w w':=by
 go_enter Tryz.func11,Tryz.ntmps11
 go_upto_region 4 with (go_at_call 12;refine(CE w _ (Jy _ _)).mono ?_;rintro e w1 ⟨cp,mp,rfl,S1,hb1⟩)
 have R1:Rd (w1.alloc (.cells #[.string ⟨#[120]⟩,.int .i64 1,.int .i64 0] 68)) (some ⟨w1.heap.size,0,none⟩) (aC DI):=gh w1 (aC DI) 68
 go_upto_region 5 with (go_at_call 28;refine(yo (S1.below (aA _)) jU _ 1 1 DI rfl (by omega) (by omega) R1 (fun f hf=>by simp[DI] at hf;subst hf;decide) 0 EA DA rfl).mono ?_;rintro e w2 ⟨rfl,S2,K2⟩)
 have R2:Rd (w2.alloc (.cells #[.int .i64 4,.string ⟨#[120]⟩,.string ⟨#[]⟩,.int .i64 2,.int .i64 0,.int .i64 0,.int .u64 0,.string ⟨#[]⟩,.slice none 0 0] 76)) (some ⟨w2.heap.size,0,none⟩) (bV [(CG,.slice none 0 0)]):=gh w2 (pX CG (.slice none 0 0)) 76
 have cw:∀p∈[(CG,Value.slice none 0 0)],wA p:=fun p hp=>by simp at hp;subst hp;exact⟨⟨by decide,by decide⟩,⟨by decide,by decide⟩,by decide,by decide⟩
 have co:∀W,∀p∈[(CG,Value.slice none 0 0)],ou W p:=fun W p hp=>by simp at hp;subst hp;exact⟨none,0,rfl,by decide,by decide,Rd.nil _ _⟩
 clear R1
 go_upto_region 6 with (go_at_call 29;refine(ym (S2.below (aA _)) jU _ 1 1 [(CG,.slice none 0 0)] rfl (by omega) cw R2 (co _) 0 EB 2 EC DB rfl).mono ?_;rintro e w3 ⟨rfl,S3,K3⟩)
 have R3:Rd (w3.alloc (.cells #[.int .u8 255,.int .u8 0,.int .u8 0,.int .u8 0,.int .u8 0,.int .u8 0,.int .u8 0,.int .u8 0] 5)) (some ⟨w3.heap.size,0,none⟩) (aH bX):=gh w3 (aH bX) 5
 clear R2 cw co
 go_upto_region 7 with (go_at_call 18;refine(xd (S3.below (aA _)) jU 1 bX 8 rfl (by omega) _ 8 (J9 _) R3 0 ED bX EE 8 rfl).mono ?_;rintro e w4 ⟨B,cB,rfl,hcB,R4,hb4⟩;have S4:=(S3.below (aA _)).below hb4)
 have R5:Rd (w4.alloc (.cells #[.int .i64 1] 3)) (some ⟨w4.heap.size,0,none⟩) (aV [1]):=gh w4 (aV [1]) 3
 clear R3 hb4
 go_upto_region 8 with (go_at_call 20;refine(sO (S4.below (aA _)) jU _ 1 1 [1] rfl (by omega) R5 93 Ey 0 EG DB EH).mono ?_;rintro e w5 ⟨rfl,S5,K5⟩;replace R4:=K5 _ _ (R4.below (aA _)) (.inr (.inr ⟨_,_,_,_,_,rfl⟩)))
 clear R5
 go_upto_region 9 with (go_at_call 20;refine(sO S5 jU none 0 0 [] rfl (by omega) (Rd.nil _ _) 0 EI 1 Ej DC rfl).mono ?_;rintro e w6 ⟨rfl,S6,K6⟩;replace R4:=K6 _ _ R4 (.inr (.inr ⟨_,_,_,_,_,rfl⟩)))
 go_upto_region 10 with (go_at_call 15;refine(ui S6 jU 2 2 0 Ek El Em).mono ?_;rintro e w7 ⟨rfl,hb7⟩;replace R4:=R4.below hb7)
 have hcv:(convert 44 9 (.slice B 8 cB)).run Tryz.prog w7=.ok (.string (aR bX)) w7:=jQ R4 8 cB rfl
 have hse:((aR bX).toList == [255,0,0,0,0,0,0,0])=true:=by decide +kernel
 go_wp2
 go_ret
 exact⟨rfl,(S6.below hb7).b⟩
def dD (a b:EP):Bool:=Op.bytesLess a.toList b.toList
theorem jE {a b:EP}:dD a b=true↔a.data.toList<b.data.toList:=by
 rw[dD,bytesLess_eq,Go.ByteArray.toList_eq,Go.ByteArray.toList_eq,Y8]
theorem nq {a b:EP}:dD a b=false↔b.data.toList<=a.data.toList:=by
 rw[<-List.not_lt,<-jE,Bool.not_eq_true]
theorem kF {a b c:EP} (h:dD a b=true) (h2:dD b c=true):dD a c=true:=jE.2 (List.lt_trans (jE.1 h) (jE.1 h2))
theorem mI (a:EP):dD a a=false:=by
 cases h:dD a a with
 |false=>rfl
 |true=>exact absurd (jE.1 h) (List.lt_irrefl _)
theorem wh {a b:EP} (h:dD a b=false) (h2:dD b a=false):a=b:=by
 have:=List.le_antisymm (nq.1 h2) (nq.1 h)
 cases a;cases b
 simp at this
 rw[this]
def bU (L:List Ty):Prop:=L.Pairwise fun a b=>dD a.s b.s=true
def fS {α:Type} (key:α->EP) (x:α):List α->List α
 |[]=>[x]
 |y :: r=>if dD (key x) (key y)=true then x :: y :: r else y :: fS key x r
def jd (L:List Ty) (t:Ty):List Ty:=fS (·.s) t L
theorem dC {α:Type} (key:α->EP) (x:α) (l:List α):(fS key x l).Perm (x :: l):=by
 induction l with
 |nil=>exact List.Perm.refl _
 |cons y r ih=>
  unfold fS
  split
  ·exact List.Perm.refl _
  ·exact(ih.cons y).trans (List.Perm.swap x y r)
theorem zd {L:List Ty} {t u:Ty} (h:u∈jd L t):u=t\/u∈L:=by
 have:=(dC (fun x:Ty=>x.s) t L).subset h
 simpa using this
theorem mE {L:List Ty} (h:bU L) {t:Ty} (hn:∀u∈L,u.s≠t.s):bU (jd L t):=by
 induction L with
 |nil=>exact List.pairwise_singleton _ _
 |cons y r ih=>
  obtain⟨h1,h2⟩:=List.pairwise_cons.1 h
  unfold jd fS
  split
  ·rename_i hlt
   refine List.pairwise_cons.2 ⟨fun u hu=>?_,h⟩
   rcases List.mem_cons.1 hu with rfl|hu
   ·exact hlt
   ·exact kF hlt (h1 u hu)
  ·rename_i hlt
   have hyt:dD y.s t.s=true:=by
    cases hx:dD y.s t.s with
    |true=>rfl
    |false=>exact absurd (wh hx (by simpa using hlt)) (hn y List.mem_cons_self)
   refine List.pairwise_cons.2 ⟨fun u hu=>?_,ih h2 (fun u hu=>hn u (List.mem_cons_of_mem _ hu))⟩
   rcases zd hu with rfl|hu
   ·exact hyt
   ·exact h1 u hu
theorem tP {α β:Type} (f:α->β) (key:β->EP) (x:α) (l:List α):(fS (fun a=>key (f a)) x l).map f=fS key (f x) (l.map f):=by
 induction l with
 |nil=>rfl
 |cons y r ih=>
  simp only[fS,List.map_cons]
  split
  ·rfl
  ·rw[List.map_cons,ih]
theorem bU.put {L:List Ty} (h:bU L) (y:Ty):bU (ik L y):=by
 have h1:(L.map (·.s)).Pairwise fun a b=>dD a b=true:=List.pairwise_map.2 h
 rw[<-oG L y] at h1
 exact List.pairwise_map.1 h1
theorem rX {L:List Ty} (h:bU L) {ns:List EP} (hn:ns.Pairwise fun a b=>dD b a=false) (hp:ns.Perm (L.map (·.s))):ns=L.map (·.s):=by
 refine List.Perm.eq_of_pairwise (le:=fun a b=>dD b a=false) (fun a b _ _ h1 h2=>wh h2 h1) hn ?_ hp
 refine List.pairwise_map.2 (h.imp fun {a b} hab=>?_)
 cases hx:dD b.s a.s with
 |false=>rfl
 |true=>have:=kF hab hx;rw[mI] at this;cases this
def it (L:List Ty) (nm:EP):Int:=match L.findIdx? (fun t=>decide (t.s=nm)) with
 |some i=>i
 |none=>-1
theorem jS {L:List Ty} {nm:EP} {t:Ty} (h:ak L nm=some t):∃i:Nat,it L nm=i/\L[i]?=some t:=by
 unfold ak at h
 obtain⟨i,hi,ht⟩:∃i,L.findIdx? (fun t=>decide (t.s=nm))=some i/\L[i]?=some t:=by
  induction L with
  |nil=>cases h
  |cons a r ih=>
   rw[List.find?_cons] at h
   rw[List.findIdx?_cons]
   split at h
   ·rename_i ha
    exact⟨0,by rw[Xz ha],by simpa using h⟩
   ·rename_i ha
    obtain⟨i,h1,h2⟩:=ih h
    exact⟨i+1,by rw[Xy (by rw[ha];decide),h1];rfl,by simpa using h2⟩
 exact⟨i,by rw[it,hi],ht⟩
theorem fH {L:List Ty} {nm:EP} (h:ak L nm=none):it L nm=-1:=by
 have:L.findIdx? (fun t=>decide (t.s=nm))=none:=by
  rw[List.findIdx?_eq_none_iff]
  intro x hx
  simpa using df h x hx
 rw[it,this]
theorem Bv {L:List Ty} {nm:EP} {i:Nat} {t:Ty} (ht:L[i]?=some t) (hs:t.s=nm) (hb:∀(j:Nat) (u:Ty),j<i->L[j]?=some u->u.s≠nm):it L nm=i:=by
 have hil:=(J6.1 ht).1
 have:L.findIdx? (fun t=>decide (t.s=nm))=some i:=by
  rw[List.findIdx?_eq_some_iff_getElem]
  refine⟨hil,?_,fun j hj=>?_⟩
  ·rw[(J6.1 ht).2];simp[hs]
  ·have:=hb j _ hj (J4 (by omega))
   simpa using this
 rw[it,this]
structure FV where
 l:List Fd
 A:EL
 a:Nat
def bJ (xs:List FV):EO:=xs.map fun x=>.slice x.A x.l.length x.a
structure bk where
 y:Ty
 F:EL
 f:Nat
 T:EL
 t:Nat
 fv:List FV
 tv:List bB
def bk.cells (x:bk):EO:=[.string x.y.s,.int .i64 (x.y.old:Nat),.slice x.F x.fv.length x.f,.slice x.T x.tv.length x.t]
def ac (xs:List bk):EO:=xs.flatMap bk.cells
def bB.Rds (W:EQ) (v:bB):Prop:=Rd W v.A (aC v.t.o)/\Rd W v.B (aC v.t.n)/\Rd W v.C (aJ v.t.m)
structure bk.Is (Q:Nat->Prop) (W:EQ) (x:bk):Prop where
 rF:au Q W x.F (bJ x.fv)
 rT:au Q W x.T (ah x.tv)
 fl:∀v∈x.fv,Rd W v.A (aC v.l)
 tb:∀v∈x.tv,v.Rds W
 eF:x.fv.map (·.l)=x.y.ts.map (·.n)
 eT:x.tv.map (·.t)=x.y.ts.tail
 cF:x.fv.length<=x.f
 cT:x.tv=[]->x.T=none/\x.t=0
theorem bB.Rds.below {W W':EQ} {v:bB} (h:v.Rds W) (hb:Below W.heap.size W W'):v.Rds W':=⟨h.1.below hb,h.2.1.below hb,h.2.2.below hb⟩
theorem bk.Is.below {Q:Nat->Prop} {W W':EQ} {x:bk} (h:x.Is Q W) (hb:Below W.heap.size W W'):x.Is Q W':=⟨h.rF.up hb,h.rT.up hb,fun v hv=>(h.fl v hv).below hb,fun v hv=>(h.tb v hv).below hb,h.eF,h.eT,h.cF,h.cT⟩
theorem bk.Is.mono {Q Q':Nat->Prop} {W:EQ} {x:bk} (h:x.Is Q W) (hq:∀g,Q g->Q' g):x.Is Q' W:=⟨h.rF.mono hq,h.rT.mono hq,h.fl,h.tb,h.eF,h.eT,h.cF,h.cT⟩
theorem bk.Is.cat {ST CT:ES} {W W':EQ} {cp mp:Nat} {E E':List En} {es:List MapEntry} {clock:Nat} (hc:aa ST CT W cp mp E es clock) (hf:bR cp mp E E' W W') {x:bk} (h:x.Is (cU E mp) W):x.Is (cU E' mp) W':=
 ⟨hf.rdP h.rF,hf.rdP h.rT,fun v hv=>hf.solid hc (h.fl v hv) (gO.flds _),fun v hv=>⟨hf.solid hc (h.tb v hv).1 (gO.flds _),hf.solid hc (h.tb v hv).2.1 (gO.flds _),hf.solid hc (h.tb v hv).2.2 (gO.moves _)⟩,h.eF,h.eT,h.cF,h.cT⟩
structure bZ (Q:Nat->Prop) (W:EQ) (A:EL) (c:Nat) (X:List bk):Prop where
 row:Rd W A (ac X)
 ty:∀x∈X,x.Is Q W
 cap:X.length<=c
 non:X=[]->A=none/\c=0
theorem bZ.below {Q:Nat->Prop} {W W':EQ} {A:EL} {c:Nat} {X:List bk} (h:bZ Q W A c X) (hb:Below W.heap.size W W'):bZ Q W' A c X:=⟨h.row.below hb,fun x hx=>(h.ty x hx).below hb,h.cap,h.non⟩
theorem bZ.mono {Q Q':Nat->Prop} {W:EQ} {A:EL} {c:Nat} {X:List bk} (h:bZ Q W A c X) (hq:∀g,Q g->Q' g):bZ Q' W A c X:=⟨h.row,fun x hx=>(h.ty x hx).mono hq,h.cap,h.non⟩
theorem gO.types (X:List bk):gO (ac X):=by
 cases X with
 |nil=>exact .inl rfl
 |cons f r=>exact .inr (.inl ⟨f.y.s,_,rfl⟩)
theorem bZ.cat {ST CT:ES} {W W':EQ} {cp mp:Nat} {E E':List En} {es:List MapEntry} {clock:Nat} (hc:aa ST CT W cp mp E es clock) (hf:bR cp mp E E' W W') {A:EL} {c:Nat} {X:List bk} (h:bZ (cU E mp) W A c X):bZ (cU E' mp) W' A c X:=
 ⟨hf.solid hc h.row (gO.types X),fun x hx=>(h.ty x hx).cat hc hf,h.cap,h.non⟩
theorem nJ (xs:List bk):(ac xs).length=4 * xs.length:=by
 induction xs with
 |nil=>rfl
 |cons x r ih=>simp[ac,bk.cells] at ih |-;omega
theorem Rd.ty {w:EQ} {A:EL} {X:List bk} (h:Rd w A (ac X)) {j:Nat} {x:bk} (hx:X[j]?=some x):∃ad,A=some ad/\w.cell? (ad.add (j * 4))=some (.string x.y.s)/\w.cell? ⟨(ad.add (j * 4)).block,(ad.add (j * 4)).off+(0+1),none⟩=some (.int .i64 (x.y.old:Nat))/\w.cell? ⟨(ad.add (j * 4)).block,(ad.add (j * 4)).off+(1+1),none⟩=some (.slice x.F x.fv.length x.f)/\
 w.cell? ⟨(ad.add (j * 4)).block,(ad.add (j * 4)).off+(2+1),none⟩=some (.slice x.T x.tv.length x.t):=by
 have hg:=fun r (hr:r<4)=>iq (F:=bk.cells) (k:=4) (fun _=>rfl) hx r hr
 obtain⟨ad,e,hc⟩:=h (by intro e;have:=hg 0 (by omega);unfold ac at e;rw[e] at this;simp[bk.cells] at this)
 have h0:=hc (j * 4) _ (hg 0 (by omega))
 have h1:=hc (j * 4+1) _ (hg 1 (by omega))
 have h2:=hc (j * 4+2) _ (hg 2 (by omega))
 have h3:=hc (j * 4+3) _ (hg 3 (by omega))
 rw[ba _ _ 0] at h1
 rw[ba _ _ 1] at h2
 rw[ba _ _ 2] at h3
 exact⟨ad,e,h0,h1,h2,h3⟩
theorem aD.f4 {w:EQ} {b:Nat} {x0 x1 x2 x3:ER} {T:ES} (h:aD w b [x0,x1,x2,x3] T):w.cell? ⟨b,0,none⟩=some x0/\w.cell? ⟨b,1,none⟩=some x1/\w.cell? ⟨b,2,none⟩=some x2/\w.cell? ⟨b,3,none⟩=some x3:=⟨h.cell rfl,h.cell rfl,h.cell rfl,h.cell rfl⟩
theorem bk.Is.len {Q:Nat->Prop} {W:EQ} {x:bk} (h:x.Is Q W):x.fv.length=x.y.ts.length/\x.tv.length=x.y.ts.length - 1:=by
 have h1:=congrArg List.length h.eF
 have h2:=congrArg List.length h.eT
 rw[Kz,Kz] at h1
 rw[Kz,List.length_tail] at h2
 exact⟨h1,h2⟩
theorem za:(Tryz.prog.info? 58).map (fun i=>(i.zero,i.size,i.bytes))=some (some (.agg #[.string ⟨#[]⟩,.int .i64 0,.slice none 0 0,.slice none 0 0]),4,72):=by kernel_rfl
theorem cS (A:EL) (c n:Nat) (X:List bk) (hn:X.length=n) (hl:n<=9223372036854775807) (nm:EP) (q:Int) (hq:it (X.map (·.y)) nm=q) (w:EQ) (hA:Rd w A (ac X)):
 Calls Tryz.prog 42 #[.slice A n c,.string nm] w fun e w'=>e=.returned (.int .i64 q)/\Below w.heap.size w w':=by
 have HN:=J0 hn;have HQ:=J0 hq
 clear hn hq
 go_enter Tryz.func42,Tryz.ntmps42
 go_wp2
 go_loopw [5] (fun i wr=>∃k:Nat,k<=n/\i=.int .i64 k/\Below w.heap.size w wr/\Hid (∀(j:Nat) (u:bk),j<k->X[j]?=some u->u.y.s≠nm)) (fun i _=>n - (intOf i).toNat)
 case atStart=>exact⟨0,by omega,rfl,Jy _ _,J0 (fun j u h=>by omega)⟩
 case round=>
  obtain⟨k,hk,rfl,HB,hall⟩:=hrel
  have hAr:=hA.below HB
  by_cases hlt:k<n
  ·obtain⟨x,hx⟩:∃x,X[k]?=some x:=⟨_,J4 (by rw[HN.out];exact hlt)⟩
   obtain⟨ad,rfl,c0,_,_,_⟩:=hAr.ty hx
   have HX:=J0 hx
   have h0:(0:Int)<=(k:Int):=by omega
   have h1:(k:Int)<(n:Int):=by omega
   clear hAr hx
   by_cases he:x.y.s=nm
   ·have ht:(x.y.s.toList == nm.toList)=true:=by rw[fU];exact Yx he
    have hz:q=(k:Int):=by
     rw[<-HQ.out]
     exact Bv (t:=x.y) (by rw[Kv,HX.out];rfl) he (fun j u hj hu=>by
      rw[Kv] at hu
      cases hv:X[j]? with
      |none=>rw[hv] at hu;cases hu
      |some v=>rw[hv] at hu;cases hu;exact hall.out j v hj hv)
    clear he
    go_wp2
    go_ret
    exact⟨by rw[hz];rfl,HB⟩
   ·have ht:(x.y.s.toList == nm.toList)=false:=by rw[fU];exact Y9 he
    have hall2:Hid (∀(j:Nat) (u:bk),j<k+1->X[j]?=some u->u.y.s≠nm):=J0 (fun j u hj hu=>by
     rcases(by omega:j<k\/j=k) with h|rfl
     ·exact hall.out j u h hu
     ·rw[HX.out] at hu;cases hu;exact he)
    clear he hall
    go_wp2
    go_roundw
    case rel=>exact⟨k+1,by omega,by go_num,HB,hall2⟩
    case measure=>simp[intOf];omega
  ·obtain rfl:k=n:=by omega
   have hz:q=-1:=by
    rw[<-HQ.out]
    cases hf:ak (X.map (·.y)) nm with
    |none=>exact fH hf
    |some t=>
     obtain⟨ht,hs⟩:=bQ hf
     obtain⟨u,hu,rfl⟩:=Vy.1 ht
     obtain⟨j,hj⟩:=Qv.1 hu
     have hjl:=(J6.1 hj).1
     exact absurd hs (hall.out j u (by rw[<-HN.out];exact hjl) hj)
   clear hall
   go_wp2
   go_ret
   exact⟨by rw[hz];rfl,HB⟩
theorem dO (s:EP) (old nf:Nat) (F:EL) (f:Nat) (T:EL) (nt t:Nat) (r:Nat) (hr:old+nf=r+1) (hs:r<=1000) (w:EQ):
 Calls Tryz.prog 24 #[.agg #[.string s,.int .i64 (old:Nat),.slice F nf f,.slice T nt t]] w fun e w'=>e=.returned (.int .i64 (r:Nat))/\Below w.heap.size w w':=by
 have hw1:IntKind.i64.wrap ((old:Int)+(nf:Int))=(r:Int)+1:=(Xj _ (by omega)).trans (by omega)
 have hw2:IntKind.i64.wrap (r:Int)=(r:Int):=Xj _ (by omega)
 have nb:=aA (w:=w) (.cells #[.string s,.int .i64 (old:Nat),.slice F nf f,.slice T nt t] 58)
 have P:=aD.new w [.string s,.int .i64 (old:Nat),.slice F nf f,.slice T nt t] 58
 have HR:=J0 hr
 clear hr
 go_enter Tryz.func24,Tryz.ntmps24
 go_upto_region 1 with fail
 generalize w.alloc (.cells #[.string s,.int .i64 (old:Nat),.slice F nf f,.slice T nt t] 58)=W1 at *
 obtain⟨p0,p1,p2,p3⟩:=P.f4
 go_wp2
 go_ret
 exact⟨by rfl,nb⟩
def gJ (X:List bk) (x:bk) (k:Nat):List bk:=if (X.take k).any (fun y=>dD x.y.s y.y.s)=true then fS (·.y.s) x (X.take k) else X.take k
theorem pl {α:Type} (key:α->EP) (x:α) (l:List α) (y:α):fS key x (l++[y])=if l.any (fun z=>dD (key x) (key z))=true then fS key x l++[y] else if dD (key x) (key y)=true then l++[x,y] else l++[y,x]:=by
 induction l with
 |nil=>
  simp only[List.nil_append,fS,List.any_nil,Bool.false_eq_true,if_false]
 |cons z r ih=>
  simp only[List.cons_append,fS,List.any_cons]
  cases hz:dD (key x) (key z) with
  |true=>simp
  |false=>
   simp only[Bool.false_eq_true,if_false,Bool.false_or]
   rw[ih]
   repeat' split <;> simp_all
theorem gn {X:List bk} {k:Nat} {y:bk} (h:X[k]?=some y) (x:bk):(X.take (k+1)).any (fun y=>dD x.y.s y.y.s)=((X.take k).any (fun y=>dD x.y.s y.y.s) || dD x.y.s y.y.s):=by
 rw[Vv,h]
 simp
theorem yF {X:List bk} {k:Nat} {y:bk} (h:X[k]?=some y) {x:bk} (hd:(X.take k).any (fun y=>dD x.y.s y.y.s)=true):gJ X x (k+1)=gJ X x k++[y]:=by
 rw[gJ,gn h,hd,Bool.true_or,Xz rfl,gJ,Xz hd,Vv,h]
 show fS _ x (X.take k++[y])=_
 rw[pl,Xz hd]
theorem Aq {X:List bk} {k:Nat} {y:bk} (h:X[k]?=some y) {x:bk} (hd:(X.take k).any (fun y=>dD x.y.s y.y.s)=false) (hy:dD x.y.s y.y.s=true):gJ X x (k+1)=(gJ X x k++[x])++[y]:=by
 rw[gJ,gn h,hd,Bool.false_or,Xz hy,gJ,Xy (by rw[hd];decide),Vv,h]
 show fS _ x (X.take k++[y])=_
 rw[pl,Xy (by rw[hd];decide),Xz hy]
 simp
theorem vU {X:List bk} {k:Nat} {y:bk} (h:X[k]?=some y) {x:bk} (hd:(X.take k).any (fun y=>dD x.y.s y.y.s)=false) (hy:dD x.y.s y.y.s=false):gJ X x (k+1)=gJ X x k++[y]:=by
 rw[gJ,gn h,hd,Bool.false_or,Xy (by rw[hy];decide),gJ,Xy (by rw[hd];decide),Vv,h]
 rfl
theorem pK {X:List bk} {x:bk} (hd:X.any (fun y=>dD x.y.s y.y.s)=true):gJ X x X.length=fS (·.y.s) x X:=by
 rw[gJ,Vx (J9 _),Xz hd]
theorem xt {X:List bk} {x:bk} (hd:X.any (fun y=>dD x.y.s y.y.s)=false):fS (·.y.s) x X=X++[x]:=by
 induction X with
 |nil=>rfl
 |cons y r ih=>
  simp only[List.any_cons,Bool.or_eq_false_iff] at hd
  rw[fS,Xy (by rw[hd.1];decide),ih hd.2]
  rfl
theorem rI {X:List bk} {x:bk} (hd:X.any (fun y=>dD x.y.s y.y.s)=false):gJ X x X.length++[x]=fS (·.y.s) x X:=by
 rw[gJ,Vx (J9 _),Xy (by rw[hd];decide),xt hd]
theorem eY (l:List bk) (x:bk):ac (l++[x])=ac l++x.cells:=by simp[ac]
theorem AE (A:EL) (c n:Nat) (X:List bk) (hn:X.length=n) (hl:n<=1000) (x:bk) (nf nt:Nat) (hnf:x.fv.length=nf) (hnt:x.tv.length=nt) (w:EQ) (hA:Rd w A (ac X)):
 Calls Tryz.prog 58 #[.slice A n c,.agg #[.string x.y.s,.int .i64 (x.y.old:Nat),.slice x.F nf x.f,.slice x.T nt x.t]] w fun e w'=>∃B d,e=.returned (.slice B (n+1) d)/\n+1<=d/\Rd w' B (ac (fS (·.y.s) x X))/\Below w.heap.size w w':=by
 obtain⟨i0,hi,hz0,hz1,hz2⟩:=info_parts za
 have nb:=aA (w:=w) (.cells #[.string x.y.s,.int .i64 (x.y.old:Nat),.slice x.F nf x.f,.slice x.T nt x.t] 58)
 have P:=aD.new w [.string x.y.s,.int .i64 (x.y.old:Nat),.slice x.F nf x.f,.slice x.T nt x.t] 58
 have hxc:x.cells=[.string x.y.s,.int .i64 (x.y.old:Nat),.slice x.F nf x.f,.slice x.T nt x.t]:=by rw[bk.cells,hnf,hnt]
 have HN:=J0 hn;have HXC:=J0 hxc
 clear hn hnf hnt hxc
 go_enter Tryz.func58,Tryz.ntmps58
 go_upto_region 4 with fail
 have hown0:=ai (w.alloc (.cells #[.string x.y.s,.int .i64 (x.y.old:Nat),.slice x.F nf x.f,.slice x.T nt x.t] 58)) w.heap.size 58 4
 generalize w.alloc (.cells #[.string x.y.s,.int .i64 (x.y.old:Nat),.slice x.F nf x.f,.slice x.T nt x.t] 58)=W1 at *
 have hpb:w.heap.size<W1.heap.size:=P.lt
 have HP:∀W',Below W1.heap.size W1 W'->aD W' w.heap.size [.string x.y.s,.int .i64 (x.y.old:Nat),.slice x.F nf x.f,.slice x.T nt x.t] 58:=fun W' hb=>P.below hb
 have HBw:∀W',Below W1.heap.size W1 W'->Below w.heap.size w W':=fun W' hb=>nb.trans (hb.mono nb.size)
 clear P
 go_loopw [5,6,7] (fun v b i wr=>∃(k z:Nat) (d:Bool),k<=n/\i=.int .i64 k/\b=.bool d/\Hid ((X.take k).any (fun y=>dD x.y.s y.y.s)=d)/\wr.ownsRow W1.heap.size 58 4 v z (ac (gJ X x k))/\z<=k+1/\(d=false->z=k)/\(d=true->z=k+1)/\Below W1.heap.size W1 wr) (fun _ _ i _=>n - (intOf i).toNat)
 case atStart=>exact⟨0,0,false,by omega,rfl,rfl,J0 (by simp),ai _ _ _ _,by omega,(fun _=>rfl),(fun h=>by cases h),Jy _ _⟩
 case round=>
  obtain⟨k,z,d,hk,rfl,rfl,hd,hown,hzk,hz0',hz1',HB⟩:=hrel
  have hAr:=hA.below (HBw _ HB)
  obtain⟨V,vc,rfl,_,_,_⟩:=aL hown
  by_cases hlt:k<n
  ·obtain⟨y,hy⟩:∃y,X[k]?=some y:=⟨_,J4 (by rw[HN.out];exact hlt)⟩
   obtain⟨ad,rfl,c0,c1,c2,c3⟩:=hAr.ty hy
   have HY:=J0 hy
   obtain⟨mf,hmf⟩:∃m,y.fv.length=m:=⟨_,rfl⟩
   obtain⟨mt,hmt⟩:∃m,y.tv.length=m:=⟨_,rfl⟩
   rw[hmf] at c2;rw[hmt] at c3
   have hyc:y.cells=[.string y.y.s,.int .i64 (y.y.old:Nat),.slice y.F mf y.f,.slice y.T mt y.t]:=by rw[bk.cells,hmf,hmt]
   have HMF:=J0 hmf;have HMT:=J0 hmt
   have HYC:=J0 hyc
   have h0:(0:Int)<=(k:Int):=by omega
   have h1:(k:Int)<(n:Int):=by omega
   obtain⟨l,hlt2⟩:∃l,Op.bytesLess x.y.s.toList y.y.s.toList=l:=⟨_,rfl⟩
   have HLT:Hid (dD x.y.s y.y.s=l):=J0 hlt2
   have P:=HP _ HB
   clear hAr hy hmf hmt hyc
   have hcell:∀W',Below wr.heap.size wr W'->W'.cell? ⟨w.heap.size,0,none⟩=some (.string x.y.s)/\W'.cell? (ad.add (k * 4))=some (.string y.y.s):=fun W' hb=>⟨(P.below hb).cell rfl,aE (B:=0) hb c0⟩
   have hcY:∀W',Below W1.heap.size W1 W'->W'.cell? (ad.add (k * 4))=some (.string y.y.s)/\W'.cell? ⟨(ad.add (k * 4)).block,(ad.add (k * 4)).off+(0+1),none⟩=some (.int .i64 (y.y.old:Nat))/\W'.cell? ⟨(ad.add (k * 4)).block,(ad.add (k * 4)).off+(1+1),none⟩=some (.slice y.F mf y.f)/\W'.cell? ⟨(ad.add (k * 4)).block,(ad.add (k * 4)).off+(2+1),none⟩=some (.slice y.T mt y.t):=fun W' hb=>by
    obtain⟨ad',e,q0,q1,q2,q3⟩:=(hA.below (HBw _ hb)).ty HY.out
    cases e
    rw[HMF.out] at q2;rw[HMT.out] at q3
    exact⟨q0,q1,q2,q3⟩
   have hpx:∀W',Below wr.heap.size wr W'->aD W' w.heap.size [.string x.y.s,.int .i64 (x.y.old:Nat),.slice x.F nf x.f,.slice x.T nt x.t] 58:=fun W' hb=>P.below hb
   have hownW:∀W',Below wr.heap.size wr W'->W'.ownsRow W1.heap.size 58 4 (.slice V z vc) z (ac (gJ X x k)):=fun W' hb=>aG hown hb
   clear P c0 c1 c2 c3 hown
   cases d
   ·obtain rfl:k=z:=(hz0' rfl).symm
    clear hz0' hz1'
    go_upto_region 6 with fail
    refine RW.start (fun w'=>Below wr.heap.size wr w') (by kernel_rfl) (by kernel_rfl) (Jy _ _).drew ?_
    repeat (first
     |(refine' RW.val (by rfl) ?_ ?_;rotate_left;(focus (intro w' hS;have HB5:=hS;obtain⟨p0,q0⟩:=hcell _ HB5;clear hS;go_simp;rfl));simp only[Act.put,J1,J3,J2])
     |(refine RW.off (by rfl) ?_;simp only[Act.put,J1,J3,J2]))
    refine RW.done (fun w' hS=>?_)
    have HB5:=hS;obtain⟨p0,q0⟩:=hcell _ HB5;clear hS
    rename EQ=>w5
    have hown:=hownW _ HB5
    have HB6:=HB.trans (HB5.mono HB.size)
    have hz6:=HB6.size
    cases l
    ·have hpre:=vU HY.out hd.out HLT.out
     have HPR:=J0 hpre
     have hdd:Hid ((X.take (k+1)).any (fun y=>dD x.y.s y.y.s)=false):=J0 (by rw[gn HY.out,hd.out,HLT.out];rfl)
     obtain⟨c0,c1,c2,c3⟩:=hcY _ HB6
     clear hpre hcell hownW hcY hpx p0 q0
     go_wp2_with (at_builtin;refine Y5 _ rfl _ _ 41 rfl W1.heap.size 58 i0 (.agg #[.string ⟨#[]⟩,.int .i64 0,.slice none 0 0,.slice none 0 0]) 4 72 Tryz.underlying41 hi hz0 hz1 hz2 rfl (by decide) _ _ _ rfl (hown.alloc _) ⟨w5.heap.size,0,none⟩ 1 1 [.string y.y.s,.int .i64 (y.y.old:Nat),.slice y.F mf y.f,.slice y.T mt y.t] rfl rfl ?c1 ?c2 ?c3 ?c4 ?c5 ?_)
     case c1=>exact jD _ _ _ (by simp)
     case c2=>intro u hu;simp at hu;rcases hu with rfl|rfl|rfl|rfl <;> rfl
     case c3=>simp only[maxLen];omega
     case c4=>omega
     case c5=>simp <;> omega
     intro v' w3 hown' hgrow _
     have BG:Below W1.heap.size w5 w3:=((Jy _ _).alloc (by omega) (.cells #[.string y.y.s,.int .i64 (y.y.old:Nat),.slice y.F mf y.f,.slice y.T mt y.t] 58)).grown hgrow (by simp <;> omega) (fun q hq=>aF hown q hq)
     have hown3:w3.ownsRow W1.heap.size 58 4 v' (k+1) (ac (gJ X x (k+1))):=ag hown' (by simp) (by rw[HPR.out,eY _ y,HYC.out])
     obtain⟨B',c',rfl,_,_,_⟩:=aL hown3
     have HB3:=HB6.trans BG
     clear hown' hgrow hown c0 c1 c2 c3
     go_wp2
     go_roundw
     case rel=>exact⟨k+1,k+1,false,by omega,by go_num,rfl,hdd,hown3,by omega,(fun _=>rfl),(fun h=>by cases h),HB3⟩
     case measure=>simp[intOf];omega
    ·have hpre:=Aq HY.out hd.out HLT.out
     have HPR:=J0 hpre
     have hdd:Hid ((X.take (k+1)).any (fun y=>dD x.y.s y.y.s)=true):=J0 (by rw[gn HY.out,hd.out,HLT.out];rfl)
     obtain⟨p0,p1,p2,p3⟩:=(hpx _ HB5).f4
     clear hpre hcell hownW q0
     go_upto_region 8 with (at_builtin;refine Y5 _ rfl _ _ 41 rfl W1.heap.size 58 i0 (.agg #[.string ⟨#[]⟩,.int .i64 0,.slice none 0 0,.slice none 0 0]) 4 72 Tryz.underlying41 hi hz0 hz1 hz2 rfl (by decide) _ _ _ rfl (hown.alloc _) ⟨w5.heap.size,0,none⟩ 1 1 [.string x.y.s,.int .i64 (x.y.old:Nat),.slice x.F nf x.f,.slice x.T nt x.t] rfl rfl ?c1 ?c2 ?c3 ?c4 ?c5 ?_)
     case c1=>exact jD _ _ _ (by simp)
     case c2=>intro u hu;simp at hu;rcases hu with rfl|rfl|rfl|rfl <;> rfl
     case c3=>simp only[maxLen];omega
     case c4=>omega
     case c5=>simp <;> omega
     intro v6 w6 hown' hgrow _
     have BG:Below W1.heap.size w5 w6:=((Jy _ _).alloc (by omega) (.cells #[.string x.y.s,.int .i64 (x.y.old:Nat),.slice x.F nf x.f,.slice x.T nt x.t] 58)).grown hgrow (by simp <;> omega) (fun q hq=>aF hown q hq)
     have hown6:w6.ownsRow W1.heap.size 58 4 v6 (k+1) (ac (gJ X x k++[x])):=ag hown' (by simp) (by rw[eY,HXC.out])
     obtain⟨V6,c6,rfl,_,_,_⟩:=aL hown6
     have HB7:=HB6.trans BG
     have hz7:=HB7.size
     obtain⟨c0,c1,c2,c3⟩:=hcY _ HB7
     clear hown' hgrow hown p0 p1 p2 p3 hcY hpx
     go_wp2_with (at_builtin;refine Y5 _ rfl _ _ 41 rfl W1.heap.size 58 i0 (.agg #[.string ⟨#[]⟩,.int .i64 0,.slice none 0 0,.slice none 0 0]) 4 72 Tryz.underlying41 hi hz0 hz1 hz2 rfl (by decide) _ _ _ rfl (hown6.alloc _) ⟨w6.heap.size,0,none⟩ 1 1 [.string y.y.s,.int .i64 (y.y.old:Nat),.slice y.F mf y.f,.slice y.T mt y.t] rfl rfl ?c1 ?c2 ?c3 ?c4 ?c5 ?_)
     case c1=>exact jD _ _ _ (by simp)
     case c2=>intro u hu;simp at hu;rcases hu with rfl|rfl|rfl|rfl <;> rfl
     case c3=>simp only[maxLen];omega
     case c4=>omega
     case c5=>simp <;> omega
     intro v' w3 hown' hgrow _
     have BG:Below W1.heap.size w6 w3:=((Jy _ _).alloc (by omega) (.cells #[.string y.y.s,.int .i64 (y.y.old:Nat),.slice y.F mf y.f,.slice y.T mt y.t] 58)).grown hgrow (by simp <;> omega) (fun q hq=>aF hown6 q hq)
     have hown3:w3.ownsRow W1.heap.size 58 4 v' (k+1+1) (ac (gJ X x (k+1))):=ag hown' (by simp) (by rw[HPR.out,eY _ y,HYC.out])
     obtain⟨B',c',rfl,_,_,_⟩:=aL hown3
     have HB3:=HB7.trans BG
     clear hown' hgrow hown6 c0 c1 c2 c3
     go_wp2
     go_roundw
     case rel=>exact⟨k+1,k+1+1,true,by omega,by go_num,rfl,hdd,hown3,by omega,(fun h=>by cases h),(fun _=>rfl),HB3⟩
     case measure=>simp[intOf];omega
   ·obtain rfl:z=k+1:=hz1' rfl
    clear hz0' hz1'
    have hpre:=yF HY.out hd.out
    have HPR:=J0 hpre
    have hdd:Hid ((X.take (k+1)).any (fun y=>dD x.y.s y.y.s)=true):=J0 (by rw[gn HY.out,hd.out];rfl)
    clear hpre hcell
    go_upto_region 6 with fail
    refine RW.start (fun w'=>Below wr.heap.size wr w') (by kernel_rfl) (by kernel_rfl) (Jy _ _).drew ?_
    repeat (first
     |(refine' RW.val (by rfl) ?_ ?_;rotate_left;(focus (intro w' hS;have HB5:=hS;clear hS;go_simp;rfl));simp only[Act.put,J1,J3,J2])
     |(refine RW.off (by rfl) ?_;simp only[Act.put,J1,J3,J2]))
    refine RW.done (fun w' hS=>?_)
    have HB5:=hS;clear hS
    rename EQ=>w5
    have hown:=hownW _ HB5
    have HB6:=HB.trans (HB5.mono HB.size)
    obtain⟨c0,c1,c2,c3⟩:=hcY _ HB6
    have hz6:=HB6.size
    clear hownW hcY hpx
    go_wp2_with (at_builtin;refine Y5 _ rfl _ _ 41 rfl W1.heap.size 58 i0 (.agg #[.string ⟨#[]⟩,.int .i64 0,.slice none 0 0,.slice none 0 0]) 4 72 Tryz.underlying41 hi hz0 hz1 hz2 rfl (by decide) _ _ _ rfl (hown.alloc _) ⟨w5.heap.size,0,none⟩ 1 1 [.string y.y.s,.int .i64 (y.y.old:Nat),.slice y.F mf y.f,.slice y.T mt y.t] rfl rfl ?c1 ?c2 ?c3 ?c4 ?c5 ?_)
    case c1=>exact jD _ _ _ (by simp)
    case c2=>intro u hu;simp at hu;rcases hu with rfl|rfl|rfl|rfl <;> rfl
    case c3=>simp only[maxLen];omega
    case c4=>omega
    case c5=>simp <;> omega
    intro v' w3 hown' hgrow _
    have BG:Below W1.heap.size w5 w3:=((Jy _ _).alloc (by omega) (.cells #[.string y.y.s,.int .i64 (y.y.old:Nat),.slice y.F mf y.f,.slice y.T mt y.t] 58)).grown hgrow (by simp <;> omega) (fun q hq=>aF hown q hq)
    have hown3:w3.ownsRow W1.heap.size 58 4 v' (k+1+1) (ac (gJ X x (k+1))):=ag hown' (by simp) (by rw[HPR.out,eY _ y,HYC.out])
    obtain⟨B',c',rfl,_,_,_⟩:=aL hown3
    have HB3:=HB6.trans BG
    clear hown' hgrow hown c0 c1 c2 c3
    go_wp2
    go_roundw
    case rel=>exact⟨k+1,k+1+1,true,by omega,by go_num,rfl,hdd,hown3,by omega,(fun h=>by cases h),(fun _=>rfl),HB3⟩
    case measure=>simp[intOf];omega
  ·obtain rfl:k=n:=by omega
   have hall:X.take k=X:=Vx (by rw[HN.out];exact J9 _)
   rw[hall] at hd
   cases d
   ·obtain rfl:z=k:=hz0' rfl
    have hfin:=rI hd.out
    rw[HN.out] at hfin
    have HF:=J0 hfin
    have P:=HP _ HB
    obtain⟨p0,p1,p2,p3⟩:=P.f4
    have hz6:=HB.size
    clear hz0' hz1' hAr hall hfin P HP
    go_wp2_with (at_builtin;refine Y5 _ rfl _ _ 41 rfl W1.heap.size 58 i0 (.agg #[.string ⟨#[]⟩,.int .i64 0,.slice none 0 0,.slice none 0 0]) 4 72 Tryz.underlying41 hi hz0 hz1 hz2 rfl (by decide) _ _ _ rfl (hown.alloc _) ⟨wr.heap.size,0,none⟩ 1 1 [.string x.y.s,.int .i64 (x.y.old:Nat),.slice x.F nf x.f,.slice x.T nt x.t] rfl rfl ?c1 ?c2 ?c3 ?c4 ?c5 ?_)
    case c1=>exact jD _ _ _ (by simp)
    case c2=>intro u hu;simp at hu;rcases hu with rfl|rfl|rfl|rfl <;> rfl
    case c3=>simp only[maxLen];omega
    case c4=>omega
    case c5=>simp <;> omega
    intro v' w3 hown' hgrow _
    have BG:Below W1.heap.size wr w3:=((Jy _ _).alloc (by omega) (.cells #[.string x.y.s,.int .i64 (x.y.old:Nat),.slice x.F nf x.f,.slice x.T nt x.t] 58)).grown hgrow (by simp <;> omega) (fun q hq=>aF hown q hq)
    have hown3:w3.ownsRow W1.heap.size 58 4 v' (z+1) (ac (fS (·.y.s) x X)):=ag hown' (by simp) (by rw[<-HF.out,eY,HXC.out])
    obtain⟨B',c',rfl,hc',_,r'⟩:=aL hown3
    have HB3:=HBw _ (HB.trans BG)
    clear hown' hgrow hown p0 p1 p2 p3
    go_wp2
    go_ret
    exact⟨B',c',rfl,hc',r',HB3⟩
   ·obtain rfl:z=k+1:=hz1' rfl
    have hfin:=pK hd.out
    rw[HN.out] at hfin
    rw[hfin] at hown
    obtain⟨B',c',e,hc',_,r'⟩:=aL hown
    cases e
    have HB3:=HBw _ HB
    clear hz0' hz1' hAr hall hfin HP hown
    go_wp2
    go_ret
    exact⟨V,vc,rfl,hc',r',HB3⟩
theorem st (l:List bk) (k:Nat) (x y:bk) (hy:l[k]?=some y):ac (l.set k x)=((((ac l).set (k * 4) (.string x.y.s)).set (k * 4+1) (.int .i64 (x.y.old:Nat))).set (k * 4+2) (.slice x.F x.fv.length x.f)).set (k * 4+3) (.slice x.T x.tv.length x.t):=by
 induction l generalizing k with
 |nil=>simp at hy
 |cons z r ih=>
  have e:ac (z :: r)=z.cells++ac r:=by simp[ac]
  cases k with
  |zero=>simp[ac,bk.cells]
  |succ k=>
   have e2:ac (z :: r.set k x)=z.cells++ac (r.set k x):=by simp[ac]
   rw[J2,e2,ih k (by simpa using hy),e,show(k+1) * 4=k * 4+1+1+1+1 by omega]
   simp only[bk.cells,List.cons_append,List.nil_append,J2]
theorem uu {l:List bk} {k:Nat} {y:bk} (hy:l[k]?=some y):(ac l)[k * 4]?=some (.string y.y.s)/\(ac l)[k * 4+1]?=some (.int .i64 (y.y.old:Nat))/\(ac l)[k * 4+2]?=some (.slice y.F y.fv.length y.f)/\(ac l)[k * 4+3]?=some (.slice y.T y.tv.length y.t):=by
 have hg:=fun r (hr:r<4)=>iq (F:=bk.cells) (k:=4) (fun _=>rfl) hy r hr
 exact⟨hg 0 (by omega),hg 1 (by omega),hg 2 (by omega),hg 3 (by omega)⟩
theorem Dz {w:EQ} {base g n c:Nat} {X:List bk} (h:w.ownsRow base 58 4 (.slice (some ⟨g,0,none⟩) n c) n (ac X)) {k:Nat} {y:bk} (hy:X[k]?=some y) (x:bk) (nf nt:Nat) (hnf:x.fv.length=nf) (hnt:x.tv.length=nt) (hn:0<n):
 ((∃u,w.cell? ⟨g,k * 4,none⟩=some u)/\w.frozen? ⟨g,k * 4,none⟩=false)/\
 ((∃u,(w.setCell ⟨g,k * 4,none⟩ (.string x.y.s)).cell? ⟨g,k * 4+1,none⟩=some u)/\(w.setCell ⟨g,k * 4,none⟩ (.string x.y.s)).frozen? ⟨g,k * 4+1,none⟩=false)/\
 ((∃u,((w.setCell ⟨g,k * 4,none⟩ (.string x.y.s)).setCell ⟨g,k * 4+1,none⟩ (.int .i64 (x.y.old:Nat))).cell? ⟨g,k * 4+2,none⟩=some u)/\((w.setCell ⟨g,k * 4,none⟩ (.string x.y.s)).setCell ⟨g,k * 4+1,none⟩ (.int .i64 (x.y.old:Nat))).frozen? ⟨g,k * 4+2,none⟩=false)/\
 ((∃u,(((w.setCell ⟨g,k * 4,none⟩ (.string x.y.s)).setCell ⟨g,k * 4+1,none⟩ (.int .i64 (x.y.old:Nat))).setCell ⟨g,k * 4+2,none⟩ (.slice x.F nf x.f)).cell? ⟨g,k * 4+3,none⟩=some u)/\(((w.setCell ⟨g,k * 4,none⟩ (.string x.y.s)).setCell ⟨g,k * 4+1,none⟩ (.int .i64 (x.y.old:Nat))).setCell ⟨g,k * 4+2,none⟩ (.slice x.F nf x.f)).frozen? ⟨g,k * 4+3,none⟩=false)/\
 ((((w.setCell ⟨g,k * 4,none⟩ (.string x.y.s)).setCell ⟨g,k * 4+1,none⟩ (.int .i64 (x.y.old:Nat))).setCell ⟨g,k * 4+2,none⟩ (.slice x.F nf x.f)).setCell ⟨g,k * 4+3,none⟩ (.slice x.T nt x.t)).ownsRow base 58 4 (.slice (some ⟨g,0,none⟩) n c) n (ac (X.set k x)):=by
 subst hnf hnt
 obtain⟨g0,g1,g2,g3⟩:=uu hy
 have cell:∀{W:EQ} {xs:EO},W.ownsRow base 58 4 (.slice (some ⟨g,0,none⟩) n c) n xs->∀j u,xs[j]?=some u->(∃u,W.cell? ⟨g,j,none⟩=some u)/\W.frozen? ⟨g,j,none⟩=false:=fun ho j u hj=>by
  obtain⟨g',c',e,_,_,_,_,hr⟩:=ce ho hn
  cases e
  exact⟨⟨u,(hr j u hj).1⟩,(hr j u hj).2⟩
 have o1:=ew h (k * 4) (.string x.y.s)
 have o2:=ew o1 (k * 4+1) (.int .i64 (x.y.old:Nat))
 have o3:=ew o2 (k * 4+2) (.slice x.F x.fv.length x.f)
 have o4:=ew o3 (k * 4+3) (.slice x.T x.tv.length x.t)
 rw[<-st X k x y hy] at o4
 refine⟨cell h _ _ g0,cell o1 _ _ (by rw[Vz (by omega)];exact g1),cell o2 _ _ (by rw[Vz (by omega),Vz (by omega)];exact g2),cell o3 _ _ (by rw[Vz (by omega),Vz (by omega),Vz (by omega)];exact g3),o4⟩
theorem wu (A:EL) (c n:Nat) (X:List bk) (hn:X.length=n) (hl:n<=1000) (hc:n<=c) (k:Nat) (hk:k<n) (x:bk) (nf nt:Nat) (hnf:x.fv.length=nf) (hnt:x.tv.length=nt) (w:EQ) (hA:Rd w A (ac X)):
 Calls Tryz.prog 103 #[.slice A n c,.int .i64 (k:Nat),.agg #[.string x.y.s,.int .i64 (x.y.old:Nat),.slice x.F nf x.f,.slice x.T nt x.t]] w fun e w'=>∃B d,e=.returned (.slice B n d)/\n<=d/\Rd w' B (ac (X.set k x))/\Below w.heap.size w w':=by
 obtain⟨i0,hi,hz0,hz1,hz2⟩:=info_parts za
 obtain⟨y,hy⟩:∃y,X[k]?=some y:=⟨_,J4 (by omega)⟩
 obtain⟨ad,rfl,_⟩:=hA.ty hy
 have nb:=aA (w:=w) (.cells #[.string x.y.s,.int .i64 (x.y.old:Nat),.slice x.F nf x.f,.slice x.T nt x.t] 58)
 have P:=aD.new w [.string x.y.s,.int .i64 (x.y.old:Nat),.slice x.F nf x.f,.slice x.T nt x.t] 58
 have hA1:=hA.below nb
 have HN:=J0 hn;have HY:=J0 hy;have HNF:=J0 hnf;have HNT:=J0 hnt
 have h0:(0:Int)<=(k:Int):=by omega
 have h1:(k:Int)<(n:Int):=by omega
 clear hn hy hnf hnt hA
 go_enter Tryz.func103,Tryz.ntmps103
 go_upto_region 1 with fail
 generalize w.alloc (.cells #[.string x.y.s,.int .i64 (x.y.old:Nat),.slice x.F nf x.f,.slice x.T nt x.t] 58)=W1 at *
 have hown:(W1.alloc (.cells #[] 58)).ownsRow W1.heap.size 58 4 (.slice (some ⟨W1.heap.size,0,none⟩) 0 0) 0 []:=⟨rfl,.inr ⟨_,0,#[],rfl,J9 _,Y7 _ _,J9 _,X6 _,rfl,rfl⟩⟩
 have hA2:=hA1.below (aA (.cells #[] 58))
 go_upto_region 2 with (at_builtin;refine Y5 _ rfl _ _ 41 rfl W1.heap.size 58 i0 (.agg #[.string ⟨#[]⟩,.int .i64 0,.slice none 0 0,.slice none 0 0]) 4 72 Tryz.underlying41 hi hz0 hz1 hz2 rfl (by decide) _ _ _ rfl hown ad n c (ac X) rfl ?c0 ?c1 ?c2 ?c3 ?c4 ?c5 ?_)
 case c0=>rw[nJ,HN.out];omega
 case c1=>
  intro j u hj
  obtain⟨ad',e,h⟩:=hA2 (by rintro e;rw[e] at hj;simp at hj)
  cases e;exact h j u hj
 case c2=>
  intro u hu
  simp only[ac,List.mem_flatMap] at hu
  obtain⟨f,_,hf⟩:=hu
  simp[bk.cells] at hf
  rcases hf with rfl|rfl|rfl|rfl <;> rfl
 case c3=>simp only[maxLen];omega
 case c4=>omega
 case c5=>simp
 intro v' w3 hown' hgrow _
 have BG:Below W1.heap.size W1 w3:=((Jy _ _).alloc (J9 _) (.cells #[] 58)).grown hgrow (by simp) (fun q hq=>aF hown q hq)
 have hown3:w3.ownsRow W1.heap.size 58 4 v' n (ac X):=ag hown' (by simp) (by simp)
 obtain⟨g,c3,rfl,hg,hgl,hnc,_,hrow⟩:=ce hown3 (by omega)
 obtain⟨⟨⟨u0,s0⟩,f0⟩,⟨⟨u1,s1⟩,f1⟩,⟨⟨u2,s2⟩,f2⟩,⟨⟨u3,s3⟩,f3⟩,hfin⟩:=Dz hown3 HY.out x nf nt HNF.out HNT.out (by omega)
 obtain⟨p0,p1,p2,p3⟩:=(P.below BG).f4
 have HFI:=J0 hfin
 clear hown' hgrow hown hown3 hA1 hA2 hfin hrow P
 go_wp2
 go_ret
 obtain⟨B,d,e,hd,_,r⟩:=aL HFI.out
 cases e
 exact⟨_,_,rfl,hd,r,nb.trans (((((BG.setCell hg _).setCell hg _).setCell hg _).setCell hg _).mono nb.size)⟩
def eP (Q:Nat->Prop) (w:EQ) (L:List Ty) (w':EQ) (B:EL) (k d:Nat):Prop:=∃X',X'.map (·.y)=L/\X'.length=k/\bZ (fun g=>Q g\/w.heap.size<=g) w' B d X'/\Below w.heap.size w w'
theorem eP.stay {Q:Nat->Prop} {w w':EQ} {A:EL} {c n:Nat} {X:List bk} (h:bZ Q w A c X) (hn:X.length=n) (hb:Below w.heap.size w w'):eP Q w (X.map (·.y)) w' A n c:=⟨X,rfl,hn,(h.below hb).mono (fun g hg=>.inl hg),hb⟩
def oL (L:List Ty) (nm:EP) (fs:List Fd):List Ty:=if fj L nm fs=0 then jd L ⟨nm,1,[bA fs]⟩ else L
theorem yI {Q:Nat->Prop} {w:EQ} {A:EL} {c:Nat} {X:List bk} (h:bZ Q w A c X) (n:Nat) (hn:X.length=n) (h16:n<=16) (nm:EP) (hsz:nm.size<=9223372036854775807) (F:EL) (cF m:Nat) (fs:List Fd) (hm:fs.length=m) (hl:m<=9223372036854775807) (hs:mU fs) (hF:Rd w F (aC fs)) (q:Int) (hq:fj (X.map (·.y)) nm fs=q) (L':List Ty) (hL:oL (X.map (·.y)) nm fs=L'):
 Calls Tryz.prog 67 #[.slice A n c,.string nm,.slice F m cF] w fun e w'=>∃B k d,e=.returned (.tuple #[.slice B k d,.int .i64 q])/\eP Q w L' w' B k d:=by
 obtain⟨rn,hrn⟩:∃r,bI nm=r:=⟨_,rfl⟩
 obtain⟨rf,hrf⟩:∃r,aK fs=r:=⟨_,rfl⟩
 obtain⟨z,hz⟩:∃z,it (X.map (·.y)) nm=z:=⟨_,rfl⟩
 have hrow:=h.row
 have stay:q≠0->L'=X.map (·.y):=fun h0=>by rw[<-hL,oL,Xy (by omega)]
 have HN:=J0 hn;have HM:=J0 hm;have HNM:=J0 hrn;have HRF:=J0 hrf;have HS:=J0 hs;have HZ:=J0 hz;have HH:=J0 h;have HQ:=J0 hq;have HL:=J0 hL;have HST:=J0 stay
 have HB:=Jy w.heap.size w
 clear hn hm hrn hrf hs hz h hq hL stay
 by_cases hbad:rn=false\/rf=false
 ·have e1:q=60:=by
   rw[<-HQ.out,fj,Xz (by rw[HNM.out,HRF.out];exact hbad)]
  subst e1
  have hL':=HST.out (by decide)
  have HLL:=J0 hL'
  clear hL'
  cases rn
  ·clear hbad
   go_enter Tryz.func67,Tryz.ntmps67
   go_wp2_with (first|(go_at_call 57;refine(eS nm hsz _).mono ?_;rw[HNM.out];rintro e W1 ⟨rfl,hb⟩;replace HB:=HB.trans (hb.mono HB.size);clear hb)|(go_at_call 77;refine(ab F cF m fs HM.out _ HRF.out _ (hF.below HB) hl HS.out.fds).mono ?_;rintro e W2 ⟨rfl,hb⟩;replace HB:=HB.trans (hb.mono HB.size);clear hb))
   refine Xx (v:=.tuple #[.slice A n c,.int .i64 60]) (by simp[results,Tryz.results67,go_sem, *];done) rfl ⟨A,n,c,rfl,by rw[HLL.out];exact eP.stay HH.out HN.out HB⟩
  ·obtain rfl:rf=false:=by rcases hbad with h|h <;> simp_all
   clear hbad
   go_enter Tryz.func67,Tryz.ntmps67
   go_wp2_with (first|(go_at_call 57;refine(eS nm hsz _).mono ?_;rw[HNM.out];rintro e W1 ⟨rfl,hb⟩;replace HB:=HB.trans (hb.mono HB.size);clear hb)|(go_at_call 77;refine(ab F cF m fs HM.out _ HRF.out _ (hF.below HB) hl HS.out.fds).mono ?_;rintro e W2 ⟨rfl,hb⟩;replace HB:=HB.trans (hb.mono HB.size);clear hb))
   refine Xx (v:=.tuple #[.slice A n c,.int .i64 60]) (by simp[results,Tryz.results67,go_sem, *];done) rfl ⟨A,n,c,rfl,by rw[HLL.out];exact eP.stay HH.out HN.out HB⟩
 ·obtain rfl:rn=true:=by cases rn with|true=>rfl|false=>exact absurd (.inl rfl) hbad
  obtain rfl:rf=true:=by cases rf with|true=>rfl|false=>exact absurd (.inr rfl) hbad
  clear hbad
  by_cases hth:0<=z\/16<=n
  ·have e1:q=91:=by
    rw[<-HQ.out,fj,Xy (by rw[HNM.out,HRF.out];simp),Xz]
    rcases hth with h1|h1
    ·left
     intro hc
     have:=fH hc
     rw[HZ.out] at this
     omega
    ·right;rw[Kz,HN.out];exact h1
   subst e1
   have hL':=HST.out (by decide)
   have HLL:=J0 hL'
   clear hL'
   by_cases hz0:0<=z
   ·have d1:decide ((0:Int)<=z)=true:=by simpa using hz0
    clear hth
    go_enter Tryz.func67,Tryz.ntmps67
    go_wp2_with (first|(go_at_call 57;refine(eS nm hsz _).mono ?_;rw[HNM.out];rintro e W1 ⟨rfl,hb⟩;replace HB:=HB.trans (hb.mono HB.size);clear hb)|(go_at_call 77;refine(ab F cF m fs HM.out _ HRF.out _ (hF.below HB) hl HS.out.fds).mono ?_;rintro e W2 ⟨rfl,hb⟩;replace HB:=HB.trans (hb.mono HB.size);clear hb)|(go_at_call 42;refine(cS A c n X HN.out (by omega) nm _ HZ.out _ (hrow.below HB)).mono ?_;rintro e W3 ⟨rfl,hb⟩;replace HB:=HB.trans (hb.mono HB.size);clear hb))
    refine Xx (v:=.tuple #[.slice A n c,.int .i64 91]) (by simp[results,Tryz.results67,go_sem, *];done) rfl ⟨A,n,c,rfl,by rw[HLL.out];exact eP.stay HH.out HN.out HB⟩
   ·have d1:decide ((0:Int)<=z)=false:=by simpa using hz0
    have d2:decide ((16:Int)<=(n:Int))=true:=by simp;omega
    have d3:decide (16<=n)=true:=by simp;omega
    clear hth
    go_enter Tryz.func67,Tryz.ntmps67
    go_wp2_with (first|(go_at_call 57;refine(eS nm hsz _).mono ?_;rw[HNM.out];rintro e W1 ⟨rfl,hb⟩;replace HB:=HB.trans (hb.mono HB.size);clear hb)|(go_at_call 77;refine(ab F cF m fs HM.out _ HRF.out _ (hF.below HB) hl HS.out.fds).mono ?_;rintro e W2 ⟨rfl,hb⟩;replace HB:=HB.trans (hb.mono HB.size);clear hb)|(go_at_call 42;refine(cS A c n X HN.out (by omega) nm _ HZ.out _ (hrow.below HB)).mono ?_;rintro e W3 ⟨rfl,hb⟩;replace HB:=HB.trans (hb.mono HB.size);clear hb))
    refine Xx (v:=.tuple #[.slice A n c,.int .i64 91]) (by simp[results,Tryz.results67,go_sem, *];done) rfl ⟨A,n,c,rfl,by rw[HLL.out];exact eP.stay HH.out HN.out HB⟩
  ·have hz0:¬0<=z:=fun h=>hth (.inl h)
   have hn0:¬16<=n:=fun h=>hth (.inr h)
   have e1:q=0:=by
    rw[<-HQ.out,fj,Xy (by rw[HNM.out,HRF.out];simp),Xy]
    rintro (h1|h1)
    ·cases hf:ak (X.map (·.y)) nm with
     |none=>exact h1 hf
     |some t=>obtain⟨i,e,_⟩:=jS hf;rw[HZ.out] at e;omega
    ·rw[Kz,HN.out] at h1;exact hn0 h1
   subst e1
   have hLL:L'=jd (X.map (·.y)) ⟨nm,1,[bA fs]⟩:=by rw[<-HL.out,oL,Xz HQ.out]
   have HLL:=J0 hLL
   have d1:decide ((0:Int)<=z)=false:=by simpa using hz0
   have d2:decide ((16:Int)<=(n:Int))=false:=by simp;omega
   have d3:decide (16<=n)=false:=by simp;omega
   clear hth hLL
   go_enter Tryz.func67,Tryz.ntmps67
   go_upto_region 5 with (first|(go_at_call 57;refine(eS nm hsz _).mono ?_;rw[HNM.out];rintro e W1 ⟨rfl,hb⟩;replace HB:=HB.trans (hb.mono HB.size);clear hb)|(go_at_call 77;refine(ab F cF m fs HM.out _ HRF.out _ (hF.below HB) hl HS.out.fds).mono ?_;rintro e W2 ⟨rfl,hb⟩;replace HB:=HB.trans (hb.mono HB.size);clear hb)|(go_at_call 42;refine(cS A c n X HN.out (by omega) nm _ HZ.out _ (hrow.below HB)).mono ?_;rintro e W3 ⟨rfl,hb⟩;replace HB:=HB.trans (hb.mono HB.size);clear hb))
   rename EQ=>W3
   obtain⟨x,hx⟩:∃x:bk,x=⟨⟨nm,1,[bA fs]⟩,some ⟨W3.heap.size,0,none⟩,1,none,0,[⟨fs,F,cF⟩],[]⟩:=⟨_,rfl⟩
   have nb:=aA (w:=W3) (.cells #[.slice F m cF] 27)
   have hrow4:=(hrow.below HB).below nb
   have hput:=AE A c n X HN.out (by omega) x 1 0 (by rw[hx];rfl) (by rw[hx];rfl) _ hrow4
   rw[hx] at hput
   dsimp only at hput
   have HPUT:=J0 hput
   have HX:=J0 hx
   clear hput hx hrow4
   go_wp2_with (go_at_call 58;refine HPUT.out.mono ?_;rintro e w5 ⟨B,d,rfl,hd,rB,hb5⟩)
   refine Xx (v:=.tuple #[.slice B (n+1) d,.int .i64 0]) (by simp[results,Tryz.results67,go_sem, *];done) rfl ⟨B,n+1,d,rfl,?_⟩
   rw[<-HX.out] at rB
   have hkr:=bx HRF.out
   have HB4:=nb.trans (hb5.mono nb.size)
   have HB5:=HB.trans (HB4.mono HB.size)
   have hz:=HB.size
   refine⟨fS (·.y.s) x X,?_,?_,⟨rB,fun u hu=>?_,?_,?_⟩,HB5⟩
   ·rw[HLL.out,jd]
    refine(tP (fun x:bk=>x.y) (fun t:Ty=>t.s) x X).trans ?_
    rw[HX.out]
   ·rw[(dC _ x X).length_eq];simp[HN.out]
   ·rcases List.mem_cons.1 ((dC _ x X).subset hu) with rfl|hu
    ·rw[HX.out]
     refine⟨?_,(fun hne=>absurd rfl hne),?_,(fun v hv=>by cases hv),?_,rfl,J9 _,fun _=>⟨rfl,rfl⟩⟩
     ·have r0:au (fun g=>Q g\/w.heap.size<=g) (W3.alloc (.cells #[.slice F m cF] 27)) (some ⟨W3.heap.size,0,none⟩) [.slice F m cF]:=au.mk (gh W3 [.slice F m cF] 27) (fun ad e=>by cases e;right;exact hz)
      have:=r0.up hb5
      simpa[bJ,HM.out] using this
     ·intro v hv
      simp at hv;subst hv
      exact hF.below HB5
     ·simp[hkr]
    ·exact((HH.out.ty u hu).below HB5).mono (fun g hg=>.inl hg)
   ·rw[(dC _ x X).length_eq];simp[HN.out];exact hd
   ·intro he
    have:=congrArg List.length he
    rw[(dC _ x X).length_eq] at this
    simp at this
def qV (cs:EO):Prop:=cs=[]\/(∃s k i l j r,cs=Value.string s :: Value.int k i :: Value.int l j :: r)\/∃k i l j r,cs=Value.int k i :: Value.int l j :: r
theorem qV.flds (l:List Fd):qV (aC l):=by
 cases l with
 |nil=>exact .inl rfl
 |cons f r=>exact .inr (.inl ⟨_,_,_,_,_,_,rfl⟩)
theorem qV.moves (l:List Mv):qV (aJ l):=by
 cases l with
 |nil=>exact .inl rfl
 |cons f r=>exact .inr (.inr ⟨_,_,_,_,_,rfl⟩)
theorem Rd.ne4 {w:EQ} {A:EL} {cs:EO} {b:Nat} {T:ES} {s:EP} {k:IntKind} {o:Int} {F G:EL} {n1 c1 n2 c2:Nat} (h:Rd w A cs) (hb:aD w b [.string s,.int k o,.slice F n1 c1,.slice G n2 c2] T) (hl:qV cs):au (fun g=>g≠b) w A cs:=by
 intro hn
 obtain⟨ad,e,hc⟩:=h hn
 refine⟨ad,e,?_,hc⟩
 intro hbk
 have hadd:∀j,(ad.add j).block=ad.block:=fun j=>by unfold Addr.add;split <;> rfl
 have hoff:∀j,(ad.add j).off=ad.off+j:=fun j=>by unfold Addr.add;split <;> simp_all
 unfold aD at hb
 have get:∀j u,cs[j]?=some u->([Value.string s,Value.int k o,Value.slice F n1 c1,Value.slice G n2 c2]:EO)[ad.off+j]?=some u:=fun j u hj=>by
  have h1:=hc j u hj
  have hbb:w.heap[(ad.add j).block]?=some (.cells [Value.string s,Value.int k o,Value.slice F n1 c1,Value.slice G n2 c2].toArray T (0,0)):=by rw[hadd,hbk];exact hb
  simp only[World.cell?,hbb] at h1
  split at h1
  ·cases h1
  ·rw[hoff] at h1
   simpa using h1
 have lt:∀j u,cs[j]?=some u->ad.off+j<4:=fun j u hj=>by
  have:=(J6.1 (get j u hj)).1
  simpa using this
 rcases hl with rfl|⟨s',k1,i1,k2,i2,r,rfl⟩|⟨k1,i1,k2,i2,r,rfl⟩
 ·exact hn rfl
 ·have g0:=get 0 _ rfl
  have g2:=get 2 _ rfl
  have l0:=lt 0 _ rfl
  have l2:=lt 2 _ rfl
  rcases(by omega:ad.off=0\/ad.off=1) with h0|h0 <;> rw[h0] at g0 g2 <;> simp at g0 g2
 ·have g0:=get 0 _ rfl
  have g1:=get 1 _ rfl
  have l1:=lt 1 _ rfl
  rcases(by omega:ad.off=0\/ad.off=1\/ad.off=2) with h0|h0|h0 <;> rw[h0] at g0 g1 <;> simp at g0 g1
theorem Ar {X:List bk} (hnd:(X.map (·.y.s)).Nodup) {i:Nat} {x x':bk} (hi:X[i]?=some x) (hs:x'.y.s=x.y.s):(X.set i x').map (·.y)=ik (X.map (·.y)) x'.y:=by
 have hil:=(J6.1 hi).1
 unfold ik
 rw[List.map_map,List.map_set]
 apply Xk
 intro j
 by_cases hj:j=i
 ·subst hj
  rw[List.getElem?_set_self (by simpa using hil),Kv,hi]
  simp[hs]
 ·rw[Vz (by omega),Kv,Kv]
  cases he:X[j]? with
  |none=>rfl
  |some e=>
   have hne:e.y.s≠x'.y.s:=by
    intro hc
    have a1:(X.map (·.y.s))[j]?=some x.y.s:=by rw[Kv,he];exact congrArg some (hc.trans hs)
    have a2:(X.map (·.y.s))[i]?=some x.y.s:=by rw[Kv,hi];rfl
    have b1:=(J6.1 a1).1
    exact hj ((List.getElem?_inj b1 hnd).1 (a1.trans a2.symm))
   simp[hne]
theorem rO {Q:Nat->Prop} {w:EQ} {A:EL} {c:Nat} {X:List bk} (h:bZ Q w A c X) (n:Nat) (hn:X.length=n) (h16:n<=16) (hok:∀x∈X,x.y.Ok) (hnd:(X.map (·.y.s)).Nodup) (nm:EP) (hz:it (X.map (·.y)) nm=-1) (K:EL) (cK nc:Nat):
 Calls Tryz.prog 68 #[.slice A n c,.string nm,.slice K nc cK] w fun e w'=>e=.returned (.tuple #[.slice A n c,.int .i64 0,.int .i64 90])/\Below w.heap.size w w':=by
 have hrow:=h.row
 have HN:=J0 hn;have HZ:=J0 hz
 have HB:=Jy w.heap.size w
 clear hn hz h
 go_enter Tryz.func68,Tryz.ntmps68
 go_wp2_with (go_at_call 42;refine(cS A c n X HN.out (by omega) nm _ HZ.out _ (hrow.below HB)).mono ?_;rintro e W3 ⟨rfl,hb⟩;replace HB:=HB.trans (hb.mono HB.size);clear hb)
 refine Xx (v:=.tuple #[.slice A n c,.int .i64 0,.int .i64 90]) (by simp[results,Tryz.results68,go_sem, *];done) rfl ⟨rfl,HB⟩
theorem rL {Q:Nat->Prop} {w:EQ} {A:EL} {c:Nat} {X:List bk} (h:bZ Q w A c X) (n:Nat) (hn:X.length=n) (h16:n<=16) (hok:∀x∈X,x.y.Ok) (hnd:(X.map (·.y.s)).Nodup) (nm:EP) {x:bk} (i:Nat) (hi:X[i]?=some x) (hf:it (X.map (·.y)) nm=(i:Int)) (h64:64<=x.y.top) (K:EL) (cK nc:Nat):
 Calls Tryz.prog 68 #[.slice A n c,.string nm,.slice K nc cK] w fun e w'=>e=.returned (.tuple #[.slice A n c,.int .i64 0,.int .i64 91])/\Below w.heap.size w w':=by
 have hrow:=h.row
 have hxm:=J7 hi
 have hxo:=hok x hxm
 obtain⟨hfl,htl⟩:=(h.ty x hxm).len
 obtain⟨nf,hnf⟩:∃m,x.fv.length=m:=⟨_,rfl⟩
 obtain⟨nt,hnt⟩:∃m,x.tv.length=m:=⟨_,rfl⟩
 obtain⟨top,htop⟩:∃m,x.y.top=m:=⟨_,rfl⟩
 have hlen:0<x.y.ts.length:=by cases hx:x.y.ts with|nil=>exact absurd hx hxo.ne|cons a r=>simp
 have hsum:x.y.old+nf=top+1:=by have h2:x.y.top=x.y.old+x.y.ts.length - 1:=rfl;omega
 have hhi:top<=64:=by have:=hxo.hi;omega
 rw[htop] at h64
 have d1:decide ((64:Int)<=(top:Int))=true:=by simp;omega
 have d2:(64:Int)<=(top:Int):=by omega
 have hil:i<n:=by rw[<-hn];exact(J6.1 hi).1
 have i0:(0:Int)<=(i:Int):=by omega
 have i1:(i:Int)<(n:Int):=by omega
 have i2:decide ((i:Int)<0)=false:=by simp
 have HN:=J0 hn;have HZ:=J0 hf;have HS:=J0 hsum;have HI:=J0 hi;have HNF:=J0 hnf;have HNT:=J0 hnt
 have HB:=Jy w.heap.size w
 clear hn hf h hxo hfl htl htop hsum hi hnf hnt hlen hok hnd hxm
 go_enter Tryz.func68,Tryz.ntmps68
 go_upto_region 4 with (go_at_call 42;refine(cS A c n X HN.out (by omega) nm _ HZ.out _ (hrow.below HB)).mono ?_;rintro e W3 ⟨rfl,hb⟩;replace HB:=HB.trans (hb.mono HB.size);clear hb)
 obtain⟨ad,rfl,c0,c1,c2,c3⟩:=(hrow.below HB).ty HI.out
 rw[HNF.out] at c2;rw[HNT.out] at c3
 rename EQ=>W3
 have nb:=aA (w:=W3) (.cells #[.string x.y.s,.int .i64 (x.y.old:Nat),.slice x.F nf x.f,.slice x.T nt x.t] 58)
 have P:=aD.new W3 [.string x.y.s,.int .i64 (x.y.old:Nat),.slice x.F nf x.f,.slice x.T nt x.t] 58
 go_upto_region 5 with fail
 generalize W3.alloc (.cells #[.string x.y.s,.int .i64 (x.y.old:Nat),.slice x.F nf x.f,.slice x.T nt x.t] 58)=W4 at *
 obtain⟨p0,p1,p2,p3⟩:=P.f4
 clear c0 c1 c2 c3
 replace HB:=HB.trans (nb.mono HB.size)
 go_wp2_with (go_at_call 24;refine(dO x.y.s x.y.old nf x.F x.f x.T nt x.t top HS.out (by omega) _).mono ?_;rintro e W5 ⟨rfl,hb⟩;replace HB:=HB.trans (hb.mono HB.size);clear hb)
 refine Xx (v:=.tuple #[.slice (some ad) n c,.int .i64 0,.int .i64 91]) (by simp[results,Tryz.results68,go_sem, *];done) rfl ⟨rfl,HB⟩
end
end Go.Proofs.YteembinfgbapgaaGreat
