/- Merged out of: Ub Vw. -/
import Derived.Test.YteembinfgbapgaaGreatC00
import Derived.Test.YteembinfgbapgaaGreatC33
import Derived.Test.YteembinfgbapgaaGreatC30
import Derived.Test.YteembinfgbapgaaGreatC31
set_option linter.unusedSimpArgs false
set_option linter.unusedVariables false
set_option maxRecDepth 100000
set_option maxHeartbeats 8000000
namespace Go.Proofs.YteembinfgbapgaaGreat
section
open Go.RowKit Go.Lib Go.Maps
theorem get_right {l:List Fd} {b:List UInt8} (hc:checkB l b=true) {k:Nat} {f:Fd} (hf:l[k]?=some f):rightB (getV b l f.s).k (getV b l f.s).b (getV b l f.s).t f.k f.l=true∧0≤(getV b l f.s).b∧(getV b l f.s).b<18446744073709551616:=by
 obtain⟨hr,hl,he⟩:=checkB_iff.1 hc
 obtain⟨at_,_,e⟩:=loc_name hr hf hl
 have he1:=he f (J7 hf)
 unfold getE at he1
 rw[e] at he1
 unfold getV
 rw[e]
 simp only at he1 ⊢
 have hd:decB ((b.drop at_).take f.n) f.k f.l=true:=by
  unfold decE at he1
  split at he1
  ·assumption
  ·exact absurd he1 (by decide)
 rw[decF,if_pos hd]
 unfold decB at hd
 rw[Qy] at hd
 exact⟨hd.2,decZ_bd _ _ _⟩
theorem vals_fit {l:List Fd} {b:List UInt8} (hc:checkB l b=true):FitV l (valsL l b):=by
 intro k f v hf hv
 rw[valsL,Kv,hf] at hv
 obtain rfl:=Jj hv
 exact get_right hc hf
theorem vals_get {l:List Fd} {b:List UInt8} (hc:checkB l b=true):∀(k:Nat) (f:Fd),l[k]?=some f→getE b l f.s=0∧∀v,(valsL l b)[k]?=some v→getV b l f.s=v:=by
 intro k f hf
 refine⟨(checkB_iff.1 hc).2.2 f (J7 hf),fun v hv=>?_⟩
 rw[valsL,Kv,hf] at hv
 exact Jj hv
theorem out_check {t:Tb} (ht:TOk t) {b:List UInt8} (hc:checkB t.o b=true):checkB t.n (outL t (valsL t.o b) t.n.length)=true:=by
 have hlen:t.o.length≤(valsL t.o b).length:=by simp[valsL]
 have hf:=vals_fit hc
 rw[checkB_iff]
 refine⟨(rightT_iff.1 ht.r).2.1,outL_len ht.r ht.w hlen hf (J9 _),fun f hm=>?_⟩
 obtain⟨k,hk⟩:=Qq.1 hm
 exact(outL_get ht.r ht.w hlen hf hk).1
def ChainT (l:List Fd):List Tb→Prop
 |[]=>True
 |t :: r=>t.o=l∧TOk t∧ChainT t.n r
theorem chain_of {ts:List Tb} (hok:∀x∈ts,TOk x) (hch:∀(i:Nat) (a b:Tb),ts[i]?=some a→ts[i+1]?=some b→b.o=a.n):∀(j k:Nat) (a:Tb),ts.length - k=j→ts[k]?=some a→ChainT a.n (ts.drop (k+1)):=by
 intro j
 induction j with
 |zero=>intro k a hj ha;have:=(J6.1 ha).1;omega
 |succ j ih=>
  intro k a hj ha
  cases hb:ts[k+1]? with
  |none=>
   rw[List.drop_eq_nil_of_le (by rw[List.getElem?_eq_none_iff] at hb;exact hb)]
   trivial
  |some b=>
   have hlt:=(J6.1 hb).1
   have e:ts.drop (k+1)=b :: ts.drop (k+1+1):=by
    rw[List.drop_eq_getElem_cons hlt]
    congr 1
    exact(J6.1 hb).2
   rw[e]
   exact⟨hch k a b ha hb,hok b (J7 hb),ih (k+1) b (by omega) hb⟩
theorem upg_take {ts:List Tb} {i:Nat} {t:Tb} (h:ts[i]?=some t) (b:List UInt8):upgL (ts.take (i+1)) b=outL t (valsL t.o (upgL (ts.take i) b)) t.n.length:=by
 rw[Vq,h]
 simp[upgL,List.foldl_append]
theorem upg_check {l:List Fd} {ts:List Tb} (hc:ChainT l ts) {b:List UInt8} (hb:checkB l b=true):∀i,i≤ts.length→(∀t,ts[i]?=some t→checkB t.o (upgL (ts.take i) b)=true∧TOk t)∧(i=ts.length→∃l',checkB l' (upgL (ts.take i) b)=true):=by
 induction ts generalizing l b with
 |nil=>intro i hi;obtain rfl:i=0:=by simpa using hi
       exact⟨fun t ht=>by simp at ht,fun _=>⟨l,hb⟩⟩
 |cons t r ih=>
  obtain⟨rfl,hok,hr⟩:=hc
  intro i hi
  cases i with
  |zero=>exact⟨fun x hx=>by simp at hx;subst hx;exact⟨hb,hok⟩,fun h=>by simp at h⟩
  |succ i=>
   have:=ih hr (out_check hok hb) i (by simpa using hi)
   exact⟨fun x hx=>this.1 x (by simpa using hx),fun h=>this.2 (by simpa using h)⟩
theorem check_len {l:List Fd} {b:List UInt8} (h:checkB l b=true):b.length≤4096:=by
 obtain⟨hr,hl,_⟩:=checkB_iff.1 h
 rw[hl]
 exact sizeF_le l
theorem Clone_m (A:Option Addr) (nb c:Nat) (b:List UInt8) (hb0:b.length=nb) (w:World) (hA:Rd w A (bytesV b)) (hl:nb≤140737488355328):
 Calls Tryz.prog 38 #[.slice A nb c] w fun e w'=>∃B c',e=.returned (.slice B nb c')∧nb≤c'∧Rd w' B (bytesV b)∧Below w.heap.size w w':=by
 subst hb0
 refine(Clone_calls A c b w hA hl).mono ?_
 rintro e w' ⟨v,rfl,own,hb⟩
 obtain⟨B,d,rfl,h1,_,r⟩:=own_rd own
 exact⟨B,d,rfl,h1,r,hb⟩
theorem Upgrade_no {W:World} {cp mp:Nat} {E:List En} {es:List MapEntry} {clock:Nat} (h:CatIs 89 80 W cp mp E es clock) {nm:ByteArray} (hn:nm.size≤maxLen) (v:Int) (hbad:findE E nm=none∨∃d,findE E nm=some d∧d.y.Ok∧(v<(d.y.old:Int)∨(d.y.top:Int)<v)) (Ab:Option Addr) (nb cb:Nat):
 Calls Tryz.prog 18 #[.pointer (some ⟨cp,0,none⟩),.string nm,.int .i64 v,.slice Ab nb cb] W fun e w'=>e=.returned (.tuple #[.slice none 0 0,.int .i64 90])∧Below W.heap.size W w':=by
 have hfr:Calls Tryz.prog 34 #[.pointer (some ⟨cp,0,none⟩),.string nm,.int .i64 v] W fun e w'=>e=.returned (.tuple #[.slice none 0 0,.int .i64 90])∧Below W.heap.size W w':=by
  rcases hbad with h1|⟨d,h1,h2,h3⟩
  ·exact from_none h hn h1 v
  ·exact from_bad h hn h1 h2 v h3
 have HFR:=J0 hfr
 clear hbad hfr h
 go_enter Tryz.func18,Tryz.ntmps18
 go_wp2_with (go_at_call 34;refine HFR.out.mono ?_;rintro e w1 ⟨rfl,HB⟩)
 refine bodyPost_ret (v:=.tuple #[.slice none 0 0,.int .i64 90]) (by simp[results,Tryz.results18,go_sem, *];done) rfl ⟨rfl,HB⟩
theorem Upgrade_form {W:World} {cp mp:Nat} {E:List En} {es:List MapEntry} {clock:Nat} (h:CatIs 89 80 W cp mp E es clock) {nm:ByteArray} (hn:nm.size≤maxLen) {d:En} (hf:findE E nm=some d) (hok:d.y.Ok) (k:Nat) {x:TabV} (hx:d.xs[k]?=some x) (v:Int) (hv:v=((d.y.old+k:Nat):Int)) (b:List UInt8) (nb:Nat) (hb0:b.length=nb) (hnb:nb≤9223372036854775807) (Ab:Option Addr) (cb:Nat) (hcb:nb≤cb) (hb:Rd W Ab (bytesV b)) (hc:checkB x.t.n b=false):
 Calls Tryz.prog 18 #[.pointer (some ⟨cp,0,none⟩),.string nm,.int .i64 v,.slice Ab nb cb] W fun e w'=>e=.returned (.tuple #[.slice none 0 0,.int .i64 70])∧Below W.heap.size W w':=by
 subst hv
 have hdE:=(findE_mem hf).1
 have hd:=h.ents d hdE
 obtain⟨g,c,n,ev,hnc,hnl,_,h64,hpos,hrd⟩:=En.open hd hok
 have hkn:k<n:=by rw[←hnl];exact(J6.1 hx).1
 have hfr:=from_some h hn hf hok g c n ev k hkn
 obtain⟨_,t1,_⟩:=Rd.tab hrd hx
 have hxI:=h.tabs d hdE x (J7 hx)
 have hn16:x.t.n.length≤16:=(rightF_may (rightT_iff.1 (hok.ok x.t (by rw[←hd.tabs];exact X5.2 ⟨x,J7 hx,rfl⟩)).r).2.1).2
 obtain⟨m,hm⟩:∃m,x.t.n.length=m:=⟨_,rfl⟩
 rw[hm] at t1 hn16
 have hxn:=hxI.n.rd
 have hidx:(0:Int)<((n - k:Nat):Int):=by omega
 have hidx2:0<n - k:=by omega
 have HFR:=J0 hfr;have HM:=J0 hm;have HC:=J0 hc;have HB0:=J0 hb0
 obtain⟨old,ho⟩:∃o:Int,((d.y.old+k:Nat):Int)=o:=⟨_,rfl⟩
 rw[ho] at HFR ⊢
 obtain⟨j,hj⟩:∃j,n - k=j:=⟨_,rfl⟩
 rw[hj] at HFR hidx hidx2
 clear hfr hf hok hx hd hdE hm ev hnc hnl hrd hxI h ho hj hkn hpos hc hb0
 go_enter Tryz.func18,Tryz.ntmps18
 go_upto_region 4 with (go_at_call 34;refine HFR.out.mono ?_;rintro e w1 ⟨rfl,HB⟩)
 have t1':=cell_below (B:=0) HB t1
 have hxn':=hxn.below HB
 go_wp2_with (go_at_call 37;refine(Check_m x.t.n m HM.out (by omega) x.B x.b b nb HB0.out hnb Ab cb hcb _ hxn' (hb.below HB) false HC.out).mono ?_;rintro e w2 ⟨rfl,hb2⟩;replace HB:=HB.trans (hb2.mono HB.size);clear hb2)
 refine bodyPost_ret (v:=.tuple #[.slice none 0 0,.int .i64 70]) (by simp[results,Tryz.results18,go_sem, *];done) rfl ⟨rfl,HB⟩
theorem Upgrade_yes {W:World} {cp mp:Nat} {E:List En} {es:List MapEntry} {clock:Nat} (h:CatIs 89 80 W cp mp E es clock) {nm:ByteArray} (hn:nm.size≤maxLen) {d:En} (hf:findE E nm=some d) (hok:d.y.Ok) (k:Nat) {x:TabV} (hx:d.xs[k]?=some x) (v:Int) (hv:v=((d.y.old+k:Nat):Int)) (b:List UInt8) (nb:Nat) (hb0:b.length=nb) (Ab:Option Addr) (cb:Nat) (hcb:nb≤cb) (hb:Rd W Ab (bytesV b)) (hc:checkB x.t.n b=true) (r:List UInt8) (hr:upgL (d.y.ts.drop (k+1)) b=r) (z:Nat) (hz:r.length=z):
 Calls Tryz.prog 18 #[.pointer (some ⟨cp,0,none⟩),.string nm,.int .i64 v,.slice Ab nb cb] W fun e w'=>∃B c',e=.returned (.tuple #[.slice B z c',.int .i64 0])∧z≤c'∧Rd w' B (bytesV r)∧Below W.heap.size W w':=by
 subst hv
 have hdE:=(findE_mem hf).1
 have hd:=h.ents d hdE
 obtain⟨g,c,n,ev,hnc,hnl,_,h64,hpos,hrd⟩:=En.open hd hok
 have hkn:k<n:=by rw[←hnl];exact(J6.1 hx).1
 have hfr:=from_some h hn hf hok g c n ev k hkn
 obtain⟨_,t1,_⟩:=Rd.tab hrd hx
 have hxI:=h.tabs d hdE x (J7 hx)
 have hn16:x.t.n.length≤16:=(rightF_may (rightT_iff.1 (hok.ok x.t (by rw[←hd.tabs];exact X5.2 ⟨x,J7 hx,rfl⟩)).r).2.1).2
 obtain⟨m,hm⟩:∃m,x.t.n.length=m:=⟨_,rfl⟩
 rw[hm] at t1 hn16
 have hxn:=hxI.n.rd
 have hidx:(0:Int)<((n - k:Nat):Int):=by omega
 have hidx2:0<n - k:=by omega
 have hnb:nb≤4096:=by rw[←hb0];exact check_len hc
 have hxy:d.y.ts[k]?=some x.t:=by rw[←hd.tabs,Kv,hx];rfl
 have hch:=chain_of hok.ok hok.ch _ k x.t rfl hxy
 have hlen:d.y.ts.length=n:=by rw[←hd.tabs,Kz];exact hnl
 have hup:=upg_check hch hc
 have htab:∀W',Below W.heap.size W W'→∀(i:Nat) (t:Tb),(d.y.ts.drop (k+1))[i]?=some t→∃X:TabV,X.t=t∧W'.cell? ⟨g,(k+1+i) * 3,none⟩=some (.slice X.A t.o.length X.a)∧W'.cell? ⟨g,(k+1+i) * 3+1,none⟩=some (.slice X.B t.n.length X.b)∧W'.cell? ⟨g,(k+1+i) * 3+2,none⟩=some (.slice X.C t.m.length X.c)∧Rd W' X.A (cellsF t.o)∧Rd W' X.B (cellsF t.n)∧Rd W' X.C (cellsM t.m):=fun W' hB i t hi=>by
  rw[List.getElem?_drop,←hd.tabs,Kv] at hi
  cases hX:d.xs[k+1+i]? with
  |none=>rw[hX] at hi;cases hi
  |some X=>
   rw[hX] at hi
   obtain rfl:=Jj hi
   obtain⟨q0,q1,q2⟩:=Rd.tab (hrd.below hB) hX
   have hI:=(h.tabs d hdE X (J7 hX))
   exact⟨X,rfl,q0,q1,q2,hI.o.rd.below hB,hI.n.rd.below hB,hI.m.rd.below hB⟩
 obtain⟨ts,hts⟩:∃ts,d.y.ts.drop (k+1)=ts:=⟨_,rfl⟩
 rw[hts] at hr hup htab
 have htl:ts.length=n - k - 1:=by rw[←hts,List.length_drop,hlen];omega
 have HFR:=J0 hfr;have HM:=J0 hm;have HC:=J0 hc;have HB0:=J0 hb0;have HUP:=J0 hup;have HTAB:=J0 htab;have HR:=J0 hr;have HZ:=J0 hz
 obtain⟨old,ho⟩:∃o:Int,((d.y.old+k:Nat):Int)=o:=⟨_,rfl⟩
 rw[ho] at HFR ⊢
 obtain⟨j,hj⟩:∃j,n - k=j+1:=⟨n - k - 1,by omega⟩
 have htj:ts.length=j:=by omega
 have HTL:=J0 htj
 rw[hj] at HFR hidx hidx2
 have hj64:j≤64:=by omega
 clear hfr hf hok hx hd hdE hm ev hnc hnl hrd hxI h ho hj hkn hpos hc hb0 hup htab hr hz hch hlen hxy hts htl htj
 go_enter Tryz.func18,Tryz.ntmps18
 go_upto_region 4 with (go_at_call 34;refine HFR.out.mono ?_;rintro e w1 ⟨rfl,HB⟩)
 have t1':=cell_below (B:=0) HB t1
 have hxn':=hxn.below HB
 have hb1:=hb.below HB
 go_upto_region 7 with (first
  |(go_at_call 37;refine(Check_m x.t.n m HM.out (by omega) x.B x.b b nb HB0.out (by omega) Ab cb hcb _ hxn' hb1 true HC.out).mono ?_;rintro e w2 ⟨rfl,hb2⟩;replace HB:=HB.trans (hb2.mono HB.size);replace hb1:=hb1.below hb2;clear hb2)
  |(go_at_call 38;refine(Clone_m Ab nb cb b HB0.out _ hb1 (by omega)).mono ?_;rintro e w3 ⟨B,cB,rfl,hcB,hrB,hb3⟩;replace HB:=HB.trans (hb3.mono HB.size);clear hb3))
 have HBs:=HB
 clear HB t1' hxn' hb1
 cases j with
 |zero=>
  have hr0:r=b:=by
   have h1:=HTL.out
   have h2:=HR.out
   rw[List.eq_nil_of_length_eq_zero h1] at h2
   exact h2.symm
  subst hr0
  have hzz:nb=z:=HB0.out.symm.trans HZ.out
  subst hzz
  clear HTAB HUP
  go_upto_region 8 with fail
  go_loopw [3,11,13,36] (fun vb ve _ vi wr=>vb=.slice B nb cB∧ve=.int .i64 0∧vi=.int .i64 0∧wr=w3) (fun _ _ _ _ _=>0)
  case atStart=>exact⟨rfl,rfl,rfl,rfl⟩
  case round=>
   obtain⟨rfl,rfl,rfl,rfl⟩:=hrel
   go_wp2
   refine bodyPost_ret (v:=.tuple #[.slice B nb cB,.int .i64 0]) (by simp[results,Tryz.results18,go_sem, *];done) rfl ⟨B,cB,rfl,hcB,hrB,HBs⟩
 |succ j=>
  have q1:¬(j+1+1=1):=by omega
  have q2:1≤j+1+1:=by omega
  go_upto_region 8 with fail
  obtain⟨J,hJ⟩:∃J,j+1=J:=⟨_,rfl⟩
  have hJ2:((j:Int)+1)=(J:Int):=by omega
  have hJ3:j+1+1=J+1:=by omega
  obtain⟨ad,had⟩:∃ad:Addr,ad=⟨g,k * 3+3,none⟩:=⟨_,rfl⟩
  rw[←had,hJ3,hJ2,hJ]
  rw[hJ] at HTL
  have hJ64:J≤64:=by omega
  have htab2:∀W',Below W.heap.size W W'→∀(i:Nat) (t:Tb),ts[i]?=some t→∃X:TabV,X.t=t∧W'.cell? (ad.add (i * 3))=some (.slice X.A t.o.length X.a)∧W'.cell? ⟨(ad.add (i * 3)).block,(ad.add (i * 3)).off+(0+1),none⟩=some (.slice X.B t.n.length X.b)∧W'.cell? ⟨(ad.add (i * 3)).block,(ad.add (i * 3)).off+(1+1),none⟩=some (.slice X.C t.m.length X.c)∧Rd W' X.A (cellsF t.o)∧Rd W' X.B (cellsF t.n)∧Rd W' X.C (cellsM t.m):=fun W' hB i t hi=>by
   obtain⟨X,e,q0,q1,q2,r⟩:=HTAB.out W' hB i t hi
   have ha:ad.add (i * 3)=⟨g,(k+1+i) * 3,none⟩:=by rw[had,Addr.add_lit];congr 1;omega
   rw[ha]
   exact⟨X,e,q0,q1,q2,r⟩
  have HT2:=J0 htab2
  clear htab2 HTAB q1 q2 hJ hJ2 hJ3 had hj64
  go_loopw [3,11,13,36] (fun vb ve _ vi wr=>∃(i:Nat) (B:Option Addr) (z0 c0:Nat) (cur:List UInt8),i≤J∧vi=.int .i64 i∧vb=.slice B z0 c0∧ve=.int .i64 0∧Hid (upgL (ts.take i) b=cur)∧Hid (cur.length=z0)∧z0≤c0∧Rd wr B (bytesV cur)∧Below W.heap.size W wr) (fun _ _ _ vi _=>J - (intOf vi).toNat)
  case atStart=>exact⟨0,B,nb,cB,b,X8 _,rfl,rfl,rfl,J0 rfl,HB0,hcB,hrB,HBs⟩
  case round=>
   obtain⟨i,B2,z0,c0,cur,hi,rfl,rfl,rfl,hcur,hz0,hc0,hrB2,HB⟩:=hrel
   clear HBs hrB hcB
   by_cases hlt:i<J
   ·obtain⟨t,ht⟩:∃t,ts[i]?=some t:=⟨_,J4 (by rw[HTL.out];exact hlt)⟩
    obtain⟨hck,htok⟩:=(HUP.out i (by rw[HTL.out];omega)).1 t ht
    rw[hcur.out] at hck
    obtain⟨X,hXt,d0,d1,d2,r0,r1,r2⟩:=HT2.out wr HB i t ht
    obtain⟨no,hno⟩:∃y,t.o.length=y:=⟨_,rfl⟩
    obtain⟨nn,hnn⟩:∃y,t.n.length=y:=⟨_,rfl⟩
    obtain⟨nm',hnm⟩:∃y,t.m.length=y:=⟨_,rfl⟩
    obtain⟨z1,hz1⟩:∃y,sizeF t.n=y:=⟨_,rfl⟩
    rw[hno] at d0;rw[hnn] at d1;rw[hnm] at d2
    have hnx:=upg_take ht b
    rw[hcur.out,hnn] at hnx
    have hln:=outL_len htok.r htok.w (vs:=valsL t.o cur) (by simp[valsL]) (vals_fit hck) (k:=t.n.length) (J9 _)
    rw[hnn,hz1] at hln
    have HNX:=J0 hnx;have HLN:=J0 hln;have HNO:=J0 hno;have HNN:=J0 hnn;have HNM:=J0 hnm;have HZ1:=J0 hz1;have HCK:=J0 hck;have HTO:=J0 htok
    have nb1:=below_new (w:=wr) (.cells #[.slice X.A no X.a,.slice X.B nn X.b,.slice X.C nm' X.c] 96)
    have P:=OBox.new wr [.slice X.A no X.a,.slice X.B nn X.b,.slice X.C nm' X.c] 96
    have hB1:=HB.trans (nb1.mono HB.size)
    have r0':=r0.below nb1
    have r1':=r1.below nb1
    have r2':=r2.below nb1
    have rB':=hrB2.below nb1
    clear ht hXt hno hnn hnm hz1 hnx hln hck htok r0 r1 r2 hrB2
    go_upto_region 10 with fail
    generalize wr.alloc (.cells #[.slice X.A no X.a,.slice X.B nn X.b,.slice X.C nm' X.c] 96)=W5 at *
    obtain⟨p0,p1,p2,_,_,_⟩:=P.f3
    clear d0 d1 d2
    go_wp2_with (go_at_call 39;refine(tApply_m t X.A X.B X.C X.a X.b X.c no nn nm' HNO.out HNN.out HNM.out HTO.out.r HTO.out.w (valsL t.o cur) (by rw[←HNO.out];simp[valsL]) (vals_fit HCK.out) cur z0 hz0.out ((checkB_iff.1 HCK.out).2.1.symm.trans hz0.out) (vals_get HCK.out) B2 c0 hc0 z1 HZ1.out _ r0' r1' r2' rB').mono ?_;rintro e w6 ⟨B3,c3,rfl,hc3,r3,hb3⟩;replace hB1:=hB1.trans (hb3.mono hB1.size))
    go_roundw
    case rel=>exact⟨i+1,B3,z1,c3,_,by omega,by go_num,rfl,rfl,HNX,HLN,hc3,r3,hB1⟩
    case measure=>simp[intOf];omega
   ·obtain rfl:i=J:=by omega
    have hrc:r=cur:=by
     rw[←hcur.out,Vz (by rw[HTL.out];exact J9 _)]
     exact HR.out.symm
    subst hrc
    have hzz:z0=z:=hz0.out.symm.trans HZ.out
    subst hzz
    clear HUP HT2
    go_wp2
    refine bodyPost_ret (v:=.tuple #[.slice B2 z0 c0,.int .i64 0]) (by simp[results,Tryz.results18,go_sem, *];done) rfl ⟨B2,c0,rfl,hc0,hrB2,HB⟩
def mvT (t:Tb) (vs:List Vl) (k:Nat):List Vl:=(List.range k).map (mvV t vs)
theorem mvT_succ (t:Tb) (vs:List Vl) (k:Nat):cellsVl (mvT t vs (k+1))=cellsVl (mvT t vs k)++[.int .i64 (mvV t vs k).k,.int .u64 (mvV t vs k).b,.string (mvV t vs k).t]:=by
 rw[mvT,mvT,List.range_succ]
 simp[cellsVl]
theorem mvT_at {t:Tb} {vs:List Vl} {n k:Nat} (h:k<n):(mvT t vs n)[k]?=some (mvV t vs k):=by
 rw[mvT,Kv,List.getElem?_range h];rfl
theorem obj_out {t:Tb} {vs:List Vl} {n:Nat} (hn:n≤t.n.length):∀k,k≤n→objL t.n (mvT t vs n) k=outL t vs k:=by
 intro k
 induction k with
 |zero=>intro _;rfl
 |succ k ih=>
  intro hk
  have hg:t.n[k]?=some (t.n[k]'(by omega)):=J4 (by omega)
  rw[objL,outL,hg,mvT_at (by omega),ih (by omega)]
theorem mvT_fit {t:Tb} (ht:rightT t=true) (hw:MvW t.m) {vs:List Vl} (hlen:t.o.length≤vs.length) (hv:FitV t.o vs) {n:Nat}:FitV t.n (mvT t vs n):=by
 intro k f v hf hk
 have hkn:k<n:=by have:=(J6.1 hk).1;simpa[mvT] using this
 rw[mvT_at hkn] at hk
 obtain rfl:=Jj hk
 exact mvV_ok ht hw hlen hv hf
theorem rApply_m (t:Tb) (O N M:Option Addr) (co cn cm no nn nm:Nat) (hno:t.o.length=no) (hnn:t.n.length=nn) (hnm:t.m.length=nm) (ht:TOk t) (s:ByteArray) (b:List UInt8) (hsb:bl s=b) (hc:checkB t.o b=true) (z:ByteArray) (hz:strL (outL t (valsL t.o b) nn)=z) (w:World) (r0:Rd w O (cellsF t.o)) (r1:Rd w N (cellsF t.n)) (r2:Rd w M (cellsM t.m)):
 Calls Tryz.prog 43 #[.agg #[.slice O no co,.slice N nn cn,.slice M nm cm],.string s] w fun e w'=>e=.returned (.tuple #[.string z,.int .i64 0])∧Below w.heap.size w w':=by
 obtain⟨i0,hi,hz0,hz1,hz2⟩:=info_parts infoVal
 obtain⟨vs,hvs⟩:∃vs,valsL t.o b=vs:=⟨_,rfl⟩
 obtain⟨s0,s1,s2⟩:=rightT_16 ht.r
 rw[hno] at s0;rw[hnn] at s1;rw[hnm] at s2
 have hmn:nm=nn:=by rw[←hnm,←hnn];exact(rightT_iff.1 ht.r).2.2.1
 have hlen:no=vs.length:=by rw[←hvs,←hno];simp[valsL]
 have hfit:FitV t.o vs:=by rw[←hvs];exact vals_fit hc
 rw[hvs] at hz
 have T:=OBox.new w [.slice O no co,.slice N nn cn,.slice M nm cm] 110
 have HB:=below_new (w:=w) (.cells #[.slice O no co,.slice N nn cn,.slice M nm cm] 110)
 obtain⟨T0,T1,T2,_,_,_⟩:=T.f3
 have HNO:=J0 hno;have HNN:=J0 hnn;have HNM:=J0 hnm;have HT:=J0 ht;have HSB:=J0 hsb;have HC:=J0 hc;have HZ:=J0 hz;have HMN:=J0 hmn;have HLEN:=J0 hlen;have HFIT:=J0 hfit;have HVS:=J0 hvs
 clear hno hnn hnm ht hsb hc hz hmn hlen hfit hvs
 go_enter Tryz.func43,Tryz.ntmps43
 go_upto_region 4 with (first
  |(go_at_call 41;refine(rValues_m s b HSB.out O co no t.o HNO.out (by omega) true HC.out _ (r0.below HB) HT.out.o.fds).mono ?_;rintro e W1 ⟨B,kB,d,rfl,hV1,hb1⟩;obtain⟨hkB,hd,RV⟩:=hV1 rfl;subst kB;replace HB:=HB.trans (hb1.mono HB.size);replace T:=T.below hb1;clear T0 T1 T2;obtain⟨T0,T1,T2,_,_,_⟩:=T.f3;clear hb1 hV1)
  |(go_at_call 79;refine(rTRight_m t O N M co cn cm no nn nm HNO.out HNN.out HNM.out (by omega) (by omega) (by omega) HT.out.w HT.out.o.fds HT.out.n.fds _ (r0.below HB) (r1.below HB) (r2.below HB)).mono ?_;rintro e W2 ⟨rfl,hb1⟩;rw[HT.out.r];replace RV:=RV.below hb1;replace HB:=HB.trans (hb1.mono HB.size);replace T:=T.below hb1;clear T0 T1 T2;obtain⟨T0,T1,T2,_,_,_⟩:=T.f3;clear hb1))
 rw[HVS.out] at RV
 go_upto_region 6 with fail
 have HB2:=HB
 have hwz:=T.lt
 clear T0 T1 T2 HB
 go_loopw [8,9,10,11,12] (fun o i _ _ _ wr=>∃(k:Nat),k≤nm∧i=.int .i64 k∧wr.ownsRow W2.heap.size 71 3 o k (cellsVl (mvT t vs k))∧Below W2.heap.size W2 wr) (fun _ i _ _ _ _=>nm - (intOf i).toNat)
 case atStart=>exact⟨0,by omega,rfl,own_nil _ _ _ _,Jy _ _⟩
 case round=>
  obtain⟨k,hk1,rfl,hown,hbr⟩:=hrel
  obtain⟨T0,T1,T2,_,_,_⟩:=(T.below hbr).f3
  have HBr:=HB2.trans (hbr.mono HB2.size)
  by_cases hlt:k<nm
  ·obtain⟨x,hx⟩:∃x,t.m[k]?=some x:=⟨_,J4 (by rw[HNM.out];exact hlt)⟩
   obtain⟨g,hg⟩:∃y,t.n[k]?=some y:=⟨_,J4 (by rw[HNN.out,←HMN.out];exact hlt)⟩
   obtain⟨y,hy⟩:∃y,mvV t vs k=y:=⟨_,rfl⟩
   have hms:=mvT_succ t vs k
   rw[hy] at hms
   have hj0:(0:Int)≤(k:Int):=by omega
   have hj1:(k:Int)<(nm:Int):=by omega
   have hj2:(k:Int)<(nn:Int):=by have:=HMN.out;omega
   obtain⟨md,em,c0,c1,c2,c3⟩:=(r2.below HBr).mv hx
   obtain⟨gd,eg,_,_,_⟩:=r1.fld hg
   subst em eg
   have UB:OBox (wr.alloc (.cells #[.int .i64 x.d.k,.int .u64 x.d.b,.string x.d.t] 71)) wr.heap.size [.int .i64 x.d.k,.int .u64 x.d.b,.string x.d.t] 71:=OBox.new wr _ _
   have nb5:=below_new (w:=wr) (.cells #[.int .i64 x.d.k,.int .u64 x.d.b,.string x.d.t] 71)
   have HX:=J0 hx;have HG:=J0 hg;have HY:=J0 hy;have HMS:=J0 hms
   clear hx hg hy hms
   go_upto_region 9 with fail
   generalize wr.alloc (.cells #[.int .i64 x.d.k,.int .u64 x.d.b,.string x.d.t] 71)=W5 at *
   clear T0 T1 T2 c0 c1 c2 c3
   obtain⟨u,hu⟩:∃u,wr.heap.size=u:=⟨_,rfl⟩
   have hb5:=hbr.trans (nb5.mono hbr.size)
   have HB5:=HB2.trans (hb5.mono HB2.size)
   have hu5:u<W5.heap.size:=by rw[←hu];exact UB.lt
   rw[hu] at UB ⊢
   have HU:=J0 hu
   clear hu
   obtain⟨T0,T1,T2,_,_,_⟩:=(T.below hb5).f3
   obtain⟨_,em,c0,c1,c2,c3⟩:=(r2.below HB5).mv HX.out
   cases em
   go_upto_if 46 with fail
   go_cut [11,12] (fun _ _ wx=>OBox wx u [.int .i64 y.k,.int .u64 y.b,.string y.t] 71∧Below wr.heap.size wr wx)
   case first=>
    by_cases hxf:0≤x.f
    ·have e1:decide ((0:Int)≤x.f)=true:=by simpa using hxf
     have hkk:okAt t k=true:=(rightT_iff.1 HT.out.r).2.2.2 k (J6.1 HX.out).1
     rw[okAt_mk HX.out HG.out] at hkk
     obtain⟨_,_,f,hof,_⟩:=okMv_pos (by omega) hkk
     have hlo:x.f.toNat<no:=by rw[←HNO.out];exact(J6.1 hof).1
     have hxl:x.f<(no:Int):=by omega
     obtain⟨v,hvx⟩:∃v,vs[x.f.toNat]?=some v:=⟨_,J4 (by have:=HLEN.out;omega)⟩
     obtain⟨_,vb0,vb1⟩:=HFIT.out _ f v hof hvx
     have hyc:castL v f g=y:=by rw[←HY.out];unfold mvV;rw[HX.out,HG.out];simp only;rw[if_pos hxf,hvx,hof]
     have hcv:=castL_va v f g
     rw[hyc] at hcv
     obtain⟨od,eo,_,_,_⟩:=r0.fld hof
     obtain⟨vd,ev,_,_,_⟩:=RV.vl hvx
     subst eo ev
     have HCV:=J0 hcv;have HOF:=J0 hof;have HVX:=J0 hvx
     clear hkk hvx hyc hcv hof
     go_upto_region 10 with fail
     have hall:∀W,Below W5.heap.size W5 W→W.cell? ⟨w.heap.size,0,none⟩=some (.slice (some od) no co)∧W.cell? ⟨w.heap.size,1,none⟩=some (.slice (some gd) nn cn)∧W.cell? ⟨w.heap.size,2,none⟩=some (.slice (some md) nm cm)∧W.cell? (md.add (k * 4))=some (.int .i64 x.f)∧W.cell? (vd.add (x.f.toNat * 3))=some (.int .i64 v.k)∧W.cell? ⟨(vd.add (x.f.toNat * 3)).block,(vd.add (x.f.toNat * 3)).off+(0+1),none⟩=some (.int .u64 v.b)∧W.cell? ⟨(vd.add (x.f.toNat * 3)).block,(vd.add (x.f.toNat * 3)).off+(1+1),none⟩=some (.string v.t)∧W.cell? (od.add (x.f.toNat * 3))=some (.string f.s)∧W.cell? ⟨(od.add (x.f.toNat * 3)).block,(od.add (x.f.toNat * 3)).off+(0+1),none⟩=some (.int .i64 f.k)∧W.cell? ⟨(od.add (x.f.toNat * 3)).block,(od.add (x.f.toNat * 3)).off+(1+1),none⟩=some (.int .i64 f.l)∧W.cell? (gd.add (k * 3))=some (.string g.s)∧W.cell? ⟨(gd.add (k * 3)).block,(gd.add (k * 3)).off+(0+1),none⟩=some (.int .i64 g.k)∧W.cell? ⟨(gd.add (k * 3)).block,(gd.add (k * 3)).off+(1+1),none⟩=some (.int .i64 g.l)∧Below W5.heap.size W5 W:=fun W hbW=>by
      have hbw:=HB5.trans (hbW.mono HB5.size)
      obtain⟨_,ea,a0,a1,a2⟩:=(r0.below hbw).fld HOF.out
      cases ea
      obtain⟨_,eb,b0,b1,b2⟩:=(r1.below hbw).fld HG.out
      cases eb
      obtain⟨_,ec,m0,_,_,_⟩:=(r2.below hbw).mv HX.out
      cases ec
      obtain⟨_,ed,v0,v1,v2⟩:=((RV.below hb5).below hbW).vl HVX.out
      cases ed
      obtain⟨t0,t1,t2,_,_,_⟩:=((T.below hb5).below hbW).f3
      exact⟨t0,t1,t2,m0,v0,v1,v2,a0,a1,a2,b0,b1,b2,hbW⟩
     go_cut [11,12] (fun s11 s12 wx=>∃q z,s11=.pointer (some ⟨q,0,none⟩)∧s12=.int .i64 z∧OBox wx q [.int .i64 y.k,.int .u64 y.b,.string y.t] 71∧Below W5.heap.size W5 wx∧W5.heap.size≤q)
     case first=>
      go_region_held3 (fun W=>W.cell? ⟨w.heap.size,0,none⟩=some (.slice (some od) no co)∧W.cell? ⟨w.heap.size,1,none⟩=some (.slice (some gd) nn cn)∧W.cell? ⟨w.heap.size,2,none⟩=some (.slice (some md) nm cm)∧W.cell? (md.add (k * 4))=some (.int .i64 x.f)∧W.cell? (vd.add (x.f.toNat * 3))=some (.int .i64 v.k)∧W.cell? ⟨(vd.add (x.f.toNat * 3)).block,(vd.add (x.f.toNat * 3)).off+(0+1),none⟩=some (.int .u64 v.b)∧W.cell? ⟨(vd.add (x.f.toNat * 3)).block,(vd.add (x.f.toNat * 3)).off+(1+1),none⟩=some (.string v.t)∧W.cell? (od.add (x.f.toNat * 3))=some (.string f.s)∧W.cell? ⟨(od.add (x.f.toNat * 3)).block,(od.add (x.f.toNat * 3)).off+(0+1),none⟩=some (.int .i64 f.k)∧W.cell? ⟨(od.add (x.f.toNat * 3)).block,(od.add (x.f.toNat * 3)).off+(1+1),none⟩=some (.int .i64 f.l)∧W.cell? (gd.add (k * 3))=some (.string g.s)∧W.cell? ⟨(gd.add (k * 3)).block,(gd.add (k * 3)).off+(0+1),none⟩=some (.int .i64 g.k)∧W.cell? ⟨(gd.add (k * 3)).block,(gd.add (k * 3)).off+(1+1),none⟩=some (.int .i64 g.l)∧Below W5.heap.size W5 W) ((refine hall _ ?_;(repeat (first|assumption|exact Jy _ _|refine J8 ?_ (by dsimp only;first|exact J9 _|omega|(simp;done)) _|refine Jk ?_ (by first|exact J9 _|omega|(simp;done)) _|apply Jv))))
       (first
         |(go_at_call 80;obtain⟨_,_,_,_,_,_,_,_,_,_,_,_,_,HBx⟩:=‹_∧_∧_∧_∧_∧_∧_∧_∧_∧_∧_∧_∧_∧Below W5.heap.size W5 _›;refine(rCast_is v.k v.b v.t f.s g.s f.k f.l g.k g.l vb0 vb1 _ _ HCV.out rfl _).mono ?_;rintro e' W8 ⟨rfl,hb8⟩;have HB8:Below W5.heap.size W5 W8:=below_seq HBx hb8;have hz8:=HB8.size;(first|(have VB:=OBox.below (OBox.new _ [.int .i64 0,.int .u64 0,.string ⟨#[]⟩] 71) hb8)|(have VB:=OBox.newB (cs:=[.int .i64 0,.int .u64 0,.string ⟨#[]⟩]) hb8)|skip);(first|(obtain⟨v0,v1,v2,v3,v4,v5⟩:=VB.f3)|skip)))
      all_goals (go_wp2_with fail;go_meet;refine⟨_,_,rfl,rfl,?_,?_,?_⟩)
      all_goals first
       |exact OBox.new _ _ _
       |(exact obox_set (obox_set (obox_set VB 0 _) 1 _) 2 _)
       |exact J9 _
       |exact hz8
       |(repeat (first|assumption|exact Jy _ _|refine J8 ?_ (by dsimp only;first|exact J9 _|omega|(simp;done)) _|refine Jk ?_ (by first|exact J9 _|omega|(simp;done)) _|apply Jv))
     case rest=>
      obtain⟨q,e9,rfl,rfl,VB,hb6,hq⟩:=hcut
      clear hall T0 T1 T2 c0 c1 c2 c3
      have U6:=UB.below hb6
      obtain⟨v0,v1,v2⟩:=VBox3 VB
      obtain⟨u0,u1,u2,u3,u4,u5⟩:=U6.f3
      have hb56:=nb5.trans (hb6.mono nb5.size)
      have hu6:wr.heap.size≤u:=Nat.le_of_eq HU.out
      go_wp2_with fail
      go_meet
      refine⟨?_,?_⟩
      ·exact obox_set (obox_set (obox_set U6 0 (.int .i64 y.k)) 1 (.int .u64 y.b)) 2 (.string y.t)
      ·exact((hb56.setCell (p:=⟨u,0,none⟩) hu6 _).setCell (p:=⟨u,1,none⟩) hu6 _).setCell (p:=⟨u,2,none⟩) hu6 _
    ·have e1:decide ((0:Int)≤x.f)=false:=by simpa using hxf
     obtain rfl:x.d=y:=by rw[←HY.out];unfold mvV;rw[HX.out,HG.out];simp only;rw[if_neg hxf]
     go_wp2_with fail
     go_meet
     exact⟨UB,nb5⟩
   case rest=>
    obtain⟨YB,hb9⟩:=hcut
    clear T0 T1 T2 c0 c1 c2 c3 UB nb5 hb5 HB5 HBr
    rename World=>W9
    have hb29:=hbr.trans (hb9.mono hbr.size)
    replace hown:=own_below hown hb9
    obtain⟨v0,v1,v2⟩:=VBox3 YB
    go_wp2_with (at_builtin;refine wpList_append_own _ rfl _ _ 103 rfl W2.heap.size 71 i0 (.agg #[.int .i64 0,.int .u64 0,.string ⟨#[]⟩]) 3 32 Tryz.underlying103 hi hz0 hz1 hz2 rfl (by decide) _ _ _ rfl (hown.alloc _) ⟨W9.heap.size,0,none⟩ 1 1 [.int .i64 y.k,.int .u64 y.b,.string y.t] rfl rfl ?c1 ?c2 ?c3 ?c4 ?c5 ?_)
    case c1=>exact news3 _ _ _ _ _
    case c2=>intro u hu;simp at hu;rcases hu with rfl|rfl|rfl <;> rfl
    case c3=>simp only[maxLen];omega
    case c4=>omega
    case c5=>have:=hb29.size;simp;omega
    intro v' w4 hown' hgrow _
    have BG:Below W2.heap.size W2 w4:=(hb29.alloc hb29.size (.cells #[.int .i64 y.k,.int .u64 y.b,.string y.t] 71)).grown hgrow (by have:=hb29.size;simp;omega) (fun q hq=>own_base hown q hq)
    have hown4:w4.ownsRow W2.heap.size 71 3 v' (k+1) (cellsVl (mvT t vs (k+1))):=own_eq hown' (by simp) (by rw[HMS.out])
    clear hown' hgrow hown v0 v1 v2
    go_wp2
    go_roundw
    case rel=>exact⟨k+1,by omega,by go_num,hown4,BG⟩
    case measure=>simp[intOf];omega
  ·obtain rfl:k=nm:=by omega
   obtain⟨B',c',rfl,hd',hm',hrd⟩:=own_rd hown
   have hlm:(mvT t vs k).length=k:=by simp[mvT]
   have hobj:strL (objL t.n (mvT t vs k) nn)=z:=by rw[obj_out (by rw[HNN.out];exact Nat.le_of_eq HMN.out) nn (Nat.le_of_eq HMN.out.symm)];exact HZ.out
   have hft:FitV t.n (mvT t vs k):=mvT_fit HT.out.r HT.out.w (by rw[HNO.out];exact Nat.le_of_eq HLEN.out) HFIT.out
   have HOBJ:=J0 hobj;have HFT:=J0 hft;have HLM:=J0 hlm
   clear hobj hft hlm
   go_wp2_with (go_at_call 81;refine(Object_m t.n nn HNN.out (by omega) (rightT_iff.1 HT.out.r).2.1 HT.out.n N cn (mvT t vs k) k HLM.out (Nat.le_of_eq HMN.out.symm) (by omega) HFT.out B' c' z HOBJ.out _ (r1.below HBr) hrd).mono ?_;rintro e W6 ⟨rfl,hb6⟩)
   refine bodyPost_ret (v:=.tuple #[.string z,.int .i64 0]) (by simp[results,Tryz.results43,go_sem, *];done) rfl ⟨rfl,HBr.trans (hb6.mono HBr.size)⟩
end
end Go.Proofs.YteembinfgbapgaaGreat
