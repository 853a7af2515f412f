/- Merged out of: Ub Uc Sn Tn. -/
import Derived.Test.YteembinfgbapgaaGreatA34
import Derived.Test.YteembinfgbapgaaGreatA35
import Derived.Shelf.SlGeneric
import Derived.Shelf.SlIter.Nil
import Derived.Shelf.SortM.Plain
import Derived.Shelf.SortM.SortNone
import Derived.Ground.GgzProg
import Derived.Ground.SlgmProg
import Derived.Test.YteembinfgbapgaaGreatProg
import Derived.Test.YteembinfgbapgaaGreatA30
set_option linter.unusedSimpArgs false
set_option linter.unusedVariables false
set_option maxRecDepth 100000
set_option maxHeartbeats 8000000
namespace Go.Proofs.YteembinfgbapgaaGreat
section
open Go.RowKit Go.Lib Go.Maps
theorem get_right {l:List Fd} {b:List UInt8} (hc:checkB l b=true) {k:Nat} {f:Fd} (hf:l[k]?=some f):rightB (getV b l f.s).k (getV b l f.s).b (getV b l f.s).t f.k f.l=true∧0≤(getV b l f.s).b∧(getV b l f.s).b<18446744073709551616:=by
 obtain⟨hr,hl,he⟩:=checkB_iff.1 hc
 obtain⟨at_,_,e⟩:=loc_name hr hf hl
 have he1:=he f (List.mem_of_getElem? hf)
 unfold getE at he1
 rw[e] at he1
 unfold getV
 rw[e]
 simp only at he1 ⊢
 have hd:decB ((b.drop at_).take f.n) f.k f.l=true:=by
  unfold decE at he1
  split at he1
  ·assumption
  ·exact absurd he1 (by decide)
 rw[decF,if_pos hd]
 unfold decB at hd
 rw[Bool.and_eq_true] at hd
 exact⟨hd.2,decZ_bd _ _ _⟩
theorem vals_fit {l:List Fd} {b:List UInt8} (hc:checkB l b=true):FitV l (valsL l b):=by
 intro k f v hf hv
 rw[valsL,List.getElem?_map,hf] at hv
 obtain rfl:=Option.some.inj hv
 exact get_right hc hf
theorem vals_get {l:List Fd} {b:List UInt8} (hc:checkB l b=true):∀(k:Nat) (f:Fd),l[k]?=some f→getE b l f.s=0∧∀v,(valsL l b)[k]?=some v→getV b l f.s=v:=by
 intro k f hf
 refine⟨(checkB_iff.1 hc).2.2 f (List.mem_of_getElem? hf),fun v hv=>?_⟩
 rw[valsL,List.getElem?_map,hf] at hv
 exact Option.some.inj hv
theorem out_check {t:Tb} (ht:TOk t) {b:List UInt8} (hc:checkB t.o b=true):checkB t.n (outL t (valsL t.o b) t.n.length)=true:=by
 have hlen:t.o.length≤(valsL t.o b).length:=by simp[valsL]
 have hf:=vals_fit hc
 rw[checkB_iff]
 refine⟨(rightT_iff.1 ht.r).2.1,outL_len ht.r ht.w hlen hf (Nat.le_refl _),fun f hm=>?_⟩
 obtain⟨k,hk⟩:=List.mem_iff_getElem?.1 hm
 exact(outL_get ht.r ht.w hlen hf hk).1
def ChainT (l:List Fd):List Tb→Prop
 |[]=>True
 |t :: r=>t.o=l∧TOk t∧ChainT t.n r
theorem chain_of {ts:List Tb} (hok:∀x∈ts,TOk x) (hch:∀(i:Nat) (a b:Tb),ts[i]?=some a→ts[i+1]?=some b→b.o=a.n):∀(j k:Nat) (a:Tb),ts.length - k=j→ts[k]?=some a→ChainT a.n (ts.drop (k+1)):=by
 intro j
 induction j with
 |zero=>intro k a hj ha;have:=(List.getElem?_eq_some_iff.1 ha).1;omega
 |succ j ih=>
  intro k a hj ha
  cases hb:ts[k+1]? with
  |none=>
   rw[List.drop_eq_nil_of_le (by rw[List.getElem?_eq_none_iff] at hb;exact hb)]
   trivial
  |some b=>
   have hlt:=(List.getElem?_eq_some_iff.1 hb).1
   have e:ts.drop (k+1)=b :: ts.drop (k+1+1):=by
    rw[List.drop_eq_getElem_cons hlt]
    congr 1
    exact(List.getElem?_eq_some_iff.1 hb).2
   rw[e]
   exact⟨hch k a b ha hb,hok b (List.mem_of_getElem? hb),ih (k+1) b (by omega) hb⟩
theorem upg_take {ts:List Tb} {i:Nat} {t:Tb} (h:ts[i]?=some t) (b:List UInt8):upgL (ts.take (i+1)) b=outL t (valsL t.o (upgL (ts.take i) b)) t.n.length:=by
 rw[List.take_add_one,h]
 simp[upgL,List.foldl_append]
theorem upg_check {l:List Fd} {ts:List Tb} (hc:ChainT l ts) {b:List UInt8} (hb:checkB l b=true):∀i,i≤ts.length→(∀t,ts[i]?=some t→checkB t.o (upgL (ts.take i) b)=true∧TOk t)∧(i=ts.length→∃l',checkB l' (upgL (ts.take i) b)=true):=by
 induction ts generalizing l b with
 |nil=>intro i hi;obtain rfl:i=0:=by simpa using hi
       exact⟨fun t ht=>by simp at ht,fun _=>⟨l,hb⟩⟩
 |cons t r ih=>
  obtain⟨rfl,hok,hr⟩:=hc
  intro i hi
  cases i with
  |zero=>exact⟨fun x hx=>by simp at hx;subst hx;exact⟨hb,hok⟩,fun h=>by simp at h⟩
  |succ i=>
   have:=ih hr (out_check hok hb) i (by simpa using hi)
   exact⟨fun x hx=>this.1 x (by simpa using hx),fun h=>this.2 (by simpa using h)⟩
theorem check_len {l:List Fd} {b:List UInt8} (h:checkB l b=true):b.length≤4096:=by
 obtain⟨hr,hl,_⟩:=checkB_iff.1 h
 rw[hl]
 exact sizeF_le l
theorem Clone_m (A:Option Addr) (nb c:Nat) (b:List UInt8) (hb0:b.length=nb) (w:World) (hA:Rd w A (bytesV b)) (hl:nb≤140737488355328):
 Calls Tryz.prog 38 #[.slice A nb c] w fun e w'=>∃B c',e=.returned (.slice B nb c')∧nb≤c'∧Rd w' B (bytesV b)∧Below w.heap.size w w':=by
 subst hb0
 refine(Clone_calls A c b w hA hl).mono ?_
 rintro e w' ⟨v,rfl,own,hb⟩
 obtain⟨B,d,rfl,h1,_,r⟩:=own_rd own
 exact⟨B,d,rfl,h1,r,hb⟩
theorem Upgrade_no {W:World} {cp mp:Nat} {E:List En} {es:List MapEntry} {clock:Nat} (h:CatIs 89 80 W cp mp E es clock) {nm:ByteArray} (hn:nm.size≤maxLen) (v:Int) (hbad:findE E nm=none∨∃d,findE E nm=some d∧d.y.Ok∧(v<(d.y.old:Int)∨(d.y.top:Int)<v)) (Ab:Option Addr) (nb cb:Nat):
 Calls Tryz.prog 18 #[.pointer (some ⟨cp,0,none⟩),.string nm,.int .i64 v,.slice Ab nb cb] W fun e w'=>e=.returned (.tuple #[.slice none 0 0,.int .i64 90])∧Below W.heap.size W w':=by
 have hfr:Calls Tryz.prog 34 #[.pointer (some ⟨cp,0,none⟩),.string nm,.int .i64 v] W fun e w'=>e=.returned (.tuple #[.slice none 0 0,.int .i64 90])∧Below W.heap.size W w':=by
  rcases hbad with h1|⟨d,h1,h2,h3⟩
  ·exact from_none h hn h1 v
  ·exact from_bad h hn h1 h2 v h3
 have HFR:=Lib.hid hfr
 clear hbad hfr h
 go_enter Tryz.func18,Tryz.ntmps18
 go_wp2_with (go_at_call 34;refine HFR.out.mono ?_;rintro e w1 ⟨rfl,HB⟩)
 refine bodyPost_ret (v:=.tuple #[.slice none 0 0,.int .i64 90]) (by simp[results,Tryz.results18,go_sem, *];done) rfl ⟨rfl,HB⟩
theorem Upgrade_form {W:World} {cp mp:Nat} {E:List En} {es:List MapEntry} {clock:Nat} (h:CatIs 89 80 W cp mp E es clock) {nm:ByteArray} (hn:nm.size≤maxLen) {d:En} (hf:findE E nm=some d) (hok:d.y.Ok) (k:Nat) {x:TabV} (hx:d.xs[k]?=some x) (v:Int) (hv:v=((d.y.old+k:Nat):Int)) (b:List UInt8) (nb:Nat) (hb0:b.length=nb) (hnb:nb≤9223372036854775807) (Ab:Option Addr) (cb:Nat) (hcb:nb≤cb) (hb:Rd W Ab (bytesV b)) (hc:checkB x.t.n b=false):
 Calls Tryz.prog 18 #[.pointer (some ⟨cp,0,none⟩),.string nm,.int .i64 v,.slice Ab nb cb] W fun e w'=>e=.returned (.tuple #[.slice none 0 0,.int .i64 70])∧Below W.heap.size W w':=by
 subst hv
 have hdE:=(findE_mem hf).1
 have hd:=h.ents d hdE
 obtain⟨g,c,n,ev,hnc,hnl,_,h64,hpos,hrd⟩:=En.open hd hok
 have hkn:k<n:=by rw[←hnl];exact(List.getElem?_eq_some_iff.1 hx).1
 have hfr:=from_some h hn hf hok g c n ev k hkn
 obtain⟨_,t1,_⟩:=Rd.tab hrd hx
 have hxI:=h.tabs d hdE x (List.mem_of_getElem? hx)
 have hn16:x.t.n.length≤16:=(rightF_may (rightT_iff.1 (hok.ok x.t (by rw[←hd.tabs];exact List.mem_map.2 ⟨x,List.mem_of_getElem? hx,rfl⟩)).r).2.1).2
 obtain⟨m,hm⟩:∃m,x.t.n.length=m:=⟨_,rfl⟩
 rw[hm] at t1 hn16
 have hxn:=hxI.n.rd
 have hidx:(0:Int)<((n - k:Nat):Int):=by omega
 have hidx2:0<n - k:=by omega
 have HFR:=Lib.hid hfr;have HM:=Lib.hid hm;have HC:=Lib.hid hc;have HB0:=Lib.hid hb0
 obtain⟨old,ho⟩:∃o:Int,((d.y.old+k:Nat):Int)=o:=⟨_,rfl⟩
 rw[ho] at HFR ⊢
 obtain⟨j,hj⟩:∃j,n - k=j:=⟨_,rfl⟩
 rw[hj] at HFR hidx hidx2
 clear hfr hf hok hx hd hdE hm ev hnc hnl hrd hxI h ho hj hkn hpos hc hb0
 go_enter Tryz.func18,Tryz.ntmps18
 go_upto_region 4 with (go_at_call 34;refine HFR.out.mono ?_;rintro e w1 ⟨rfl,HB⟩)
 have t1':=cell_below (B:=0) HB t1
 have hxn':=hxn.below HB
 go_wp2_with (go_at_call 37;refine(Check_m x.t.n m HM.out (by omega) x.B x.b b nb HB0.out hnb Ab cb hcb _ hxn' (hb.below HB) false HC.out).mono ?_;rintro e w2 ⟨rfl,hb2⟩;replace HB:=HB.trans (hb2.mono HB.size);clear hb2)
 refine bodyPost_ret (v:=.tuple #[.slice none 0 0,.int .i64 70]) (by simp[results,Tryz.results18,go_sem, *];done) rfl ⟨rfl,HB⟩
theorem Upgrade_yes {W:World} {cp mp:Nat} {E:List En} {es:List MapEntry} {clock:Nat} (h:CatIs 89 80 W cp mp E es clock) {nm:ByteArray} (hn:nm.size≤maxLen) {d:En} (hf:findE E nm=some d) (hok:d.y.Ok) (k:Nat) {x:TabV} (hx:d.xs[k]?=some x) (v:Int) (hv:v=((d.y.old+k:Nat):Int)) (b:List UInt8) (nb:Nat) (hb0:b.length=nb) (Ab:Option Addr) (cb:Nat) (hcb:nb≤cb) (hb:Rd W Ab (bytesV b)) (hc:checkB x.t.n b=true) (r:List UInt8) (hr:upgL (d.y.ts.drop (k+1)) b=r) (z:Nat) (hz:r.length=z):
 Calls Tryz.prog 18 #[.pointer (some ⟨cp,0,none⟩),.string nm,.int .i64 v,.slice Ab nb cb] W fun e w'=>∃B c',e=.returned (.tuple #[.slice B z c',.int .i64 0])∧z≤c'∧Rd w' B (bytesV r)∧Below W.heap.size W w':=by
 subst hv
 have hdE:=(findE_mem hf).1
 have hd:=h.ents d hdE
 obtain⟨g,c,n,ev,hnc,hnl,_,h64,hpos,hrd⟩:=En.open hd hok
 have hkn:k<n:=by rw[←hnl];exact(List.getElem?_eq_some_iff.1 hx).1
 have hfr:=from_some h hn hf hok g c n ev k hkn
 obtain⟨_,t1,_⟩:=Rd.tab hrd hx
 have hxI:=h.tabs d hdE x (List.mem_of_getElem? hx)
 have hn16:x.t.n.length≤16:=(rightF_may (rightT_iff.1 (hok.ok x.t (by rw[←hd.tabs];exact List.mem_map.2 ⟨x,List.mem_of_getElem? hx,rfl⟩)).r).2.1).2
 obtain⟨m,hm⟩:∃m,x.t.n.length=m:=⟨_,rfl⟩
 rw[hm] at t1 hn16
 have hxn:=hxI.n.rd
 have hidx:(0:Int)<((n - k:Nat):Int):=by omega
 have hidx2:0<n - k:=by omega
 have hnb:nb≤4096:=by rw[←hb0];exact check_len hc
 have hxy:d.y.ts[k]?=some x.t:=by rw[←hd.tabs,List.getElem?_map,hx];rfl
 have hch:=chain_of hok.ok hok.ch _ k x.t rfl hxy
 have hlen:d.y.ts.length=n:=by rw[←hd.tabs,List.length_map];exact hnl
 have hup:=upg_check hch hc
 have htab:∀W',Below W.heap.size W W'→∀(i:Nat) (t:Tb),(d.y.ts.drop (k+1))[i]?=some t→∃X:TabV,X.t=t∧W'.cell? ⟨g,(k+1+i) * 3,none⟩=some (.slice X.A t.o.length X.a)∧W'.cell? ⟨g,(k+1+i) * 3+1,none⟩=some (.slice X.B t.n.length X.b)∧W'.cell? ⟨g,(k+1+i) * 3+2,none⟩=some (.slice X.C t.m.length X.c)∧Rd W' X.A (cellsF t.o)∧Rd W' X.B (cellsF t.n)∧Rd W' X.C (cellsM t.m):=fun W' hB i t hi=>by
  rw[List.getElem?_drop,←hd.tabs,List.getElem?_map] at hi
  cases hX:d.xs[k+1+i]? with
  |none=>rw[hX] at hi;cases hi
  |some X=>
   rw[hX] at hi
   obtain rfl:=Option.some.inj hi
   obtain⟨q0,q1,q2⟩:=Rd.tab (hrd.below hB) hX
   have hI:=(h.tabs d hdE X (List.mem_of_getElem? hX))
   exact⟨X,rfl,q0,q1,q2,hI.o.rd.below hB,hI.n.rd.below hB,hI.m.rd.below hB⟩
 obtain⟨ts,hts⟩:∃ts,d.y.ts.drop (k+1)=ts:=⟨_,rfl⟩
 rw[hts] at hr hup htab
 have htl:ts.length=n - k - 1:=by rw[←hts,List.length_drop,hlen];omega
 have HFR:=Lib.hid hfr;have HM:=Lib.hid hm;have HC:=Lib.hid hc;have HB0:=Lib.hid hb0;have HUP:=Lib.hid hup;have HTAB:=Lib.hid htab;have HR:=Lib.hid hr;have HZ:=Lib.hid hz
 obtain⟨old,ho⟩:∃o:Int,((d.y.old+k:Nat):Int)=o:=⟨_,rfl⟩
 rw[ho] at HFR ⊢
 obtain⟨j,hj⟩:∃j,n - k=j+1:=⟨n - k - 1,by omega⟩
 have htj:ts.length=j:=by omega
 have HTL:=Lib.hid htj
 rw[hj] at HFR hidx hidx2
 have hj64:j≤64:=by omega
 clear hfr hf hok hx hd hdE hm ev hnc hnl hrd hxI h ho hj hkn hpos hc hb0 hup htab hr hz hch hlen hxy hts htl htj
 go_enter Tryz.func18,Tryz.ntmps18
 go_upto_region 4 with (go_at_call 34;refine HFR.out.mono ?_;rintro e w1 ⟨rfl,HB⟩)
 have t1':=cell_below (B:=0) HB t1
 have hxn':=hxn.below HB
 have hb1:=hb.below HB
 go_upto_region 7 with (first
  |(go_at_call 37;refine(Check_m x.t.n m HM.out (by omega) x.B x.b b nb HB0.out (by omega) Ab cb hcb _ hxn' hb1 true HC.out).mono ?_;rintro e w2 ⟨rfl,hb2⟩;replace HB:=HB.trans (hb2.mono HB.size);replace hb1:=hb1.below hb2;clear hb2)
  |(go_at_call 38;refine(Clone_m Ab nb cb b HB0.out _ hb1 (by omega)).mono ?_;rintro e w3 ⟨B,cB,rfl,hcB,hrB,hb3⟩;replace HB:=HB.trans (hb3.mono HB.size);clear hb3))
 have HBs:=HB
 clear HB t1' hxn' hb1
 cases j with
 |zero=>
  have hr0:r=b:=by
   have h1:=HTL.out
   have h2:=HR.out
   rw[List.eq_nil_of_length_eq_zero h1] at h2
   exact h2.symm
  subst hr0
  have hzz:nb=z:=HB0.out.symm.trans HZ.out
  subst hzz
  clear HTAB HUP
  go_upto_region 8 with fail
  go_loopw [3,11,13,36] (fun vb ve _ vi wr=>vb=.slice B nb cB∧ve=.int .i64 0∧vi=.int .i64 0∧wr=w3) (fun _ _ _ _ _=>0)
  case atStart=>exact⟨rfl,rfl,rfl,rfl⟩
  case round=>
   obtain⟨rfl,rfl,rfl,rfl⟩:=hrel
   go_wp2
   refine bodyPost_ret (v:=.tuple #[.slice B nb cB,.int .i64 0]) (by simp[results,Tryz.results18,go_sem, *];done) rfl ⟨B,cB,rfl,hcB,hrB,HBs⟩
 |succ j=>
  have q1:¬(j+1+1=1):=by omega
  have q2:1≤j+1+1:=by omega
  go_upto_region 8 with fail
  obtain⟨J,hJ⟩:∃J,j+1=J:=⟨_,rfl⟩
  have hJ2:((j:Int)+1)=(J:Int):=by omega
  have hJ3:j+1+1=J+1:=by omega
  obtain⟨ad,had⟩:∃ad:Addr,ad=⟨g,k * 3+3,none⟩:=⟨_,rfl⟩
  rw[←had,hJ3,hJ2,hJ]
  rw[hJ] at HTL
  have hJ64:J≤64:=by omega
  have htab2:∀W',Below W.heap.size W W'→∀(i:Nat) (t:Tb),ts[i]?=some t→∃X:TabV,X.t=t∧W'.cell? (ad.add (i * 3))=some (.slice X.A t.o.length X.a)∧W'.cell? ⟨(ad.add (i * 3)).block,(ad.add (i * 3)).off+(0+1),none⟩=some (.slice X.B t.n.length X.b)∧W'.cell? ⟨(ad.add (i * 3)).block,(ad.add (i * 3)).off+(1+1),none⟩=some (.slice X.C t.m.length X.c)∧Rd W' X.A (cellsF t.o)∧Rd W' X.B (cellsF t.n)∧Rd W' X.C (cellsM t.m):=fun W' hB i t hi=>by
   obtain⟨X,e,q0,q1,q2,r⟩:=HTAB.out W' hB i t hi
   have ha:ad.add (i * 3)=⟨g,(k+1+i) * 3,none⟩:=by rw[had,Addr.add_lit];congr 1;omega
   rw[ha]
   exact⟨X,e,q0,q1,q2,r⟩
  have HT2:=Lib.hid htab2
  clear htab2 HTAB q1 q2 hJ hJ2 hJ3 had hj64
  go_loopw [3,11,13,36] (fun vb ve _ vi wr=>∃(i:Nat) (B:Option Addr) (z0 c0:Nat) (cur:List UInt8),i≤J∧vi=.int .i64 i∧vb=.slice B z0 c0∧ve=.int .i64 0∧Hid (upgL (ts.take i) b=cur)∧Hid (cur.length=z0)∧z0≤c0∧Rd wr B (bytesV cur)∧Below W.heap.size W wr) (fun _ _ _ vi _=>J - (intOf vi).toNat)
  case atStart=>exact⟨0,B,nb,cB,b,Nat.zero_le _,rfl,rfl,rfl,Lib.hid rfl,HB0,hcB,hrB,HBs⟩
  case round=>
   obtain⟨i,B2,z0,c0,cur,hi,rfl,rfl,rfl,hcur,hz0,hc0,hrB2,HB⟩:=hrel
   clear HBs hrB hcB
   by_cases hlt:i<J
   ·obtain⟨t,ht⟩:∃t,ts[i]?=some t:=⟨_,List.getElem?_eq_getElem (by rw[HTL.out];exact hlt)⟩
    obtain⟨hck,htok⟩:=(HUP.out i (by rw[HTL.out];omega)).1 t ht
    rw[hcur.out] at hck
    obtain⟨X,hXt,d0,d1,d2,r0,r1,r2⟩:=HT2.out wr HB i t ht
    obtain⟨no,hno⟩:∃y,t.o.length=y:=⟨_,rfl⟩
    obtain⟨nn,hnn⟩:∃y,t.n.length=y:=⟨_,rfl⟩
    obtain⟨nm',hnm⟩:∃y,t.m.length=y:=⟨_,rfl⟩
    obtain⟨z1,hz1⟩:∃y,sizeF t.n=y:=⟨_,rfl⟩
    rw[hno] at d0;rw[hnn] at d1;rw[hnm] at d2
    have hnx:=upg_take ht b
    rw[hcur.out,hnn] at hnx
    have hln:=outL_len htok.r htok.w (vs:=valsL t.o cur) (by simp[valsL]) (vals_fit hck) (k:=t.n.length) (Nat.le_refl _)
    rw[hnn,hz1] at hln
    have HNX:=Lib.hid hnx;have HLN:=Lib.hid hln;have HNO:=Lib.hid hno;have HNN:=Lib.hid hnn;have HNM:=Lib.hid hnm;have HZ1:=Lib.hid hz1;have HCK:=Lib.hid hck;have HTO:=Lib.hid htok
    have nb1:=below_new (w:=wr) (.cells #[.slice X.A no X.a,.slice X.B nn X.b,.slice X.C nm' X.c] 96)
    have P:=OBox.new wr [.slice X.A no X.a,.slice X.B nn X.b,.slice X.C nm' X.c] 96
    have hB1:=HB.trans (nb1.mono HB.size)
    have r0':=r0.below nb1
    have r1':=r1.below nb1
    have r2':=r2.below nb1
    have rB':=hrB2.below nb1
    clear ht hXt hno hnn hnm hz1 hnx hln hck htok r0 r1 r2 hrB2
    go_upto_region 10 with fail
    generalize wr.alloc (.cells #[.slice X.A no X.a,.slice X.B nn X.b,.slice X.C nm' X.c] 96)=W5 at *
    obtain⟨p0,p1,p2,_,_,_⟩:=P.f3
    clear d0 d1 d2
    go_wp2_with (go_at_call 39;refine(tApply_m t X.A X.B X.C X.a X.b X.c no nn nm' HNO.out HNN.out HNM.out HTO.out.r HTO.out.w (valsL t.o cur) (by rw[←HNO.out];simp[valsL]) (vals_fit HCK.out) cur z0 hz0.out ((checkB_iff.1 HCK.out).2.1.symm.trans hz0.out) (vals_get HCK.out) B2 c0 hc0 z1 HZ1.out _ r0' r1' r2' rB').mono ?_;rintro e w6 ⟨B3,c3,rfl,hc3,r3,hb3⟩;replace hB1:=hB1.trans (hb3.mono hB1.size))
    go_roundw
    case rel=>exact⟨i+1,B3,z1,c3,_,by omega,by go_num,rfl,rfl,HNX,HLN,hc3,r3,hB1⟩
    case measure=>simp[intOf];omega
   ·obtain rfl:i=J:=by omega
    have hrc:r=cur:=by
     rw[←hcur.out,List.take_of_length_le (by rw[HTL.out];exact Nat.le_refl _)]
     exact HR.out.symm
    subst hrc
    have hzz:z0=z:=hz0.out.symm.trans HZ.out
    subst hzz
    clear HUP HT2
    go_wp2
    refine bodyPost_ret (v:=.tuple #[.slice B2 z0 c0,.int .i64 0]) (by simp[results,Tryz.results18,go_sem, *];done) rfl ⟨B2,c0,rfl,hc0,hrB2,HB⟩
def verE (D:List Ty) (nm:ByteArray):Int:=match findY D nm with|none=>90|some _=>0
def verO (D:List Ty) (nm:ByteArray):Nat:=match findY D nm with|none=>0|some t=>t.old
def verT (D:List Ty) (nm:ByteArray):Nat:=match findY D nm with|none=>0|some t=>t.top
def tabAt (t:Ty) (v:Int):Option Tb:=if v<(t.old:Int) then none else t.ts[(v - t.old).toNat]?
def verTab (D:List Ty) (nm:ByteArray) (v:Int):Option Tb:=(findY D nm).bind fun t=>tabAt t v
def fldE (D:List Ty) (nm:ByteArray) (v:Int):Int:=match verTab D nm v with|none=>90|some _=>0
def fldL (D:List Ty) (nm:ByteArray) (v:Int):List Fd:=match verTab D nm v with|none=>[]|some x=>x.n
def upgE (D:List Ty) (nm:ByteArray) (v:Int) (b:List UInt8):Int:=match verTab D nm v with|none=>90|some x=>if checkB x.n b=true then 0 else 70
def upgV (D:List Ty) (nm:ByteArray) (v:Int) (b:List UInt8):List UInt8:=if upgE D nm v b=0 then(match findY D nm with|none=>[]|some t=>upgL (t.ts.drop ((v - t.old).toNat+1)) b) else[]
theorem tabAt_none {t:Ty} (ht:t.Ok) {v:Int}:tabAt t v=none↔v<(t.old:Int)∨(t.top:Int)<v:=by
 have hlen:0<t.ts.length:=by cases hx:t.ts with|nil=>exact absurd hx ht.ne|cons a r=>simp
 have h2:t.top=t.old+t.ts.length - 1:=rfl
 unfold tabAt
 split
 ·simp;omega
 ·rw[List.getElem?_eq_none_iff]
  omega
theorem tabAt_some {t:Ty} {v:Int} {x:Tb} (h:tabAt t v=some x):∃k:Nat,v=((t.old+k:Nat):Int)∧t.ts[k]?=some x∧(v - t.old).toNat=k:=by
 unfold tabAt at h
 split at h
 ·cases h
 ·exact⟨(v - t.old).toNat,by omega,h,rfl⟩
theorem findE_of {E:List En} {nm:ByteArray} {t:Ty} (h:findY (E.map (·.y)) nm=some t):∃d,findE E nm=some d∧d.y=t:=by
 rw[←findE_y] at h
 cases hf:findE E nm with
 |none=>rw[hf] at h;cases h
 |some d=>rw[hf] at h;exact⟨d,rfl,Option.some.inj h⟩
theorem findE_no' {E:List En} {nm:ByteArray} (h:findY (E.map (·.y)) nm=none):findE E nm=none:=by
 rw[←findE_y] at h
 cases hf:findE E nm with
 |none=>rfl
 |some d=>rw[hf] at h;cases h
theorem Versions_m {W:World} {cp mp:Nat} {E:List En} {es:List MapEntry} {clock:Nat} (h:CatIs 89 80 W cp mp E es clock) {nm:ByteArray} (hn:nm.size≤maxLen) (hok:CatOk (E.map (·.y))) (D:List Ty) (hD:E.map (·.y)=D) (o t:Nat) (q:Int) (ho:verO D nm=o) (ht:verT D nm=t) (hq:verE D nm=q):
 Calls Tryz.prog 15 #[.pointer (some ⟨cp,0,none⟩),.string nm] W fun e w'=>e=.returned (.tuple #[.int .i64 (o:Nat),.int .i64 (t:Nat),.int .i64 q])∧Below W.heap.size W w':=by
 subst hD
 cases hf:findY (E.map (·.y)) nm with
 |none=>
  rw[verO,hf] at ho;rw[verT,hf] at ht;rw[verE,hf] at hq
  subst ho ht hq
  exact Versions_none h hn (findE_no' hf)
 |some y=>
  rw[verO,hf] at ho;rw[verT,hf] at ht;rw[verE,hf] at hq
  subst hq
  obtain⟨d,hd,hy⟩:=findE_of hf
  subst hy
  exact Versions_some h hn hd (hok.ok _ (findY_mem hf).1) o t ho ht
theorem verTab_no {E:List En} (hok:CatOk (E.map (·.y))) {nm:ByteArray} {v:Int} (h:verTab (E.map (·.y)) nm v=none):findE E nm=none∨∃d,findE E nm=some d∧d.y.Ok∧(v<(d.y.old:Int)∨(d.y.top:Int)<v):=by
 cases hf:findY (E.map (·.y)) nm with
 |none=>exact .inl (findE_no' hf)
 |some y=>
  obtain⟨d,hd,rfl⟩:=findE_of hf
  have ho:=hok.ok _ (findY_mem hf).1
  rw[verTab,hf] at h
  exact .inr ⟨d,hd,ho,(tabAt_none ho).1 h⟩
theorem verTab_yes {ST CT:TypeId} {W:World} {cp mp:Nat} {E:List En} {es:List MapEntry} {clock:Nat} (hc:CatIs ST CT W cp mp E es clock) (hok:CatOk (E.map (·.y))) {nm:ByteArray} {v:Int} {x:Tb} (h:verTab (E.map (·.y)) nm v=some x):∃d,findE E nm=some d∧d.y.Ok∧findY (E.map (·.y)) nm=some d.y∧∃(k:Nat) (X:TabV),d.xs[k]?=some X∧X.t=x∧v=((d.y.old+k:Nat):Int)∧(v - d.y.old).toNat=k:=by
 cases hf:findY (E.map (·.y)) nm with
 |none=>rw[verTab,hf] at h;cases h
 |some y=>
  obtain⟨d,hd,rfl⟩:=findE_of hf
  have ho:=hok.ok _ (findY_mem hf).1
  rw[verTab,hf] at h
  obtain⟨k,hv,hk,hkk⟩:=tabAt_some h
  have hI:=hc.ents d (findE_mem hd).1
  rw[←hI.tabs,List.getElem?_map] at hk
  cases hX:d.xs[k]? with
  |none=>rw[hX] at hk;cases hk
  |some X=>
   rw[hX] at hk
   exact⟨d,hd,ho,rfl,k,X,hX,Option.some.inj hk,hv,hkk⟩
theorem Fields_m {W:World} {cp mp:Nat} {E:List En} {es:List MapEntry} {clock:Nat} (h:CatIs 89 80 W cp mp E es clock) {nm:ByteArray} (hn:nm.size≤maxLen) (hok:CatOk (E.map (·.y))) (D:List Ty) (hD:E.map (·.y)=D) (v:Int) (q:Int) (hq:fldE D nm v=q) (l:List Fd) (hl:fldL D nm v=l) (m:Nat) (hm:l.length=m):
 Calls Tryz.prog 16 #[.pointer (some ⟨cp,0,none⟩),.string nm,.int .i64 v] W fun e w'=>∃B b,e=.returned (.tuple #[.slice B m b,.int .i64 q])∧m≤b∧RdP (fun g=>W.heap.size≤g) w' B (cellsF l)∧Below W.heap.size W w':=by
 subst hD
 cases hf:verTab (E.map (·.y)) nm v with
 |none=>
  rw[fldE,hf] at hq;rw[fldL,hf] at hl
  subst hq hl hm
  refine(Fields_no h hn v (verTab_no hok hf)).mono ?_
  rintro e w' ⟨rfl,hb⟩
  exact⟨none,0,rfl,Nat.le_refl _,fun hne=>absurd rfl hne,hb⟩
 |some x=>
  rw[fldE,hf] at hq;rw[fldL,hf] at hl
  dsimp only at hq hl
  subst hq hl
  obtain⟨d,hd,ho,hfy,k,X,hX,rfl,hv,_⟩:=verTab_yes h hok hf
  have hI:=h.ents d (findE_mem hd).1
  have h16:X.t.n.length≤16:=(rightF_may (rightT_iff.1 (ho.ok X.t (by rw[←hI.tabs];exact List.mem_map.2 ⟨X,List.mem_of_getElem? hX,rfl⟩)).r).2.1).2
  exact Fields_yes h hn hd ho k hX m hm (by omega) v hv
theorem Upgrade_m {W:World} {cp mp:Nat} {E:List En} {es:List MapEntry} {clock:Nat} (h:CatIs 89 80 W cp mp E es clock) {nm:ByteArray} (hn:nm.size≤maxLen) (hok:CatOk (E.map (·.y))) (D:List Ty) (hD:E.map (·.y)=D) (v:Int) (b:List UInt8) (nb:Nat) (hb0:b.length=nb) (hnb:nb≤9223372036854775807) (Ab:Option Addr) (cb:Nat) (hcb:nb≤cb) (hb:Rd W Ab (bytesV b)) (q:Int) (hq:upgE D nm v b=q) (r:List UInt8) (hr:upgV D nm v b=r) (z:Nat) (hz:r.length=z):
 Calls Tryz.prog 18 #[.pointer (some ⟨cp,0,none⟩),.string nm,.int .i64 v,.slice Ab nb cb] W fun e w'=>∃B c',e=.returned (.tuple #[.slice B z c',.int .i64 q])∧z≤c'∧Rd w' B (bytesV r)∧Below W.heap.size W w':=by
 subst hD
 cases hf:verTab (E.map (·.y)) nm v with
 |none=>
  have e1:upgE (E.map (·.y)) nm v b=90:=by rw[upgE,hf]
  rw[upgV,if_neg (by rw[e1];decide)] at hr
  rw[e1] at hq
  subst hq hr hz
  refine(Upgrade_no h hn v (verTab_no hok hf) Ab nb cb).mono ?_
  rintro e w' ⟨rfl,hb⟩
  exact⟨none,0,rfl,Nat.le_refl _,Rd.nil _ _,hb⟩
 |some x=>
  obtain⟨d,hd,ho,hfy,k,X,hX,rfl,hv,hk⟩:=verTab_yes h hok hf
  cases hc:checkB X.t.n b with
  |false=>
   have e1:upgE (E.map (·.y)) nm v b=70:=by rw[upgE,hf];simp only;rw[if_neg (by rw[hc];decide)]
   rw[upgV,if_neg (by rw[e1];decide)] at hr
   rw[e1] at hq
   subst hq hr hz
   refine(Upgrade_form h hn hd ho k hX v hv b nb hb0 hnb Ab cb hcb hb hc).mono ?_
   rintro e w' ⟨rfl,hb⟩
   exact⟨none,0,rfl,Nat.le_refl _,Rd.nil _ _,hb⟩
  |true=>
   have e1:upgE (E.map (·.y)) nm v b=0:=by rw[upgE,hf];simp only;rw[if_pos hc]
   rw[upgV,if_pos e1,hfy] at hr
   simp only[hk] at hr
   rw[e1] at hq
   subst hq
   exact Upgrade_yes h hn hd ho k hX v hv b nb hb0 Ab cb hcb hb hc r hr z hz
end
end Go.Proofs.YteembinfgbapgaaGreat
namespace Go.Proofs
open Go.Shelf
def Tryz.keys32_ren:Go.Shelf.Ren:=⟨fun|7=>32|10=>66|n=>n,fun|23=>78|26=>9|3=>86|28=>84|0=>0|27=>83|33=>120|4=>4|n=>n,fun|n=>n⟩
theorem Tryz.keys32:Go.Proofs.SlLaysZ.n7 Tryz.prog Tryz.keys32_ren:={
 mixed:=by kernel_rfl
 f7:=⟨Tryz.f32.name,by decide,Tryz.func32.trans (congrArg some (by kernel_rfl))⟩
 f10:=⟨Tryz.f66.name,by decide,Tryz.func66.trans (congrArg some (by kernel_rfl))⟩
 t0:=Tryz.underlying0
 a0:=Tryz.isAgg0
 z0:=Tryz.sizeOf0
 v0:=Tryz.zeroValue0
 t4:=Tryz.underlying4
 a4:=Tryz.isAgg4
 z4:=Tryz.sizeOf4
 v4:=Tryz.zeroValue4
 t23:=Tryz.underlying78
 a23:=Tryz.isAgg78
 z23:=Tryz.sizeOf78
 v23:=Tryz.zeroValue78
 t26:=Tryz.underlying9
 a26:=Tryz.isAgg9
 z26:=Tryz.sizeOf9
 v26:=Tryz.zeroValue9
 t27:=Tryz.underlying83
 a27:=Tryz.isAgg83
 z27:=Tryz.sizeOf83
 v27:=Tryz.zeroValue83
 t28:=Tryz.underlying84
 a28:=Tryz.isAgg84
 z28:=Tryz.sizeOf84
 v28:=Tryz.zeroValue84
 t33:=Tryz.underlying120
 a33:=Tryz.isAgg120
 z33:=Tryz.sizeOf120
 v33:=Tryz.zeroValue120 }
def Tryz.sorted31_ren:Go.Shelf.Ren:=⟨fun|6=>31|8=>64|9=>65|11=>99|13=>101|12=>100|23=>151|24=>152|14=>142|15=>143|16=>144|17=>145|18=>146|19=>147|20=>148|21=>149|22=>150|25=>166|26=>167|27=>168|28=>169|29=>170|30=>171|31=>176|n=>n,fun|26=>9|28=>84|24=>35|0=>0|3=>3|37=>180|48=>218|50=>69|4=>4|40=>210|39=>209|45=>215|5=>5|9=>9|51=>231|55=>235|57=>238|58=>239|33=>120|n=>n,fun|n=>n⟩
theorem Tryz.sorted31:Go.Proofs.SlLaysZ.n6 Tryz.prog Tryz.sorted31_ren:={
 mixed:=by kernel_rfl
 f6:=⟨Tryz.f31.name,by decide,Tryz.func31.trans (congrArg some (by kernel_rfl))⟩
 f8:=⟨Tryz.f64.name,by decide,Tryz.func64.trans (congrArg some (by kernel_rfl))⟩
 f11:=⟨Tryz.f99.name,by decide,Tryz.func99.trans (congrArg some (by kernel_rfl))⟩
 t0:=Tryz.underlying0
 a0:=Tryz.isAgg0
 z0:=Tryz.sizeOf0
 v0:=Tryz.zeroValue0
 t24:=Tryz.underlying35
 a24:=Tryz.isAgg35
 z24:=Tryz.sizeOf35
 v24:=Tryz.zeroValue35
 t26:=Tryz.underlying9
 a26:=Tryz.isAgg9
 z26:=Tryz.sizeOf9
 v26:=Tryz.zeroValue9
 t28:=Tryz.underlying84
 a28:=Tryz.isAgg84
 z28:=Tryz.sizeOf84
 v28:=Tryz.zeroValue84
 i26:=by kernel_rfl }
def Tryz.sort65_ren:Go.Shelf.Ren:=⟨fun|6=>65|8=>101|9=>100|19=>151|20=>152|21=>142|22=>143|23=>144|24=>145|25=>146|26=>147|27=>148|28=>149|29=>150|36=>166|31=>167|32=>168|37=>169|38=>170|39=>171|41=>176|n=>n,fun|27=>35|29=>9|3=>3|32=>180|26=>35|0=>0|44=>218|46=>69|4=>4|36=>210|35=>209|41=>215|5=>5|9=>9|53=>231|57=>235|63=>238|64=>239|n=>n,fun|n=>n⟩
theorem Tryz.sort65:Go.Proofs.SlLaysM.n6 Tryz.prog Tryz.sort65_ren:={
 mixed:=by kernel_rfl
 f6:=⟨Tryz.f65.name,by decide,Tryz.func65.trans (congrArg some (by kernel_rfl))⟩
 f8:=Tryz.func101.trans (congrArg some (by kernel_rfl))
 f9:=⟨Tryz.f100.name,by decide,Tryz.func100.trans (congrArg some (by kernel_rfl))⟩
 f19:=Tryz.func151.trans (congrArg some (by kernel_rfl))
 f20:=Tryz.func152.trans (congrArg some (by kernel_rfl))
 f21:=⟨Tryz.f142.name,by decide,Tryz.func142.trans (congrArg some (by kernel_rfl))⟩
 f22:=⟨Tryz.f143.name,by decide,Tryz.func143.trans (congrArg some (by kernel_rfl))⟩
 f23:=⟨Tryz.f144.name,by decide,Tryz.func144.trans (congrArg some (by kernel_rfl))⟩
 f24:=⟨Tryz.f145.name,by decide,Tryz.func145.trans (congrArg some (by kernel_rfl))⟩
 f25:=⟨Tryz.f146.name,by decide,Tryz.func146.trans (congrArg some (by kernel_rfl))⟩
 f26:=⟨Tryz.f147.name,by decide,Tryz.func147.trans (congrArg some (by kernel_rfl))⟩
 f27:=⟨Tryz.f148.name,by decide,Tryz.func148.trans (congrArg some (by kernel_rfl))⟩
 f28:=⟨Tryz.f149.name,by decide,Tryz.func149.trans (congrArg some (by kernel_rfl))⟩
 f29:=⟨Tryz.f150.name,by decide,Tryz.func150.trans (congrArg some (by kernel_rfl))⟩
 f31:=Tryz.func167.trans (congrArg some (by kernel_rfl))
 f32:=Tryz.func168.trans (congrArg some (by kernel_rfl))
 f36:=⟨Tryz.f166.name,by decide,Tryz.func166.trans (congrArg some (by kernel_rfl))⟩
 f37:=⟨Tryz.f169.name,by decide,Tryz.func169.trans (congrArg some (by kernel_rfl))⟩
 f38:=⟨Tryz.f170.name,by decide,Tryz.func170.trans (congrArg some (by kernel_rfl))⟩
 f39:=⟨Tryz.f171.name,by decide,Tryz.func171.trans (congrArg some (by kernel_rfl))⟩
 f41:=⟨Tryz.f176.name,by decide,Tryz.func176.trans (congrArg some (by kernel_rfl))⟩
 t0:=Tryz.underlying0
 a0:=Tryz.isAgg0
 z0:=Tryz.sizeOf0
 v0:=Tryz.zeroValue0
 t3:=Tryz.underlying3
 a3:=Tryz.isAgg3
 z3:=Tryz.sizeOf3
 v3:=Tryz.zeroValue3
 t4:=Tryz.underlying4
 a4:=Tryz.isAgg4
 z4:=Tryz.sizeOf4
 v4:=Tryz.zeroValue4
 t5:=Tryz.underlying5
 a5:=Tryz.isAgg5
 z5:=Tryz.sizeOf5
 v5:=Tryz.zeroValue5
 t9:=Tryz.underlying9
 a9:=Tryz.isAgg9
 z9:=Tryz.sizeOf9
 v9:=Tryz.zeroValue9
 t26:=Tryz.underlying35
 a26:=Tryz.isAgg35
 z26:=Tryz.sizeOf35
 v26:=Tryz.zeroValue35
 t27:=Tryz.underlying35
 a27:=Tryz.isAgg35
 z27:=Tryz.sizeOf35
 v27:=Tryz.zeroValue35
 t29:=Tryz.underlying9
 a29:=Tryz.isAgg9
 z29:=Tryz.sizeOf9
 v29:=Tryz.zeroValue9
 t32:=Tryz.underlying180
 a32:=Tryz.isAgg180
 z32:=Tryz.sizeOf180
 v32:=Tryz.zeroValue180
 t35:=Tryz.underlying209
 a35:=Tryz.isAgg209
 z35:=Tryz.sizeOf209
 v35:=Tryz.zeroValue209
 t36:=Tryz.underlying210
 a36:=Tryz.isAgg210
 z36:=Tryz.sizeOf210
 v36:=Tryz.zeroValue210
 t41:=Tryz.underlying215
 a41:=Tryz.isAgg215
 z41:=Tryz.sizeOf215
 v41:=Tryz.zeroValue215
 t44:=Tryz.underlying218
 a44:=Tryz.isAgg218
 z44:=Tryz.sizeOf218
 v44:=Tryz.zeroValue218
 t46:=Tryz.underlying69
 a46:=Tryz.isAgg69
 z46:=Tryz.sizeOf69
 v46:=Tryz.zeroValue69
 t53:=Tryz.underlying231
 a53:=Tryz.isAgg231
 z53:=Tryz.sizeOf231
 v53:=Tryz.zeroValue231
 t57:=Tryz.underlying235
 a57:=Tryz.isAgg235
 z57:=Tryz.sizeOf235
 v57:=Tryz.zeroValue235
 t63:=Tryz.underlying238
 a63:=Tryz.isAgg238
 z63:=Tryz.sizeOf238
 v63:=Tryz.zeroValue238
 t64:=Tryz.underlying239
 a64:=Tryz.isAgg239
 z64:=Tryz.sizeOf239
 v64:=Tryz.zeroValue239 }
section
open Go.RowKit Go.Maps Go.Sort Go.Shelf
theorem Tryz.sorts31 (m:Nat):AnyZ.SortsIn Tryz.prog Tryz.sorted31_ren Fence.wide m:=
 ⟨fun blk off cap ss W hH hblk hsz=>callsIn_wide.2 (AnyM.slices_Sort_string Tryz.sort65 blk off cap ss W hH hblk hsz),
  fun p cap W=>callsIn_wide.2 (AnyM.slices_Sort_string_none Tryz.sort65 p cap W)⟩
theorem Tryz.maps_Keys_32 (mb:Option Nat) (W:World):CallsIn Fence.wide 5 Tryz.prog 32 #[.map mb] W fun e w'=>e=.returned (.func (.func 66) #[] #[.pointer (some ⟨W.heap.size,0,none⟩)])∧w'=W.alloc (.cells #[.map mb] 78):=
 AnyZ.keys_in Tryz.keys32 Fence.wide 5 trivial rfl mb W
theorem Tryz.slices_Sorted_keys_31_32 {H:Type} (b nn:Nat) (D0:DataW H) (R:Value→Option (DataW H×List MemPlace)) (w:World) (hown:w.ownsMap Tryz.prog 9 R b nn D0) (hmax:Maps.size D0≤maxLen) (hbytes:Maps.size D0 * 16≤140737488355328):
 CallsIn Fence.wide 5 Tryz.prog 31 #[.func (.func 66) #[] #[.pointer (some ⟨w.heap.size,0,none⟩)]] (w.alloc (.cells #[.map (some b)] 78)) fun e w'=>∃(v:Value) (ss:List (List UInt8)),e=.returned v∧ss.Perm (strKeys D0)∧
  w'.ownsRow (w.alloc (.cells #[.map (some b)] 78)).heap.size 9 1 v ss.length ((ss.mergeSort (fun x y=>decide (x≤y))).map encStr)∧(v=.slice none 0 0↔ss=[])∧Below (w.alloc (.cells #[.map (some b)] 78)).heap.size (w.alloc (.cells #[.map (some b)] 78)) w':=by
 have hbl:=hown.lt
 have hseq:SeqGives Fence.wide 2 Tryz.prog 66 #[.pointer (some ⟨w.heap.size,0,none⟩)] encStr (fun ss=>ss.Perm (strKeys D0)) (Maps.size D0) (w.alloc (.cells #[.map (some b)] 78)):=
  AnyZ.keys_gives (ρ:=Tryz.keys32_ren) { Tryz.keys32 with } Fence.wide _ trivial rfl (by omega) w.heap.size b nn D0 _ (by simp) (by simp) (by
   obtain⟨es,clock,hb,Ft,hs,hD⟩:=hown
   exact⟨es,clock,(Below.heap_alloc _ _ b hbl).trans hb,Ft,hs,hD⟩)
 exact AnyZ.sorted_in Tryz.sorted31 Fence.wide 5 trivial trivial trivial trivial rfl (by omega) (Tryz.sorts31 _) (enters_of Tryz.func65 (by kernel_rfl) rfl) 66 #[.pointer (some ⟨w.heap.size,0,none⟩)] trivial (enters_of Tryz.func66 (by kernel_rfl) rfl) _ _ hmax hbytes _ hseq
end
end Go.Proofs
namespace Go.Proofs.YteembinfgbapgaaGreat
section
open Go.RowKit Go.Lib Go.Maps Go.WideElems Go.MapKept Go.Sort
def noRead (_:Value):Option (DataW Unit×List MemPlace):=some (.nil,[])
theorem key_str {P:Program} {k:TypeId} (hk:P.underlying k=some .string) {s:ByteArray} (h:s.size≤maxLen):keyOf P k (.string s)=some (.string s.data.toList):=by
 simp[keyOf,hk,mapKey,h]
theorem rg_ent {P:Program} {k:TypeId} (hk:P.underlying k=some .string) {x:MapEntry} {s:ByteArray} (hx:x.key=.string s) (h:s.size≤maxLen):Go.WideElems.rd P k noRead x=some (.string s.data.toList,.nil):=by
 unfold Go.WideElems.rd
 rw[hx,key_str hk h]
 rfl
theorem CatIs.ownsMap {ST CT:TypeId} {W:World} {cp mp:Nat} {E:List En} {es:List MapEntry} {clock:Nat} (h:CatIs ST CT W cp mp E es clock) {P:Program} {k:TypeId} (hk:P.underlying k=some .string) (hlen:E.length≤1000):
 ∃D0:DataW Unit,W.ownsMap P k noRead mp es.length D0∧(strKeys D0).Perm (E.map fun d=>d.y.s.data.toList)∧Maps.size D0=E.length:=by
 have hel:es.length=E.length:=by have:=congrArg List.length h.prs;rw[prs_len,List.length_map] at this;exact this
 have hkeys:es.map (·.key)=E.map fun d=>Value.string d.y.s:=by
  have:=congrArg (List.map Prod.fst) h.prs
  rw[Go.Proofs.YteembinfgbapgaaGreat.prs,List.map_map,List.map_map] at this
  exact this
 have hread:∀x∈es,∃d∈E,Go.WideElems.rd P k noRead x=some (.string d.y.s.data.toList,.nil):=fun x hx=>by
  obtain⟨i,hi⟩:=List.mem_iff_getElem?.1 hx
  obtain⟨d,hd,e1,_⟩:=nodup_of_prs h.prs hi
  exact⟨d,List.mem_of_getElem? hd,rg_ent hk e1 (h.small d (List.mem_of_getElem? hd))⟩
 have hrg:es.map (rg P k noRead)=E.map fun d=>((.string d.y.s.data.toList,.nil):Lit×DataW Unit):=by
  apply List.ext_getElem?
  intro n
  rw[List.getElem?_map,List.getElem?_map]
  cases hx:es[n]? with
  |none=>
   have:E[n]?=none:=by rw[List.getElem?_eq_none_iff] at hx ⊢;omega
   rw[this];rfl
  |some x=>
   obtain⟨d,hd,e1,_⟩:=nodup_of_prs h.prs hx
   rw[hd]
   show some (rg P k noRead x)=some _
   rw[rg_of (rg_ent hk e1 (h.small d (List.mem_of_getElem? hd)))]
 refine⟨.map ((es.toArray.toList.map (rg P k noRead)).foldr DataW.insert []),⟨es.toArray,clock,h.map,⟨by simp[maxLen];omega,⟨by simpa using h.b1,by simpa using h.b2,?_⟩,?_⟩,by simp,rfl⟩,?_,?_⟩
 ·show(es.map (·.key)).Nodup
  rw[hkeys]
  have h1:=h.names
  rw[List.nodup_iff_pairwise_ne,List.pairwise_map] at h1 ⊢
  exact h1.imp (fun hne e=>hne (by injection e))
 ·intro x hx
  obtain⟨d,_,e⟩:=hread x (by simpa using hx)
  exact⟨_,e⟩
 ·show(List.map (fun p=>strOf p.1) ((es.map (rg P k noRead)).foldr DataW.insert [])).Perm _
  refine((Go.WideShapes.sorted_perm _).map _).trans ?_
  rw[hrg,List.map_map]
  exact List.Perm.of_eq rfl
 ·show((es.map (rg P k noRead)).foldr DataW.insert []).length=_
  rw[(Go.WideShapes.sorted_perm _).length_eq,List.length_map,hel]
def cellsS (l:List ByteArray):List Value:=l.map Value.string
end
end Go.Proofs.YteembinfgbapgaaGreat
