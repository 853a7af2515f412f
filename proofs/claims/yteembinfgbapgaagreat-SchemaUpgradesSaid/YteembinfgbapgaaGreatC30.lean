/- Merged out of: Sc Sd Se Ua. -/
import Derived.Test.YteembinfgbapgaaGreatC00
import Derived.Test.YteembinfgbapgaaGreatC29
set_option linter.unusedSimpArgs false
set_option linter.unusedVariables false
set_option maxRecDepth 100000
set_option maxHeartbeats 8000000
namespace Go.Proofs.YteembinfgbapgaaGreat
section
open Go.RowKit Go.Lib
def objL (l:List Fd) (vs:List Vl):Nat→List UInt8
 |0=>List.replicate (sizeF l) 0
 |k+1=>match l[k]?,vs[k]? with
  |some f,some v=>setB (objL l vs k) l f.s v
  |_,_=>objL l vs k
def FitV (l:List Fd) (vs:List Vl):Prop:=∀(k:Nat) (f:Fd) (v:Vl),l[k]?=some f→vs[k]?=some v→rightB v.k v.b v.t f.k f.l=true∧0≤v.b∧v.b<18446744073709551616
theorem objL_inv {l:List Fd} (hr:rightF l=true) {vs:List Vl} (hlen:l.length≤vs.length) (hv:FitV l vs):∀k,k≤l.length→∃was,InvS l (objL l vs k) was∧∀j,j<k→was[j]?=vs[j]?:=by
 intro k
 induction k with
 |zero=>intro _;exact⟨l.map Fd.zv,invS_new hr rfl,fun j hj=>by omega⟩
 |succ k ih=>
  intro hk
  obtain⟨was,hi,hw⟩:=ih (by omega)
  have hf:l[k]?=some (l[k]'(by omega)):=J4 (by omega)
  have hx:vs[k]?=some (vs[k]'(by omega)):=J4 (by omega)
  generalize l[k]'(by omega)=f at hf
  generalize vs[k]'(by omega)=v at hx
  obtain⟨h1,h2,h3⟩:=hv k f v hf hx
  have e:objL l vs (k+1)=setB (objL l vs k) l f.s v:=by rw[objL,hf,hx]
  rw[e]
  refine⟨was.set k v,invS_set hr hi hf v h2 h3 (setE_right hr hi.1 hf h1),fun j hj=>?_⟩
  by_cases hjk:j=k
  ·subst hjk
   rw[List.getElem?_set_self (by rw[hi.2.1];omega),hx]
  ·rw[X6 (by omega)]
   exact hw j (by omega)
theorem objL_len {l:List Fd} (hr:rightF l=true) {vs:List Vl} (hlen:l.length≤vs.length) (hv:FitV l vs) {k:Nat} (hk:k≤l.length):(objL l vs k).length=sizeF l:=by
 obtain⟨was,h,_⟩:=objL_inv hr hlen hv k hk
 exact h.1
theorem Object_m (l:List Fd) (m:Nat) (hm:l.length=m) (hl:m≤9223372036854775807) (hr:rightF l=true) (hs:NmS l) (A:Option Addr) (cA:Nat) (vs:List Vl) (nv:Nat) (hnv:vs.length=nv) (hlv:m≤nv) (hnl:nv≤9223372036854775807) (hv:FitV l vs) (Av:Option Addr) (cv:Nat) (x:ByteArray) (hx:strL (objL l vs m)=x) (w:World) (hA:Rd w A (cellsF l)) (hV:Rd w Av (cellsVl vs)):
 Calls Tryz.prog 81 #[.slice A m cA,.slice Av nv cv] w fun e w'=>e=.returned (.string x)∧Below w.heap.size w w':=by
 obtain⟨z,hz⟩:∃z,sizeF l=z:=⟨_,rfl⟩
 obtain⟨ls,hls⟩:∃ls,layL l=ls:=⟨_,rfl⟩
 have hz4:z≤4096:=by rw[←hz];exact sizeF_le l
 have hmk:=make_bytes z (by omega)
 have hcv:∀W:World,(convert 44 9 (.slice (some ⟨W.heap.size,0,none⟩) z z)).run Tryz.prog (W.alloc (.cells (bytesV (List.replicate z 0)).toArray 5))=.ok (.string (strL (List.replicate z 0))) (W.alloc (.cells (bytesV (List.replicate z 0)).toArray 5)):=fun W=>conv_at (rd_new W (bytesV (List.replicate z 0)) 5) z z (by simp)
 have HM:=J0 hm;have HZ:=J0 hz;have HLS:=J0 hls;have HS:=J0 hs;have HNV:=J0 hnv;have HV:=J0 hv;have HR:=J0 hr;have HX:=J0 hx
 have HB:=Jy w.heap.size w
 clear hm hz hls hs hnv hv hr hx
 go_enter Tryz.func81,Tryz.ntmps81
 go_wp2_with (go_at_call 76;refine(rLayout_m A cA m l HM.out z HZ.out ls HLS.out ls.length rfl _ hA hl HS.out.fds).mono ?_;rintro e W1 ⟨B,c',rfl,_,hb⟩;replace HB:=HB.trans (hb.mono HB.size);clear hb)
 have HB0:=HB.alloc HB.size (.cells (bytesV (List.replicate z 0)).toArray 5)
 clear HB
 go_loopw [7,8,9,10] (fun s i _ _ wr=>∃(k:Nat),k≤m∧s=.string (strL (objL l vs k))∧i=.int .i64 k∧Below w.heap.size w wr) (fun _ i _ _ _=>m - (intOf i).toNat)
 case atStart=>exact⟨0,by omega,by rw[objL,HZ.out],rfl,HB0⟩
 case round=>
  obtain⟨k,hk1,rfl,rfl,HB⟩:=hrel
  clear HB0
  by_cases hlt:k<m
  ·obtain⟨f,hf⟩:∃f,l[k]?=some f:=⟨_,J4 (by rw[HM.out];exact hlt)⟩
   obtain⟨v,hvk⟩:∃v,vs[k]?=some v:=⟨_,J4 (by rw[HNV.out];omega)⟩
   obtain⟨h1,h2,h3⟩:=HV.out k f v hf hvk
   have hlen:(objL l vs k).length=sizeF l:=objL_len HR.out (by rw[HM.out,HNV.out];exact hlv) HV.out (by rw[HM.out];exact hk1)
   have he:=setE_right HR.out hlen hf h1
   have hnx:objL l vs (k+1)=setB (objL l vs k) l f.s v:=by rw[objL,hf,hvk]
   obtain⟨b,hb0⟩:∃b,objL l vs k=b:=⟨_,rfl⟩
   obtain⟨b2,hb2⟩:∃b,objL l vs (k+1)=b:=⟨_,rfl⟩
   rw[hb0] at he hnx ⊢
   rw[hb2] at hnx
   have HE:=J0 he;have HNX:=J0 hnx;have HB2:=J0 hb2;have HF:=J0 hf;have HVK:=J0 hvk
   have hj0:(0:Int)≤(k:Int):=by omega
   have hj1:(k:Int)<(m:Int):=by omega
   have hj2:(k:Int)<(nv:Int):=by omega
   obtain⟨fd,ef,_,_,_⟩:=hA.fld hf
   obtain⟨vd,ev,_,_,_⟩:=hV.vl hvk
   subst ef ev
   clear he hnx hb2 hb0 hlen h1
   have hA1:=hA.below HB
   have hV1:=hV.below HB
   clear hf hvk
   go_upto_region 6 with fail
   refine RW.start (fun w'=>Below wr.heap.size wr w') (by kernel_rfl) (by kernel_rfl) (Jy _ _).drew ?_
   repeat (first
    |(refine' RW.val (by rfl) ?_ ?_;rotate_left;(focus (intro w' hS;have HB5:=hS;obtain⟨_,ef,f0,f1,f2⟩:=(hA1.below HB5).fld HF.out;cases ef;obtain⟨_,ev,v0,v1,v2⟩:=(hV1.below HB5).vl HVK.out;cases ev;clear hS;go_simp;rfl));simp only[Act.put,J1,J3,J2])
    |(refine RW.off (by rfl) ?_;simp only[Act.put,J1,J3,J2])
    |(refine' RW.call (by rfl) ?_ ?_ ?_
      rotate_left 3
      (focus (intro w' hS;have HB5:=hS;obtain⟨_,ef,f0,f1,f2⟩:=(hA1.below HB5).fld HF.out;cases ef;obtain⟨_,ev,v0,v1,v2⟩:=(hV1.below HB5).vl HVK.out;cases ev;clear hS;go_simp;exact⟨rfl,rfl⟩))
      (focus
        intro w' hS
        have HB5:=hS;obtain⟨_,ef,f0,f1,f2⟩:=(hA1.below HB5).fld HF.out;cases ef;obtain⟨_,ev,v0,v1,v2⟩:=(hV1.below HB5).vl HVK.out;cases ev;clear hS
        first
         |(refine(rSet_m (strL b) b (by simp[bl,strL]) _ cA m l HM.out f.s v.k v.b v.t h2 h3 (strL b2) (by rw[HNX.out]) 0 HE.out _ (hA1.below HB5) hl HS.out.fds).mono ?_;rintro e w1 ⟨rfl,hb⟩;exact⟨rfl,(below_seq HB5 hb)⟩))
      simp only[Act.put,J1,J3,J2]))
   refine RW.done (fun w' hS=>?_)
   have HB5:=hS;obtain⟨_,ef,f0,f1,f2⟩:=(hA1.below HB5).fld HF.out;cases ef;obtain⟨_,ev,v0,v1,v2⟩:=(hV1.below HB5).vl HVK.out;cases ev;clear hS
   go_wp2
   go_roundw
   case rel=>exact⟨k+1,by omega,by rw[HB2.out],by go_num,HB.trans (HB5.mono HB.size)⟩
   case measure=>simp[intOf];omega
  ·obtain rfl:k=m:=by omega
   rw[HX.out]
   go_wp2
   go_ret
   exact⟨rfl,HB⟩
theorem Check_yes (l:List Fd) (m:Nat) (hm:l.length=m) (hl:m≤9223372036854775807) (hr:rightF l=true) (A:Option Addr) (cA:Nat) (b:List UInt8) (nb:Nat) (hb0:b.length=nb) (hz:sizeF l=nb) (Ab:Option Addr) (cb:Nat) (hcb:nb≤cb) (hg:∀(k:Nat) (f:Fd),l[k]?=some f→getE b l f.s=0) (w:World) (hA:Rd w A (cellsF l)) (hb:Rd w Ab (bytesV b)):
 Calls Tryz.prog 37 #[.slice Ab nb cb,.slice A m cA] w fun e w'=>e=.returned (.bool true)∧Below w.heap.size w w':=by
 obtain⟨ls,hls⟩:∃ls,layL l=ls:=⟨_,rfl⟩
 have HM:=J0 hm;have HZ:=J0 hz;have HLS:=J0 hls;have HR:=J0 hr;have HB0:=J0 hb0;have HG:=J0 hg
 have HB:=Jy w.heap.size w
 clear hm hz hls hr hb0 hg
 go_enter Tryz.func37,Tryz.ntmps37
 go_wp2_with (first
  |(go_at_call 70;refine(Layout_m A cA m l HM.out nb HZ.out ls HLS.out ls.length rfl _ hA hl).mono ?_;rintro e W1 ⟨B,c',rfl,_,hb1⟩;replace HB:=HB.trans (hb1.mono HB.size);clear hb1)
  |(go_at_call 62;refine(Right_m A cA m l HM.out true HR.out _ (hA.below HB) hl).mono ?_;rintro e W2 ⟨rfl,hb1⟩;replace HB:=HB.trans (hb1.mono HB.size);clear hb1))
 have HBs:=HB
 clear HB
 go_loopw [8,9,10,27] (fun _ _ _ i wr=>∃(k:Nat),k≤m∧i=.int .i64 k∧Below w.heap.size w wr) (fun _ _ _ i _=>m - (intOf i).toNat)
 case atStart=>exact⟨0,by omega,rfl,HBs⟩
 case round=>
  obtain⟨k,hk1,rfl,HB⟩:=hrel
  clear HBs
  by_cases hlt:k<m
  ·obtain⟨f,hf⟩:∃f,l[k]?=some f:=⟨_,J4 (by rw[HM.out];exact hlt)⟩
   have he:=HG.out k f hf
   obtain⟨v,hv⟩:∃v,getV b l f.s=v:=⟨_,rfl⟩
   have HE:=J0 he;have HV:=J0 hv
   have hj0:(0:Int)≤(k:Int):=by omega
   have hj1:(k:Int)<(m:Int):=by omega
   obtain⟨fd,ef,f0,f1,f2⟩:=(hA.below HB).fld hf
   subst ef
   have nb1:=below_new (w:=wr) (.cells #[.string f.s,.int .i64 f.k,.int .i64 f.l] 68)
   have FB:=OBox.new wr [.string f.s,.int .i64 f.k,.int .i64 f.l] 68
   clear he hv hf
   go_upto_region 7 with fail
   generalize wr.alloc (.cells #[.string f.s,.int .i64 f.k,.int .i64 f.l] 68)=W3 at *
   obtain⟨g0,g1,g2⟩:=FBox3 FB
   replace HB:=HB.trans (nb1.mono HB.size)
   clear f0 f1 f2
   go_wp2_with (go_at_call 71;refine(Get_m Ab nb cb b HB0.out _ cA m l HM.out f.s v HV.out 0 HE.out _ (hA.below HB) hl (hb.below HB) hcb).mono ?_;rintro e W4 ⟨rfl,hb1⟩;replace HB:=HB.trans (hb1.mono HB.size);clear hb1)
   go_roundw
   case rel=>exact⟨k+1,by omega,by go_num,HB.alloc HB.size _⟩
   case measure=>simp[intOf];omega
  ·obtain rfl:k=m:=by omega
   go_wp2
   go_ret
   exact⟨rfl,HB⟩
def mvV (t:Tb) (vs:List Vl) (k:Nat):Vl:=
 match t.m[k]?,t.n[k]? with
 |some m,some g=>if 0≤m.f then(match vs[m.f.toNat]?,t.o[m.f.toNat]? with|some v,some f=>castL v f g|_,_=>Vl.z) else m.d
 |_,_=>Vl.z
def outL (t:Tb) (vs:List Vl):Nat→List UInt8
 |0=>List.replicate (sizeF t.n) 0
 |k+1=>match t.n[k]? with
  |some g=>setB (outL t vs k) t.n g.s (mvV t vs k)
  |none=>outL t vs k
theorem mvV_ok {t:Tb} (ht:rightT t=true) (hw:MvW t.m) {vs:List Vl} (hlen:t.o.length≤vs.length) (hv:FitV t.o vs) {k:Nat} {g:Fd} (hg:t.n[k]?=some g):
 rightB (mvV t vs k).k (mvV t vs k).b (mvV t vs k).t g.k g.l=true∧0≤(mvV t vs k).b∧(mvV t vs k).b<18446744073709551616:=by
 obtain⟨_,_,hl,hok⟩:=rightT_iff.1 ht
 have hk:k<t.m.length:=by rw[hl];exact(J6.1 hg).1
 have hm:t.m[k]?=some (t.m[k]'hk):=J4 hk
 have hwm:=hw _ (List.getElem_mem hk)
 generalize t.m[k]'hk=m at hm hwm
 have h:=hok k hk
 rw[okAt_mk hm hg] at h
 by_cases hf:m.f=-1
 ·have e:mvV t vs k=m.d:=by unfold mvV;rw[hm,hg];simp only;rw[if_neg (by omega)]
  rw[e]
  obtain⟨mf,md⟩:=m
  obtain rfl:mf=-1:=hf
  rw[okMv_neg,Qy] at h
  exact⟨h.1,hwm.1,hwm.2⟩
 ·obtain⟨h0,_,f,hof,hc⟩:=okMv_pos hf h
  have hlo:m.f.toNat<t.o.length:=(J6.1 hof).1
  have hx:vs[m.f.toNat]?=some (vs[m.f.toNat]'(by omega)):=J4 (by omega)
  generalize vs[m.f.toNat]'(by omega)=v at hx
  have e:mvV t vs k=castL v f g:=by unfold mvV;rw[hm,hg];simp only;rw[if_pos h0,hx,hof]
  rw[e]
  obtain⟨r1,r2,r3⟩:=hv _ f v hof hx
  exact⟨castL_right r2 r3 r1 hc,castL_bd r2 r3⟩
theorem outL_inv {t:Tb} (ht:rightT t=true) (hw:MvW t.m) {vs:List Vl} (hlen:t.o.length≤vs.length) (hv:FitV t.o vs):∀k,k≤t.n.length→∃was,InvS t.n (outL t vs k) was∧∀j,j<k→was[j]?=some (mvV t vs j):=by
 have hr:=(rightT_iff.1 ht).2.1
 intro k
 induction k with
 |zero=>intro _;exact⟨t.n.map Fd.zv,invS_new hr rfl,fun j hj=>by omega⟩
 |succ k ih=>
  intro hk
  obtain⟨was,hi,hx⟩:=ih (by omega)
  have hf:t.n[k]?=some (t.n[k]'(by omega)):=J4 (by omega)
  generalize t.n[k]'(by omega)=g at hf
  obtain⟨h1,h2,h3⟩:=mvV_ok ht hw hlen hv hf
  have e:outL t vs (k+1)=setB (outL t vs k) t.n g.s (mvV t vs k):=by rw[outL,hf]
  rw[e]
  refine⟨was.set k (mvV t vs k),invS_set hr hi hf _ h2 h3 (setE_right hr hi.1 hf h1),fun j hj=>?_⟩
  by_cases hjk:j=k
  ·subst hjk
   rw[List.getElem?_set_self (by rw[hi.2.1];omega)]
  ·rw[X6 (by omega)]
   exact hx j (by omega)
theorem outL_len {t:Tb} (ht:rightT t=true) (hw:MvW t.m) {vs:List Vl} (hlen:t.o.length≤vs.length) (hv:FitV t.o vs) {k:Nat} (hk:k≤t.n.length):(outL t vs k).length=sizeF t.n:=by
 obtain⟨was,h,_⟩:=outL_inv ht hw hlen hv k hk
 exact h.1
theorem outL_get {t:Tb} (ht:rightT t=true) (hw:MvW t.m) {vs:List Vl} (hlen:t.o.length≤vs.length) (hv:FitV t.o vs) {j:Nat} {g:Fd} (hg:t.n[j]?=some g):getE (outL t vs t.n.length) t.n g.s=0∧getV (outL t vs t.n.length) t.n g.s=mvV t vs j:=by
 obtain⟨was,h,hw⟩:=outL_inv ht hw hlen hv t.n.length (J9 _)
 have hj:j<t.n.length:=(J6.1 hg).1
 obtain⟨g1,g2⟩:=h.2.2 j g _ hg (hw j hj)
 exact⟨g2,g1⟩
theorem Only.setU {u:Nat} {w W:World} (h:Only (some u) none w W) (j:Nat) (v:Value):Only (some u) none w (W.setCell ⟨u,j,none⟩ v):=
 ⟨h.os,h.tape,h.output,by have:=h.size;simpa using this,fun k hk h2 h3=>(J5 _ _ _ _ (by intro e;exact h2 (by rw[e]))).trans (h.block k hk h2 h3)⟩
theorem two_new (w:World) (P Q:List Value) (T1 T2:TypeId):OBox ((w.alloc (.cells P.toArray T1)).alloc (.cells Q.toArray T2)).drew w.heap.size P T1∧OBox ((w.alloc (.cells P.toArray T1)).alloc (.cells Q.toArray T2)).drew (w.heap.size+1) Q T2:=by
 refine⟨(OBox.new w P T1).below (Jv (below_new _)),?_⟩
 have:=OBox.new (w.alloc (.cells P.toArray T1)) Q T2
 rw[Jq] at this
 exact this
theorem VlBox {w:World} {b:Nat} {c:Vl} {T:TypeId} (h:OBox w b [.int .i64 c.k,.int .u64 c.b,.string c.t] T):w.cell? ⟨b,0,none⟩=some (.int .i64 c.k)∧w.cell? ⟨b,1,none⟩=some (.int .u64 c.b)∧w.cell? ⟨b,2,none⟩=some (.string c.t)∧w.frozen? ⟨b,0,none⟩=false∧w.frozen? ⟨b,1,none⟩=false∧w.frozen? ⟨b,2,none⟩=false:=⟨h.cell rfl,h.cell rfl,h.cell rfl,h.frz 0,h.frz 1,h.frz 2⟩
theorem tApply_m (t:Tb) (O N M:Option Addr) (co cn cm no nn nm:Nat) (hno:t.o.length=no) (hnn:t.n.length=nn) (hnm:t.m.length=nm) (ht:rightT t=true) (hw:MvW t.m) (vs:List Vl) (hlen:no≤vs.length) (hv:FitV t.o vs) (b:List UInt8) (nb:Nat) (hb0:b.length=nb) (hz0:sizeF t.o=nb) (hg:∀(k:Nat) (f:Fd),t.o[k]?=some f→getE b t.o f.s=0∧∀v,vs[k]?=some v→getV b t.o f.s=v) (Ab:Option Addr) (cb:Nat) (hcb:nb≤cb) (z:Nat) (hz:sizeF t.n=z) (w:World) (r0:Rd w O (cellsF t.o)) (r1:Rd w N (cellsF t.n)) (r2:Rd w M (cellsM t.m)) (hb:Rd w Ab (bytesV b)):
 Calls Tryz.prog 39 #[.agg #[.slice O no co,.slice N nn cn,.slice M nm cm],.slice Ab nb cb] w fun e w'=>∃B c',e=.returned (.tuple #[.slice B z c',.int .i64 0])∧z≤c'∧Rd w' B (bytesV (outL t vs nn))∧Below w.heap.size w w':=by
 have hr1:=(rightT_iff.1 ht).1
 obtain⟨s0,s1,s2⟩:=rightT_16 ht
 rw[hno] at s0;rw[hnn] at s1;rw[hnm] at s2
 have hmn:nm=nn:=by rw[←hnm,←hnn];exact(rightT_iff.1 ht).2.2.1
 have T:=OBox.new w [.slice O no co,.slice N nn cn,.slice M nm cm] 96
 have HB:=below_new (w:=w) (.cells #[.slice O no co,.slice N nn cn,.slice M nm cm] 96)
 obtain⟨T0,T1,T2,_,_,_⟩:=T.f3
 have HNO:=J0 hno;have HNN:=J0 hnn;have HNM:=J0 hnm;have HT:=J0 ht;have HW:=J0 hw;have HV:=J0 hv;have HB0:=J0 hb0;have HZ0:=J0 hz0;have HG:=J0 hg;have HZ:=J0 hz;have HR1:=J0 hr1;have HMN:=J0 hmn;have HLEN:=J0 hlen
 clear hno hnn hnm ht hw hv hb0 hz0 hg hz hr1 hmn hlen
 go_enter Tryz.func39,Tryz.ntmps39
 go_upto_region 4 with (first
  |(go_at_call 72;refine(TRight_m t O N M co cn cm no nn nm HNO.out HNN.out HNM.out (by omega) (by omega) (by omega) HW.out _ (r0.below HB) (r1.below HB) (r2.below HB)).mono ?_;rintro e W1 ⟨rfl,hb1⟩;rw[HT.out];replace HB:=HB.trans (hb1.mono HB.size);replace T:=T.below hb1;clear T0 T1 T2 hb1;obtain⟨T0,T1,T2,_,_,_⟩:=T.f3)
  |(go_at_call 37;refine(Check_yes t.o no HNO.out (by omega) HR1.out O co b nb HB0.out HZ0.out Ab cb hcb (fun k f hf=>(HG.out k f hf).1) _ (r0.below HB) (hb.below HB)).mono ?_;rintro e W2 ⟨rfl,hb1⟩;replace HB:=HB.trans (hb1.mono HB.size);replace T:=T.below hb1;clear T0 T1 T2 hb1;obtain⟨T0,T1,T2,_,_,_⟩:=T.f3)
  |(go_at_call 73;refine(New_m N cn nn t.n HNN.out z HZ.out _ (r1.below HB) (by omega)).mono ?_;rintro e W3 ⟨B,c',rfl,hc',RB,hb1⟩;replace HB:=HB.trans (hb1.mono HB.size);replace T:=T.below hb1;clear T0 T1 T2 hb1;obtain⟨T0,T1,T2,_,_,_⟩:=T.f3))
 go_wp2
 clear T0 T1 T2
 have TS:=T
 have HBS:=HB
 have RBS:=RB
 clear T HB RB
 go_loopw [6,7,8,9,10,11,12,29] (fun o _ _ _ _ _ _ i wr=>∃(k:Nat) (B:Option Addr) (c':Nat),k≤nm∧i=.int .i64 k∧o=.slice B z c'∧z≤c'∧Rd wr B (bytesV (outL t vs k))∧OBox wr w.heap.size [.slice O no co,.slice N nn cn,.slice M nm cm] 96∧Below w.heap.size w wr) (fun _ _ _ _ _ _ _ i _=>nm - (intOf i).toNat)
 case atStart=>exact⟨0,B,c',by omega,rfl,rfl,hc',by rw[outL,HZ.out];exact RBS,TS,HBS⟩
 case round=>
  clear TS HBS RBS hc'
  obtain⟨k,D,dc,hk1,rfl,rfl,hc',RB,T,HB⟩:=hrel
  by_cases hlt:k<nm
  ·obtain⟨x,hx⟩:∃x,t.m[k]?=some x:=⟨_,J4 (by rw[HNM.out];exact hlt)⟩
   obtain⟨g,hg⟩:∃y,t.n[k]?=some y:=⟨_,J4 (by rw[HNN.out,←HMN.out];exact hlt)⟩
   obtain⟨y,hy⟩:∃y,mvV t vs k=y:=⟨_,rfl⟩
   obtain⟨hyr,y0,y1⟩:=mvV_ok HT.out HW.out (by rw[HNO.out];exact HLEN.out) HV.out hg
   rw[hy] at hyr y0 y1
   have hl1:(outL t vs k).length=z:=by rw[←HZ.out];exact outL_len HT.out HW.out (by rw[HNO.out];exact HLEN.out) HV.out (by rw[HNN.out,←HMN.out];exact hk1)
   have hl2:(outL t vs (k+1)).length=z:=by rw[←HZ.out];exact outL_len HT.out HW.out (by rw[HNO.out];exact HLEN.out) HV.out (by rw[HNN.out,←HMN.out];exact hlt)
   have hse:setE (outL t vs k) t.n g.s y=0:=setE_right (rightT_iff.1 HT.out).2.1 (by rw[hl1,HZ.out]) hg hyr
   have hst:setB (outL t vs k) t.n g.s y=outL t vs (k+1):=by rw[outL,hg,hy]
   have hj0:(0:Int)≤(k:Int):=by omega
   have hj1:(k:Int)<(nm:Int):=by omega
   have hj2:(k:Int)<(nn:Int):=by have:=HMN.out;omega
   obtain⟨md,em,_,_,_,_⟩:=r2.mv hx
   obtain⟨gd,eg,_,_,_⟩:=r1.fld hg
   subst em eg
   have HX:=J0 hx;have HGK:=J0 hg;have HY:=J0 hy;have HL1:=J0 hl1;have HL2:=J0 hl2;have HSE:=J0 hse;have HST:=J0 hst
   have hall:∀W,Below wr.heap.size wr W→W.cell? ⟨w.heap.size,2,none⟩=some (.slice (some md) nm cm)∧W.cell? ⟨w.heap.size,1,none⟩=some (.slice (some gd) nn cn)∧W.cell? (md.add (k * 4))=some (.int .i64 x.f)∧W.cell? ⟨(md.add (k * 4)).block,(md.add (k * 4)).off+(0+1),none⟩=some (.int .i64 x.d.k)∧W.cell? ⟨(md.add (k * 4)).block,(md.add (k * 4)).off+(1+1),none⟩=some (.int .u64 x.d.b)∧W.cell? ⟨(md.add (k * 4)).block,(md.add (k * 4)).off+(2+1),none⟩=some (.string x.d.t)∧W.cell? (gd.add (k * 3))=some (.string g.s)∧W.cell? ⟨(gd.add (k * 3)).block,(gd.add (k * 3)).off+(0+1),none⟩=some (.int .i64 g.k)∧W.cell? ⟨(gd.add (k * 3)).block,(gd.add (k * 3)).off+(1+1),none⟩=some (.int .i64 g.l)∧Below wr.heap.size wr W:=fun W hbW=>by
    obtain⟨_,ea,c0,c1,c2,c3⟩:=((r2.below HB).below hbW).mv hx
    cases ea
    obtain⟨_,eb,g0,g1,g2⟩:=((r1.below HB).below hbW).fld hg
    cases eb
    exact⟨(T.below hbW).f3.2.2.1,(T.below hbW).f3.2.1,c0,c1,c2,c3,g0,g1,g2,hbW⟩
   clear hx hg hy hyr hl1 hl2 hse hst
   go_upto_region 7 with fail
   go_cut [8,9] (fun s8 s9 wx=>∃p q,s8=.pointer (some ⟨p,0,none⟩)∧s9=.pointer (some ⟨q,0,none⟩)∧OBox wx p [.int .i64 x.f,.int .i64 x.d.k,.int .u64 x.d.b,.string x.d.t] 137∧OBox wx q [.string g.s,.int .i64 g.k,.int .i64 g.l] 68∧Below wr.heap.size wr wx)
   case first=>
    go_region_held3 (fun W=>W.cell? ⟨w.heap.size,2,none⟩=some (.slice (some md) nm cm)∧W.cell? ⟨w.heap.size,1,none⟩=some (.slice (some gd) nn cn)∧W.cell? (md.add (k * 4))=some (.int .i64 x.f)∧W.cell? ⟨(md.add (k * 4)).block,(md.add (k * 4)).off+(0+1),none⟩=some (.int .i64 x.d.k)∧W.cell? ⟨(md.add (k * 4)).block,(md.add (k * 4)).off+(1+1),none⟩=some (.int .u64 x.d.b)∧W.cell? ⟨(md.add (k * 4)).block,(md.add (k * 4)).off+(2+1),none⟩=some (.string x.d.t)∧W.cell? (gd.add (k * 3))=some (.string g.s)∧W.cell? ⟨(gd.add (k * 3)).block,(gd.add (k * 3)).off+(0+1),none⟩=some (.int .i64 g.k)∧W.cell? ⟨(gd.add (k * 3)).block,(gd.add (k * 3)).off+(1+1),none⟩=some (.int .i64 g.l)∧Below wr.heap.size wr W) ((refine hall _ ?_;(repeat (first|assumption|exact Jy _ _|refine J8 ?_ (by dsimp only;first|exact J9 _|omega|(simp;done)) _|refine Jk ?_ (by first|exact J9 _|omega|(simp;done)) _|apply Jv)))) (fail)
    all_goals (go_wp2_with fail;go_meet;refine⟨_,_,rfl,rfl,?_,?_,?_⟩)
    all_goals first
     |exact(two_new wr [.int .i64 x.f,.int .i64 x.d.k,.int .u64 x.d.b,.string x.d.t] [.string g.s,.int .i64 g.k,.int .i64 g.l] 137 68).1
     |exact(two_new wr [.int .i64 x.f,.int .i64 x.d.k,.int .u64 x.d.b,.string x.d.t] [.string g.s,.int .i64 g.k,.int .i64 g.l] 137 68).2
     |exact(two_new wr [.string g.s,.int .i64 g.k,.int .i64 g.l] [.int .i64 x.f,.int .i64 x.d.k,.int .u64 x.d.b,.string x.d.t] 68 137).1
     |exact(two_new wr [.string g.s,.int .i64 g.k,.int .i64 g.l] [.int .i64 x.f,.int .i64 x.d.k,.int .u64 x.d.b,.string x.d.t] 68 137).2
     |exact(below_seq (below_new _) (below_new _)).drew
   case rest=>
    obtain⟨p,q,rfl,rfl,PB,QB,hb4⟩:=hcut
    clear hall
    rename World=>W4
    obtain⟨m0,m1,m2,m3,_,_,_,_⟩:=MBox4 PB
    have nb5:=below_new (w:=W4) (.cells #[.int .i64 x.d.k,.int .u64 x.d.b,.string x.d.t] 71)
    have UB:OBox (W4.alloc (.cells #[.int .i64 x.d.k,.int .u64 x.d.b,.string x.d.t] 71)) W4.heap.size [.int .i64 x.d.k,.int .u64 x.d.b,.string x.d.t] 71:=OBox.new W4 _ _
    have hpu:=PB.lt
    have hqu:=QB.lt
    go_upto_region 9 with fail
    generalize W4.alloc (.cells #[.int .i64 x.d.k,.int .u64 x.d.b,.string x.d.t] 71)=W5 at *
    clear m0 m1 m2 m3
    replace PB:=PB.below nb5
    replace QB:=QB.below nb5
    have hb5:=below_seq hb4 nb5
    obtain⟨u,hu⟩:∃u,W4.heap.size=u:=⟨_,rfl⟩
    rw[hu] at UB hpu hqu ⊢
    have hu4:wr.heap.size≤u:=by rw[←hu];exact hb4.size
    have hu5:u<W5.heap.size:=UB.lt
    clear hu hb4 nb5
    obtain⟨m0,m1,m2,m3,_,_,_,_⟩:=MBox4 PB
    go_upto_if 46 with fail
    go_cut [11,12] (fun _ _ wx=>OBox wx u [.int .i64 y.k,.int .u64 y.b,.string y.t] 71∧OBox wx q [.string g.s,.int .i64 g.k,.int .i64 g.l] 68∧Below wr.heap.size wr wx)
    case first=>
     by_cases hxf:0≤x.f
     ·have e1:decide ((0:Int)≤x.f)=true:=by simpa using hxf
      have hkk:okAt t k=true:=(rightT_iff.1 HT.out).2.2.2 k (J6.1 HX.out).1
      rw[okAt_mk HX.out HGK.out] at hkk
      obtain⟨_,_,f,hof,_⟩:=okMv_pos (by omega) hkk
      have hlo:x.f.toNat<no:=by rw[←HNO.out];exact(J6.1 hof).1
      have hxl:x.f<(no:Int):=by omega
      obtain⟨v,hvx⟩:∃v,vs[x.f.toNat]?=some v:=⟨_,J4 (by have:=HLEN.out;omega)⟩
      obtain⟨_,vb0,vb1⟩:=HV.out _ f v hof hvx
      have hyc:castL v f g=y:=by rw[←HY.out];unfold mvV;rw[HX.out,HGK.out];simp only;rw[if_pos hxf,hvx,hof]
      have hcv:=castL_va v f g
      rw[hyc] at hcv
      obtain⟨hge,hgv0⟩:=HG.out _ f hof
      have hgv:=hgv0 v hvx
      obtain⟨od,eo,_,_,_⟩:=r0.fld hof
      subst eo
      have HGE:=J0 hge;have HGV:=J0 hgv;have HCV:=J0 hcv;have HOF:=J0 hof
      clear hkk hvx hyc hcv hge hgv0 hgv hof
      go_upto_region 10 with fail
      have hall10:∀W,Below W5.heap.size W5 W→W.cell? ⟨w.heap.size,0,none⟩=some (.slice (some od) no co)∧W.cell? ⟨p,0,none⟩=some (.int .i64 x.f)∧W.cell? (od.add (x.f.toNat * 3))=some (.string f.s)∧Below W5.heap.size W5 W:=fun W hbW=>by
       have hbw:=HB.trans ((below_seq hb5 hbW).mono HB.size)
       obtain⟨_,ea,c0,_,_⟩:=(r0.below hbw).fld HOF.out
       cases ea
       exact⟨(T.below (below_seq hb5 hbW)).f3.1,(PB.below hbW).cell rfl,c0,hbW⟩
      go_cut [11,12] (fun s11 s12 wx=>∃r e,s11=.pointer (some ⟨r,0,none⟩)∧s12=.int .i64 e∧OBox wx r [.int .i64 v.k,.int .u64 v.b,.string v.t] 71∧Below W5.heap.size W5 wx∧W5.heap.size≤r)
      case first=>
       go_region_held3 (fun W=>W.cell? ⟨w.heap.size,0,none⟩=some (.slice (some od) no co)∧W.cell? ⟨p,0,none⟩=some (.int .i64 x.f)∧W.cell? (od.add (x.f.toNat * 3))=some (.string f.s)∧Below W5.heap.size W5 W) ((refine hall10 _ ?_;(repeat (first|assumption|exact Jy _ _|refine J8 ?_ (by dsimp only;first|exact J9 _|omega|(simp;done)) _|refine Jk ?_ (by first|exact J9 _|omega|(simp;done)) _|apply Jv))))
        (first
          |(go_at_call 71;obtain⟨_,_,_,HBx⟩:=‹_∧_∧_∧Below W5.heap.size W5 _›;have HBW:=HB.trans ((below_seq hb5 HBx).mono HB.size);refine(Get_m Ab nb cb b HB0.out (some od) co no t.o HNO.out f.s v HGV.out 0 HGE.out _ (r0.below HBW) (by omega) (hb.below HBW) hcb).mono ?_;rintro e' W8 ⟨rfl,hb8⟩;have HB8:Below W5.heap.size W5 W8:=below_seq HBx hb8;have hz8:=HB8.size;(first|(have RV:=OBox.below (OBox.new _ [.int .i64 0,.int .u64 0,.string ⟨#[]⟩] 71) hb8)|(have RV:=OBox.newB (cs:=[.int .i64 0,.int .u64 0,.string ⟨#[]⟩]) hb8)|skip);(first|(obtain⟨v0,v1,v2,v3,v4,v5⟩:=RV.f3)|skip)))
       all_goals (go_wp2_with fail;go_meet;refine⟨_,_,rfl,rfl,?_,?_,?_⟩)
       all_goals first
        |exact OBox.new _ _ _
        |(exact obox_set (obox_set (obox_set RV 0 _) 1 _) 2 _)
        |exact J9 _
        |exact hz8
        |(repeat (first|assumption|exact Jy _ _|refine J8 ?_ (by dsimp only;first|exact J9 _|omega|(simp;done)) _|refine Jk ?_ (by first|exact J9 _|omega|(simp;done)) _|apply Jv))
      case rest=>
       obtain⟨r,e9,rfl,rfl,RV,hb6,hr⟩:=hcut
       clear hall10 m0 m1 m2 m3
       rename World=>W6
       have P6:=PB.below hb6
       have Q6:=QB.below hb6
       have U6:=UB.below hb6
       have hb56:=below_seq hb5 hb6
       have T6:=T.below hb56
       have hz6:=hb56.size
       have hwz:=T.lt
       have hall11:∀W,Only (some u) none W6 W→W.cell? ⟨r,0,none⟩=some (.int .i64 v.k)∧W.cell? ⟨r,1,none⟩=some (.int .u64 v.b)∧W.cell? ⟨r,2,none⟩=some (.string v.t)∧W.cell? ⟨w.heap.size,0,none⟩=some (.slice (some od) no co)∧W.cell? ⟨p,0,none⟩=some (.int .i64 x.f)∧W.cell? (od.add (x.f.toNat * 3))=some (.string f.s)∧W.cell? ⟨(od.add (x.f.toNat * 3)).block,(od.add (x.f.toNat * 3)).off+(0+1),none⟩=some (.int .i64 f.k)∧W.cell? ⟨(od.add (x.f.toNat * 3)).block,(od.add (x.f.toNat * 3)).off+(1+1),none⟩=some (.int .i64 f.l)∧W.cell? ⟨q,0,none⟩=some (.string g.s)∧W.cell? ⟨q,1,none⟩=some (.int .i64 g.k)∧W.cell? ⟨q,2,none⟩=some (.int .i64 g.l)∧Only (some u) none W6 W:=fun W hO=>by
        have hbW:Below wr.heap.size W6 W:=hO.low hz6 (fun g hg=>by cases hg;exact hu4) (fun g hg=>by cases hg)
        have hbw:=HB.trans ((hb56.trans hbW).mono HB.size)
        obtain⟨_,ea,c0,c1,c2⟩:=(r0.below hbw).fld HOF.out
        cases ea
        obtain⟨a0,a1,a2,_,_,_⟩:=VlBox (RV.only hO (by simp;omega) (by simp))
        obtain⟨b0,b1,b2⟩:=FBox3 (Q6.only hO (by simp;omega) (by simp))
        exact⟨a0,a1,a2,(T6.only hO (by simp;omega) (by simp)).f3.1,(P6.only hO (by simp;omega) (by simp)).cell rfl,c0,c1,c2,b0,b1,b2,hO⟩
       go_upto_region 11 with fail
       go_region_held3 (fun W=>W.cell? ⟨r,0,none⟩=some (.int .i64 v.k)∧W.cell? ⟨r,1,none⟩=some (.int .u64 v.b)∧W.cell? ⟨r,2,none⟩=some (.string v.t)∧W.cell? ⟨w.heap.size,0,none⟩=some (.slice (some od) no co)∧W.cell? ⟨p,0,none⟩=some (.int .i64 x.f)∧W.cell? (od.add (x.f.toNat * 3))=some (.string f.s)∧W.cell? ⟨(od.add (x.f.toNat * 3)).block,(od.add (x.f.toNat * 3)).off+(0+1),none⟩=some (.int .i64 f.k)∧W.cell? ⟨(od.add (x.f.toNat * 3)).block,(od.add (x.f.toNat * 3)).off+(1+1),none⟩=some (.int .i64 f.l)∧W.cell? ⟨q,0,none⟩=some (.string g.s)∧W.cell? ⟨q,1,none⟩=some (.int .i64 g.k)∧W.cell? ⟨q,2,none⟩=some (.int .i64 g.l)∧Only (some u) none W6 W) ((refine hall11 _ ?_;repeat (first|assumption|exact Only.of (Jy _ _).drew|refine Only.setU ?_ _ _)))
        (first
          |(go_at_call 74;obtain⟨_,_,_,_,_,_,_,_,_,_,_,HOx⟩:=‹_∧_∧_∧_∧_∧_∧_∧_∧_∧_∧_∧Only (some u) none W6 _›;refine(Cast_is v.k v.b v.t f.s g.s f.k f.l g.k g.l vb0 vb1 _ _ HCV.out rfl _).mono ?_;rintro e' W8 ⟨rfl,hb8⟩;have HO8:Only (some u) none W6 W8:=Only.seq HOx hb8;have U8:=OBox.below U6 (Below.undrewS hb8);obtain⟨u0,u1,u2,u3,u4,u5⟩:=VlBox U8))
       all_goals
        have U9:OBox _ u [.int .i64 y.k,.int .u64 y.b,.string y.t] 71:=obox_set (obox_set (obox_set U8 0 (.int .i64 y.k)) 1 (.int .u64 y.b)) 2 (.string y.t)
        have HO9:=((HO8.setU 0 (.int .i64 y.k)).setU 1 (.int .u64 y.b)).setU 2 (.string y.t)
        have Q9:=Q6.only HO9 (by simp;omega) (by simp)
        have hb9:=hb56.trans (HO9.low hz6 (fun g hg=>by cases hg;exact hu4) (fun g hg=>by cases hg))
        go_wp2_with fail
        go_meet
        exact⟨U9,Q9,hb9⟩
     ·have e1:decide ((0:Int)≤x.f)=false:=by simpa using hxf
      obtain rfl:x.d=y:=by rw[←HY.out];unfold mvV;rw[HX.out,HGK.out];simp only;rw[if_neg hxf]
      go_wp2_with fail
      go_meet
      exact⟨UB,QB,hb5⟩
    case rest=>
     obtain⟨YB,QB9,hb9⟩:=hcut
     clear m0 m1 m2 m3 UB PB QB hb5
     rename World=>W9
     obtain⟨v0,v1,v2,_,_,_⟩:=VlBox YB
     obtain⟨g0,g1,g2⟩:=FBox3 QB9
     have T9:=T.below hb9
     have HB9:=HB.trans (hb9.mono HB.size)
     have RB9:=RB.below hb9
     obtain⟨T0,T1,T2,_,_,_⟩:=T9.f3
     go_wp2_with (go_at_call 75;refine(Set_m D z dc (outL t vs k) HL1.out (some gd) cn nn t.n HNN.out g.s y.k y.b y.t y0 y1 (outL t vs (k+1)) HST.out z HL2.out 0 HSE.out _ (r1.below HB9) (by omega) RB9).mono ?_)
     rintro e W10 ⟨B2,c2,rfl,hc2,R2,hbS⟩
     have HB10:=HB9.trans (hbS.mono HB9.size)
     have T10:=T9.below hbS
     go_wp2
     go_roundw
     case rel=>exact⟨k+1,B2,c2,by omega,by go_num,rfl,hc2,R2,T10,HB10⟩
     case measure=>simp[intOf];omega
  ·obtain rfl:k=nm:=by omega
   have hkn:=HMN.out
   subst hkn
   go_wp2
   refine bodyPost_ret (v:=.tuple #[.slice D z dc,.int .i64 0]) (by simp[results,Tryz.results39,go_sem, *];done) rfl ⟨D,dc,rfl,hc',RB,HB⟩
def checkB (l:List Fd) (b:List UInt8):Bool:=rightF l && decide (b.length=sizeF l) && l.all fun f=>decide (getE b l f.s=0)
theorem checkB_iff {l:List Fd} {b:List UInt8}:checkB l b=true↔rightF l=true∧b.length=sizeF l∧∀f∈l,getE b l f.s=0:=by
 simp[checkB,List.all_eq_true,and_assoc]
def valsL (l:List Fd) (b:List UInt8):List Vl:=l.map fun f=>getV b l f.s
theorem Check_m (l:List Fd) (m:Nat) (hm:l.length=m) (hl:m≤9223372036854775807) (A:Option Addr) (cA:Nat) (b:List UInt8) (nb:Nat) (hb0:b.length=nb) (hnb:nb≤9223372036854775807) (Ab:Option Addr) (cb:Nat) (hcb:nb≤cb) (w:World) (hA:Rd w A (cellsF l)) (hb:Rd w Ab (bytesV b)) (r:Bool) (hr:checkB l b=r):
 Calls Tryz.prog 37 #[.slice Ab nb cb,.slice A m cA] w fun e w'=>e=.returned (.bool r)∧Below w.heap.size w w':=by
 obtain⟨ls,hls⟩:∃ls,layL l=ls:=⟨_,rfl⟩
 obtain⟨z,hz⟩:∃z,sizeF l=z:=⟨_,rfl⟩
 obtain⟨rr,hrr⟩:∃x,rightF l=x:=⟨_,rfl⟩
 have h1:rr=false→r=false:=fun h=>by rw[←hr,checkB,hrr,h];rfl
 have h2:nb≠z→r=false:=fun h=>by rw[←hr,checkB,hb0,hz,decide_eq_false h,Bool.and_false];rfl
 have h3:∀(k:Nat) (f:Fd),l[k]?=some f→getE b l f.s≠0→r=false:=fun k f hf h=>by
  rw[←hr]
  cases hx:checkB l b with
  |false=>rfl
  |true=>exact absurd ((checkB_iff.1 hx).2.2 f (J7 hf)) h
 have h4:rr=true→nb=z→(∀(k:Nat) (f:Fd),k<m→l[k]?=some f→getE b l f.s=0)→r=true:=fun h5 h6 h7=>by
  rw[←hr,checkB_iff]
  refine⟨hrr.trans h5,by rw[hb0,hz,h6],fun f hf=>?_⟩
  obtain⟨k,hk⟩:=Qq.1 hf
  exact h7 k f (by rw[←hm];exact(J6.1 hk).1) hk
 have HM:=J0 hm;have HZ:=J0 hz;have HLS:=J0 hls;have HR:=J0 hrr;have HB0:=J0 hb0;have H1:=J0 h1;have H2:=J0 h2;have H3:=J0 h3;have H4:=J0 h4
 have HB:=Jy w.heap.size w
 clear hm hz hls hr hb0 hrr h1 h2 h3 h4
 cases rr
 ·obtain rfl:=H1.out rfl
  go_enter Tryz.func37,Tryz.ntmps37
  go_wp2_with (first|(go_at_call 70;refine(Layout_m A cA m l HM.out z HZ.out ls HLS.out ls.length rfl _ hA hl).mono ?_;rintro e W1 ⟨B,c',rfl,_,hb1⟩;replace HB:=HB.trans (hb1.mono HB.size);clear hb1)|(go_at_call 62;refine(Right_m A cA m l HM.out _ HR.out _ (hA.below HB) hl).mono ?_;rintro e W2 ⟨rfl,hb1⟩;replace HB:=HB.trans (hb1.mono HB.size);clear hb1))
  go_ret
  exact⟨rfl,HB⟩
 by_cases hlen:nb=z
 ·go_enter Tryz.func37,Tryz.ntmps37
  have hq:((nb:Int) != (z:Int))=false:=by simp[hlen]
  have hq2:(!((nb:Int) == (z:Int)))=false:=by simp[hlen]
  have hq3:((nb:Int) == (z:Int))=true:=by simp[hlen]
  have hq4:(nb != z)=false:=by simp[hlen]
  have HL:=J0 hlen
  clear hlen
  go_wp2_with (first|(go_at_call 70;refine(Layout_m A cA m l HM.out z HZ.out ls HLS.out ls.length rfl _ hA hl).mono ?_;rintro e W1 ⟨B,c',rfl,_,hb1⟩;replace HB:=HB.trans (hb1.mono HB.size);clear hb1)|(go_at_call 62;refine(Right_m A cA m l HM.out _ HR.out _ (hA.below HB) hl).mono ?_;rintro e W2 ⟨rfl,hb1⟩;replace HB:=HB.trans (hb1.mono HB.size);clear hb1))
  clear hq hq2 hq3 hq4
  have HBs:=HB
  clear HB
  go_loopw [8,9,10,27] (fun _ _ _ i wr=>∃(k:Nat),k≤m∧i=.int .i64 k∧Below w.heap.size w wr∧Hid (∀(j:Nat) (f:Fd),j<k→l[j]?=some f→getE b l f.s=0)) (fun _ _ _ i _=>m - (intOf i).toNat)
  case atStart=>exact⟨0,by omega,rfl,HBs,J0 (fun j f h=>by omega)⟩
  case round=>
   obtain⟨k,hk1,rfl,HB,hall⟩:=hrel
   clear HBs
   by_cases hlt:k<m
   ·obtain⟨f,hf⟩:∃f,l[k]?=some f:=⟨_,J4 (by rw[HM.out];exact hlt)⟩
    obtain⟨v,hv⟩:∃v,getV b l f.s=v:=⟨_,rfl⟩
    obtain⟨en,he⟩:∃v,getE b l f.s=v:=⟨_,rfl⟩
    have HE:=J0 he;have HV:=J0 hv;have HF:=J0 hf
    have hj0:(0:Int)≤(k:Int):=by omega
    have hj1:(k:Int)<(m:Int):=by omega
    obtain⟨fd,ef,f0,f1,f2⟩:=(hA.below HB).fld hf
    subst ef
    have nb1:=below_new (w:=wr) (.cells #[.string f.s,.int .i64 f.k,.int .i64 f.l] 68)
    have FB:=OBox.new wr [.string f.s,.int .i64 f.k,.int .i64 f.l] 68
    clear he hv hf
    go_upto_region 7 with fail
    generalize wr.alloc (.cells #[.string f.s,.int .i64 f.k,.int .i64 f.l] 68)=W3 at *
    obtain⟨g0,g1,g2⟩:=FBox3 FB
    replace HB:=HB.trans (nb1.mono HB.size)
    clear f0 f1 f2
    by_cases hen:en=0
    ·subst hen
     go_wp2_with (go_at_call 71;refine(Get_m Ab nb cb b HB0.out _ cA m l HM.out f.s v HV.out 0 HE.out _ (hA.below HB) hl (hb.below HB) hcb).mono ?_;rintro e W4 ⟨rfl,hb1⟩;replace HB:=HB.trans (hb1.mono HB.size);clear hb1)
     go_roundw
     case rel=>
      refine⟨k+1,by omega,by go_num,HB.alloc HB.size _,J0 (fun j g hj hg=>?_)⟩
      rcases(by omega:j<k∨j=k) with h|rfl
      ·exact hall.out j g h hg
      ·rw[HF.out] at hg;cases hg;exact HE.out
     case measure=>simp[intOf];omega
    ·have e1:(en == 0)=false:=by simpa using hen
     have e2:(en != 0)=true:=by simpa using hen
     obtain rfl:=H3.out k f HF.out (by rw[HE.out];exact hen)
     go_wp2_with (go_at_call 71;refine(Get_m Ab nb cb b HB0.out _ cA m l HM.out f.s v HV.out en HE.out _ (hA.below HB) hl (hb.below HB) hcb).mono ?_;rintro e W4 ⟨rfl,hb1⟩;replace HB:=HB.trans (hb1.mono HB.size);clear hb1)
     go_ret
     exact⟨rfl,HB.alloc HB.size _⟩
   ·obtain rfl:k=m:=by omega
    obtain rfl:=H4.out (by trivial) HL.out hall.out
    clear hall
    go_wp2
    go_ret
    exact⟨rfl,HB⟩
 ·obtain rfl:=H2.out hlen
  have e1:((nb:Int) == (z:Int))=false:=by simp;omega
  have e2:(nb != z)=true:=by simpa using hlen
  have e3:((nb:Int) != (z:Int))=true:=by simp[bne,e1]
  go_enter Tryz.func37,Tryz.ntmps37
  go_wp2_with (first|(go_at_call 70;refine(Layout_m A cA m l HM.out z HZ.out ls HLS.out ls.length rfl _ hA hl).mono ?_;rintro e W1 ⟨B,c',rfl,_,hb1⟩;replace HB:=HB.trans (hb1.mono HB.size);clear hb1)|(go_at_call 62;refine(Right_m A cA m l HM.out _ HR.out _ (hA.below HB) hl).mono ?_;rintro e W2 ⟨rfl,hb1⟩;replace HB:=HB.trans (hb1.mono HB.size);clear hb1))
  go_ret
  exact⟨rfl,HB⟩
def upgL (ts:List Tb) (b:List UInt8):List UInt8:=ts.foldl (fun b t=>outL t (valsL t.o b) t.n.length) b
end
end Go.Proofs.YteembinfgbapgaaGreat
