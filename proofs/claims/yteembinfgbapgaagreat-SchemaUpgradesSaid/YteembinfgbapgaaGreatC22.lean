/- Merged out of: Oa Ob Oc. -/
import Derived.Test.YteembinfgbapgaaGreatC00
import Derived.Test.YteembinfgbapgaaGreatC21
set_option linter.unusedSimpArgs false
set_option linter.unusedVariables false
set_option maxRecDepth 100000
set_option maxHeartbeats 8000000
namespace Go.Proofs.YteembinfgbapgaaGreat
section
open Go.RowKit Go.Lib
theorem rng_count (m:Nat) (k:Nat):(rng m).count (k:Int)=if k<m then 1 else 0:=by
 induction m with
 |zero=>simp[rng]
 |succ m ih=>
  rw[rng_succ,List.count_append,ih]
  by_cases h:k=m
  ·subst h;simp
  ·have:¬((m:Int)=(k:Int)):=by omega
   rw[List.count_singleton]
   simp[this]
   split <;> split <;> omega
theorem perm_count {q:List Int} {m:Nat}:permB q m=(decide (∀k:Nat,k<m→q.count (k:Int)=1) && decide (q.length=m)):=by
 rw[Qx,Qy,decide_eq_true_eq,decide_eq_true_eq]
 constructor
 ·intro h
  refine⟨fun k hk=>?_,perm_len h⟩
  rw[(of_decide_eq_true h).count_eq,rng_count,if_pos hk]
 ·rintro ⟨h,hl⟩
  exact decide_eq_true (perm_of_all m q hl fun k hk=>List.count_pos_iff.1 (by rw[h k hk];omega))
theorem count_step {q:List Int} {j:Nat} {x:Int} (hx:q[j]?=some x) (k:Int):(q.take (j+1)).count k=(q.take j).count k+(if x=k then 1 else 0):=by
 rw[Vq,hx,List.count_append]
 simp[List.count_singleton]
theorem rall_m (q:List Int) (n:Nat) (hn:q.length=n) (Q:Option Addr) (qc m:Nat) (hl:n≤17592186044415) (hm:m≤9223372036854775806) (w:World) (RQ:Rd w Q (cellsI q)):
 Calls Tryz.prog 172 #[.slice Q n qc,.int .i64 (m:Int)] w fun e w'=>e=.returned (.bool (permB q m))∧w=w':=by
 obtain⟨r,hr⟩:∃r,permB q m=r:=⟨_,rfl⟩
 have hrr:=perm_count (q:=q) (m:=m)
 rw[hr,hn] at hrr
 rw[hr]
 have HN:=J0 hn
 have HRR:=J0 hrr
 clear hr hrr hn
 go_enter Tryz.func172,Tryz.ntmps172
 go_wp2
 go_loopw [5,6,7] (fun i _ _ wr=>∃k:Nat,k≤m∧i=.int .i64 k∧wr=w∧Hid (∀j:Nat,j<k→q.count (j:Int)=1)) (fun i _ _ _=>m - (intOf i).toNat)
 case atStart=>exact⟨0,by omega,rfl,rfl,J0 (fun j hj=>by omega)⟩
 case round=>
  obtain⟨k,hk,rfl,rfl,hall⟩:=hrel
  by_cases hlt:k<m
  ·have hi1:(k:Int)<(m:Int):=by omega
   go_wp2
   go_loopw [6,7] (fun f i wx=>∃j:Nat,j≤n∧i=.int .i64 j∧f=.int .i64 (((q.take j).count (k:Int):Nat):Int)∧wx=wr) (fun _ i _=>n - (intOf i).toNat)
   case atStart=>exact⟨0,by omega,rfl,rfl,rfl⟩
   case round=>
    obtain⟨j,hj,rfl,rfl,rfl⟩:=hrel
    by_cases hjn:j<n
    ·obtain⟨x,hx⟩:∃x,q[j]?=some x:=⟨_,J4 (by rw[HN.out];exact hjn)⟩
     have hc0:(cellsI q)[j]?=some (.int .i64 x):=by simp[cellsI,hx]
     obtain⟨ad,rfl,hc⟩:=RQ.at hc0
     have hi2:(0:Int)≤(j:Int):=by omega
     have hi3:(j:Int)<(n:Int):=by omega
     have HS:=J0 (count_step hx (k:Int))
     have hcl:(q.take j).count (k:Int)≤n:=Q7 List.count_le_length (by rw[Qv];omega)
     clear hx hc0
     obtain⟨z,hz⟩:∃z,(q.take j).count (k:Int)=z:=⟨_,rfl⟩
     rw[hz] at hcl HS ⊢
     clear hz
     by_cases hxk:x=(k:Int)
     ·have y1:(x == (k:Int))=true:=by simp[hxk]
      have HS2:Hid ((q.take (j+1)).count (k:Int)=z+1):=J0 (by rw[HS.out,if_pos hxk])
      clear hxk
      go_wp2
      go_roundw
      case rel=>exact⟨j+1,by omega,by go_num,by rw[HS2.out];go_num,by trivial⟩
      case measure=>simp[intOf];omega
     ·have y1:(x == (k:Int))=false:=by simp[hxk]
      have HS2:Hid ((q.take (j+1)).count (k:Int)=z):=J0 (by rw[HS.out,if_neg hxk];rfl)
      clear hxk
      go_wp2
      go_roundw
      case rel=>exact⟨j+1,by omega,by go_num,by rw[HS2.out],by trivial⟩
      case measure=>simp[intOf];omega
    ·obtain rfl:j=n:=by omega
     have hqq:q.take j=q:=Vz (by rw[HN.out];exact J9 _)
     rw[hqq]
     obtain⟨z,hz⟩:∃z,q.count (k:Int)=z:=⟨_,rfl⟩
     rw[hz]
     by_cases hz1:z=1
     ·have y1:((z:Int) != 1)=false:=by simp[hz1]
      have hall2:Hid (∀i:Nat,i<k+1→q.count (i:Int)=1):=J0 (fun i hi=>by
       rcases(by omega:i<k∨i=k) with h|rfl
       ·exact hall.out i h
       ·rw[hz,hz1])
      clear hz hz1 hqq hall
      go_wp2
      go_roundw
      case rel=>exact⟨k+1,by omega,by go_num,by trivial,hall2⟩
      case measure=>simp[intOf];omega
     ·have y1:((z:Int) != 1)=true:=by simp;omega
      obtain rfl:r=false:=by
       have hno:¬∀i:Nat,i<m→q.count (i:Int)=1:=fun h=>hz1 (by rw[←hz];exact h k hlt)
       rw[HRR.out,decide_eq_false hno];rfl
      clear hz hz1 hqq hall
      go_wp2
      go_ret
      exact⟨rfl,rfl⟩
  ·obtain rfl:k=m:=by omega
   have hrn:r=decide (n=k):=by rw[HRR.out,decide_eq_true hall.out];rfl
   clear hall HRR
   by_cases hnk:n=k
   ·have y1:((n:Int) == (k:Int))=true:=by simp[hnk]
    obtain rfl:r=true:=by rw[hrn];simp[hnk]
    clear hrn hnk
    go_wp2
    go_ret
    exact⟨rfl,rfl⟩
   ·have y1:((n:Int) == (k:Int))=false:=by simp;omega
    obtain rfl:r=false:=by rw[hrn];simp[hnk]
    clear hrn
    go_wp2
    go_ret
    exact⟨rfl,rfl⟩
structure TO (w W:World) (base ob:Nat) (xO vF vM:Value) (fs:List Fd) (ms:List Mv) (T TM:TypeId):Prop where
 O:OBox W ob [xO,vF,vM] T
 F:W.ownsRow base 68 3 vF fs.length (cellsF fs)
 M:W.ownsRow base TM 4 vM ms.length (cellsM ms)
 ap:∀g,vF.ownBlock=some g→vM.ownBlock≠some g
 lo:ob<base
 B:Below w.heap.size w W
 hob:w.heap.size≤ob
theorem TO.below {w W W':World} {base ob:Nat} {xO vF vM:Value} {fs:List Fd} {ms:List Mv} {T TM:TypeId} (h:TO w W base ob xO vF vM fs ms T TM) (hb:Below W.heap.size W W'):TO w W' base ob xO vF vM fs ms T TM:=
 ⟨h.O.below hb,own_below h.F hb,own_below h.M hb,h.ap,h.lo,h.B.trans (hb.mono h.B.size),h.hob⟩
theorem TO.store {w W:World} {base ob:Nat} {xO vF vM:Value} {fs:List Fd} {ms:List Mv} {T TM:TypeId} (h:TO w W base ob xO vF vM fs ms T TM) {b:Nat} (j:Nat) (v:Value) (hb:w.heap.size≤b) (hne:b≠ob) (hF:vF.ownBlock≠some b) (hM:vM.ownBlock≠some b):TO w (W.setCell ⟨b,j,none⟩ v) base ob xO vF vM fs ms T TM:=
 ⟨(J5 _ _ _ _ (by show ob≠b;omega)).trans h.O,own_keep h.F (fun g hg=>J5 _ _ _ _ (by rintro rfl;exact hF hg)),own_keep h.M (fun g hg=>J5 _ _ _ _ (by rintro rfl;exact hM hg)),h.ap,h.lo,h.B.setCell hb v,h.hob⟩
theorem TO.ltF {w W:World} {base ob:Nat} {xO vF vM:Value} {fs:List Fd} {ms:List Mv} {T TM:TypeId} (h:TO w W base ob xO vF vM fs ms T TM):∀g,vF.ownBlock=some g→base≤g∧g<W.heap.size:=fun g hg=>⟨own_base h.F g hg,own_lt h.F g hg⟩
theorem TO.ltM {w W:World} {base ob:Nat} {xO vF vM:Value} {fs:List Fd} {ms:List Mv} {T TM:TypeId} (h:TO w W base ob xO vF vM fs ms T TM):∀g,vM.ownBlock=some g→base≤g∧g<W.heap.size:=fun g hg=>⟨own_base h.M g hg,own_lt h.M g hg⟩
theorem TO.lt {w W:World} {base ob:Nat} {xO vF vM:Value} {fs:List Fd} {ms:List Mv} {T TM:TypeId} (h:TO w W base ob xO vF vM fs ms T TM):ob<W.heap.size:=h.O.lt
theorem TO.addF {w U U1 W5:World} {base ob:Nat} {xO vF vM v':Value} {fs:List Fd} {ms:List Mv} {T TM:TypeId} (h:TO w U base ob xO vF vM fs ms T TM) (nf:Below U.heap.size U U1) (g:Fd) (gr:U1.grownBy W5 vF.ownBlock) (hb:base≤U.heap.size)
 (own':W5.ownsRow base 68 3 v' (fs.length+1) (cellsF fs++[.string g.s,.int .i64 g.k,.int .i64 g.l])) (hat:v'.ownBlock=vF.ownBlock∨v'.ownBlock=some U1.heap.size):
 OBox W5 ob [xO,vF,vM] T∧TO w (W5.setCell ⟨ob,1,none⟩ v') base ob xO v' vM (fs++[g]) ms T TM∧∀b,b<base→b≠ob→(W5.setCell ⟨ob,1,none⟩ v').heap[b]?=U.heap[b]?:=by
 have z1:=nf.size
 have z2:=gr.size
 have lo:=h.lo
 have ltF:=h.ltF
 have ltM:=h.ltM
 have O1:=(h.O.below nf).grown gr (by intro e;have:=(ltF _ e.symm).1;omega)
 have bl:∀b,b<base→b≠ob→(W5.setCell ⟨ob,1,none⟩ v').heap[b]?=U.heap[b]?:=fun b hb1 hb2=>
  (J5 _ _ _ _ (by show b≠ob;exact hb2)).trans ((gr.block b (by omega) (by intro e;have:=(ltF _ e.symm).1;omega)).trans (nf.block b (by omega)))
 refine⟨O1,⟨obox_set O1 1 v',?_,?_,?_,lo,?_,h.hob⟩,bl⟩
 ·refine own_eq (own_keep own' (fun k hk=>J5 _ _ _ _ (by have:=own_base own' k hk;show k≠ob;omega))) (by simp) (by rw[cellsF_append];rfl)
 ·exact own_keep (own_grown (own_below h.M nf) gr (fun k hk e=>h.ap k e.symm hk)) (fun k hk=>J5 _ _ _ _ (by have:=(ltM k hk).1;show k≠ob;omega))
 ·intro k hk hm
  rcases hat with e|e
  ·exact h.ap k (by rw[←e];exact hk) hm
  ·rw[hk] at e;have e:=Jj e;have:=(ltM k hm).2;omega
 ·exact((h.B.trans (nf.mono h.B.size)).grown gr (by have:=h.B.size;omega) (fun k hk=>by have:=(ltF k hk).1;have:=h.hob;omega)).setCell h.hob v'
theorem TO.addM {w U U1 W5:World} {base ob:Nat} {xO vF vM v':Value} {fs:List Fd} {ms:List Mv} {T TM:TypeId} (h:TO w U base ob xO vF vM fs ms T TM) (nf:Below U.heap.size U U1) (m:Mv) (gr:U1.grownBy W5 vM.ownBlock) (hb:base≤U.heap.size)
 (own':W5.ownsRow base TM 4 v' (ms.length+1) (cellsM ms++[.int .i64 m.f,.int .i64 m.d.k,.int .u64 m.d.b,.string m.d.t])) (hat:v'.ownBlock=vM.ownBlock∨v'.ownBlock=some U1.heap.size):
 OBox W5 ob [xO,vF,vM] T∧TO w (W5.setCell ⟨ob,2,none⟩ v') base ob xO vF v' fs (ms++[m]) T TM∧∀b,b<base→b≠ob→(W5.setCell ⟨ob,2,none⟩ v').heap[b]?=U.heap[b]?:=by
 have z1:=nf.size
 have z2:=gr.size
 have lo:=h.lo
 have ltF:=h.ltF
 have ltM:=h.ltM
 have O1:=(h.O.below nf).grown gr (by intro e;have:=(ltM _ e.symm).1;omega)
 have bl:∀b,b<base→b≠ob→(W5.setCell ⟨ob,2,none⟩ v').heap[b]?=U.heap[b]?:=fun b hb1 hb2=>
  (J5 _ _ _ _ (by show b≠ob;exact hb2)).trans ((gr.block b (by omega) (by intro e;have:=(ltM _ e.symm).1;omega)).trans (nf.block b (by omega)))
 refine⟨O1,⟨obox_set O1 2 v',?_,?_,?_,lo,?_,h.hob⟩,bl⟩
 ·exact own_keep (own_grown (own_below h.F nf) gr (fun k hk e=>h.ap k hk e.symm)) (fun k hk=>J5 _ _ _ _ (by have:=(ltF k hk).1;show k≠ob;omega))
 ·refine own_eq (own_keep own' (fun k hk=>J5 _ _ _ _ (by have:=own_base own' k hk;show k≠ob;omega))) (by simp) (by rw[cellsM_append];rfl)
 ·intro k hk hm
  rcases hat with e|e
  ·exact h.ap k hk (by rw[←e];exact hm)
  ·rw[hm] at e;have e:=Jj e;have:=(ltF k hk).2;omega
 ·exact((h.B.trans (nf.mono h.B.size)).grown gr (by have:=h.B.size;omega) (fun k hk=>by have:=(ltM k hk).1;have:=h.hob;omega)).setCell h.hob v'
def RkP (t:Tb) (code:Int) (w:World) (e:Ending) (w':World):Prop:=
 ∃X0 y0 z0 X1 y1 z1 X2 y2 z2,e=.returned (.tuple #[.agg #[.slice X0 y0 z0,.slice X1 y1 z1,.slice X2 y2 z2],.int .i64 code])∧TVP (fun _=>True) w' (.agg #[.slice X0 y0 z0,.slice X1 y1 z1,.slice X2 y2 z2]) t∧Below w.heap.size w w'
theorem rMake_form (l:List Fd) (c:Ch) (m:Nat) (hm:l.length=m) (hl:m≤9223372036854775807) (A:Option Addr) (cA:Nat) (Q:Option Addr) (n qc:Nat) (hn:c.q.length=n) (hn1:n≤17592186044415) (x0:0≤c.d.b) (x1:c.d.b<18446744073709551616) (sl:FdS l) (sg:c.g.s.size≤9223372036854775807) (w:World) (hA:Rd w A (cellsF l)) (RQ:Rd w Q (cellsI c.q)) (hr:rightF l=false):
 Calls Tryz.prog 154 #[.slice A m cA,.agg #[.int .i64 c.op,.string c.s,.string c.g.s,.int .i64 c.g.k,.int .i64 c.g.l,.int .i64 c.d.k,.int .u64 c.d.b,.string c.d.t,.slice Q n qc]] w fun e w'=>RkP Tb.z 60 w e w':=by
 have bb1:=below_new (w:=w) (.cells #[.int .i64 c.op,.string c.s,.string c.g.s,.int .i64 c.g.k,.int .i64 c.g.l,.int .i64 c.d.k,.int .u64 c.d.b,.string c.d.t,.slice Q n qc] 73)
 have bb2:=below_new (w:=w.alloc (.cells #[.int .i64 c.op,.string c.s,.string c.g.s,.int .i64 c.g.k,.int .i64 c.g.l,.int .i64 c.d.k,.int .u64 c.d.b,.string c.d.t,.slice Q n qc] 73)) (.cells #[.slice none 0 0,.slice none 0 0,.slice none 0 0] 110)
 have bb3:=below_new (w:=(w.alloc (.cells #[.int .i64 c.op,.string c.s,.string c.g.s,.int .i64 c.g.k,.int .i64 c.g.l,.int .i64 c.d.k,.int .u64 c.d.b,.string c.d.t,.slice Q n qc] 73)).alloc (.cells #[.slice none 0 0,.slice none 0 0,.slice none 0 0] 110)) (.cells #[.slice none 0 0,.slice none 0 0,.slice none 0 0] 110)
 have C:CBox _ _ c (.slice Q n qc) 73:=((OBox.new w (chL c (.slice Q n qc)) 73).below bb2).below bb3
 have N:=(OBox.new (w.alloc (.cells #[.int .i64 c.op,.string c.s,.string c.g.s,.int .i64 c.g.k,.int .i64 c.g.l,.int .i64 c.d.k,.int .u64 c.d.b,.string c.d.t,.slice Q n qc] 73)) [.slice none 0 0,.slice none 0 0,.slice none 0 0] 110).below bb3
 have Z:=OBox.new ((w.alloc (.cells #[.int .i64 c.op,.string c.s,.string c.g.s,.int .i64 c.g.k,.int .i64 c.g.l,.int .i64 c.d.k,.int .u64 c.d.b,.string c.d.t,.slice Q n qc] 73)).alloc (.cells #[.slice none 0 0,.slice none 0 0,.slice none 0 0] 110)) [.slice none 0 0,.slice none 0 0,.slice none 0 0] 110
 rw[Jq] at N
 rw[Jq,Jq] at Z
 have HB:=below_seq (below_seq bb1 bb2) bb3
 have hA1:=hA.below HB
 obtain⟨a0,a1,a2,a3,a4,a5,a6,a7,a8⟩:=C.c9
 obtain⟨n1,n2,n3,o1,o2,o3⟩:=N.f3
 obtain⟨i1,i2,i3,j1,j2,j3⟩:=Z.f3
 obtain⟨z,hz⟩:∃z,findZ l c.s=z:=⟨_,rfl⟩
 have HZ:=J0 hz
 have HM:=J0 hm
 have HN:=J0 hn
 clear bb1 bb2 bb3
 have HR:=J0 hr
 clear hr hz hm hn
 go_enter Tryz.func154,Tryz.ntmps154
 go_wp2_with (first
  |(go_at_call 114;refine(rFind_m A cA m l HM.out c.s z HZ.out _ hA1 hl).mono ?_;rintro e w' ⟨rfl,rfl⟩)
  |(go_at_call 77;refine(rRight_m A cA m l HM.out false HR.out _ hA1 hl sl).mono ?_;rintro e W0 ⟨rfl,hb⟩;replace HB:=HB.trans (hb.mono HB.size);replace hA1:=hA1.below hb;replace C:=C.below hb;replace N:=N.below hb;replace Z:=Z.below hb;clear hb a0 a1 a2 a3 a4 a5 a6 a7 a8 n1 n2 n3 o1 o2 o3 i1 i2 i3 j1 j2 j3;obtain⟨a0,a1,a2,a3,a4,a5,a6,a7,a8⟩:=C.c9;obtain⟨n1,n2,n3,o1,o2,o3⟩:=N.f3;obtain⟨i1,i2,i3,j1,j2,j3⟩:=Z.f3))
 refine bodyPost_ret (v:=.tuple #[.agg #[.slice none 0 0,.slice none 0 0,.slice none 0 0],.int .i64 60]) (by simp[results,Tryz.results154,go_sem, *];done) rfl ⟨_,_,_,_,_,_,_,_,_,rfl,TVP.z _ _,?_⟩
 exact((HB.setCell (by show w.heap.size≤w.heap.size+1;omega) _).setCell (by show w.heap.size≤w.heap.size+1;omega) _).setCell (by show w.heap.size≤w.heap.size+1;omega) _
theorem rMake_low (l:List Fd) (c:Ch) (m:Nat) (hm:l.length=m) (hl:m≤9223372036854775807) (A:Option Addr) (cA:Nat) (Q:Option Addr) (n qc:Nat) (hn:c.q.length=n) (hn1:n≤17592186044415) (x0:0≤c.d.b) (x1:c.d.b<18446744073709551616) (sl:FdS l) (sg:c.g.s.size≤9223372036854775807) (w:World) (hA:Rd w A (cellsF l)) (RQ:Rd w Q (cellsI c.q)) (hr:rightF l=true) (ho:c.op<1):
 Calls Tryz.prog 154 #[.slice A m cA,.agg #[.int .i64 c.op,.string c.s,.string c.g.s,.int .i64 c.g.k,.int .i64 c.g.l,.int .i64 c.d.k,.int .u64 c.d.b,.string c.d.t,.slice Q n qc]] w fun e w'=>RkP Tb.z 80 w e w':=by
 have bb1:=below_new (w:=w) (.cells #[.int .i64 c.op,.string c.s,.string c.g.s,.int .i64 c.g.k,.int .i64 c.g.l,.int .i64 c.d.k,.int .u64 c.d.b,.string c.d.t,.slice Q n qc] 73)
 have bb2:=below_new (w:=w.alloc (.cells #[.int .i64 c.op,.string c.s,.string c.g.s,.int .i64 c.g.k,.int .i64 c.g.l,.int .i64 c.d.k,.int .u64 c.d.b,.string c.d.t,.slice Q n qc] 73)) (.cells #[.slice none 0 0,.slice none 0 0,.slice none 0 0] 110)
 have bb3:=below_new (w:=(w.alloc (.cells #[.int .i64 c.op,.string c.s,.string c.g.s,.int .i64 c.g.k,.int .i64 c.g.l,.int .i64 c.d.k,.int .u64 c.d.b,.string c.d.t,.slice Q n qc] 73)).alloc (.cells #[.slice none 0 0,.slice none 0 0,.slice none 0 0] 110)) (.cells #[.slice none 0 0,.slice none 0 0,.slice none 0 0] 110)
 have C:CBox _ _ c (.slice Q n qc) 73:=((OBox.new w (chL c (.slice Q n qc)) 73).below bb2).below bb3
 have N:=(OBox.new (w.alloc (.cells #[.int .i64 c.op,.string c.s,.string c.g.s,.int .i64 c.g.k,.int .i64 c.g.l,.int .i64 c.d.k,.int .u64 c.d.b,.string c.d.t,.slice Q n qc] 73)) [.slice none 0 0,.slice none 0 0,.slice none 0 0] 110).below bb3
 have Z:=OBox.new ((w.alloc (.cells #[.int .i64 c.op,.string c.s,.string c.g.s,.int .i64 c.g.k,.int .i64 c.g.l,.int .i64 c.d.k,.int .u64 c.d.b,.string c.d.t,.slice Q n qc] 73)).alloc (.cells #[.slice none 0 0,.slice none 0 0,.slice none 0 0] 110)) [.slice none 0 0,.slice none 0 0,.slice none 0 0] 110
 rw[Jq] at N
 rw[Jq,Jq] at Z
 have HB:=below_seq (below_seq bb1 bb2) bb3
 have hA1:=hA.below HB
 obtain⟨a0,a1,a2,a3,a4,a5,a6,a7,a8⟩:=C.c9
 obtain⟨n1,n2,n3,o1,o2,o3⟩:=N.f3
 obtain⟨i1,i2,i3,j1,j2,j3⟩:=Z.f3
 obtain⟨z,hz⟩:∃z,findZ l c.s=z:=⟨_,rfl⟩
 have HZ:=J0 hz
 have HM:=J0 hm
 have HN:=J0 hn
 clear bb1 bb2 bb3
 have y1:decide (c.op<1)=true:=by simpa using ho
 clear ho
 have HR:=J0 hr
 clear hr hz hm hn
 go_enter Tryz.func154,Tryz.ntmps154
 go_wp2_with (first
  |(go_at_call 114;refine(rFind_m A cA m l HM.out c.s z HZ.out _ hA1 hl).mono ?_;rintro e w' ⟨rfl,rfl⟩)
  |(go_at_call 77;refine(rRight_m A cA m l HM.out true HR.out _ hA1 hl sl).mono ?_;rintro e W0 ⟨rfl,hb⟩;replace HB:=HB.trans (hb.mono HB.size);replace hA1:=hA1.below hb;replace C:=C.below hb;replace N:=N.below hb;replace Z:=Z.below hb;clear hb a0 a1 a2 a3 a4 a5 a6 a7 a8 n1 n2 n3 o1 o2 o3 i1 i2 i3 j1 j2 j3;obtain⟨a0,a1,a2,a3,a4,a5,a6,a7,a8⟩:=C.c9;obtain⟨n1,n2,n3,o1,o2,o3⟩:=N.f3;obtain⟨i1,i2,i3,j1,j2,j3⟩:=Z.f3))
 refine bodyPost_ret (v:=.tuple #[.agg #[.slice none 0 0,.slice none 0 0,.slice none 0 0],.int .i64 80]) (by simp[results,Tryz.results154,go_sem, *];done) rfl ⟨_,_,_,_,_,_,_,_,_,rfl,TVP.z _ _,?_⟩
 exact((HB.setCell (by show w.heap.size≤w.heap.size+1;omega) _).setCell (by show w.heap.size≤w.heap.size+1;omega) _).setCell (by show w.heap.size≤w.heap.size+1;omega) _
theorem rMake_high (l:List Fd) (c:Ch) (m:Nat) (hm:l.length=m) (hl:m≤9223372036854775807) (A:Option Addr) (cA:Nat) (Q:Option Addr) (n qc:Nat) (hn:c.q.length=n) (hn1:n≤17592186044415) (x0:0≤c.d.b) (x1:c.d.b<18446744073709551616) (sl:FdS l) (sg:c.g.s.size≤9223372036854775807) (w:World) (hA:Rd w A (cellsF l)) (RQ:Rd w Q (cellsI c.q)) (hr:rightF l=true) (ho:5<c.op):
 Calls Tryz.prog 154 #[.slice A m cA,.agg #[.int .i64 c.op,.string c.s,.string c.g.s,.int .i64 c.g.k,.int .i64 c.g.l,.int .i64 c.d.k,.int .u64 c.d.b,.string c.d.t,.slice Q n qc]] w fun e w'=>RkP Tb.z 80 w e w':=by
 have bb1:=below_new (w:=w) (.cells #[.int .i64 c.op,.string c.s,.string c.g.s,.int .i64 c.g.k,.int .i64 c.g.l,.int .i64 c.d.k,.int .u64 c.d.b,.string c.d.t,.slice Q n qc] 73)
 have bb2:=below_new (w:=w.alloc (.cells #[.int .i64 c.op,.string c.s,.string c.g.s,.int .i64 c.g.k,.int .i64 c.g.l,.int .i64 c.d.k,.int .u64 c.d.b,.string c.d.t,.slice Q n qc] 73)) (.cells #[.slice none 0 0,.slice none 0 0,.slice none 0 0] 110)
 have bb3:=below_new (w:=(w.alloc (.cells #[.int .i64 c.op,.string c.s,.string c.g.s,.int .i64 c.g.k,.int .i64 c.g.l,.int .i64 c.d.k,.int .u64 c.d.b,.string c.d.t,.slice Q n qc] 73)).alloc (.cells #[.slice none 0 0,.slice none 0 0,.slice none 0 0] 110)) (.cells #[.slice none 0 0,.slice none 0 0,.slice none 0 0] 110)
 have C:CBox _ _ c (.slice Q n qc) 73:=((OBox.new w (chL c (.slice Q n qc)) 73).below bb2).below bb3
 have N:=(OBox.new (w.alloc (.cells #[.int .i64 c.op,.string c.s,.string c.g.s,.int .i64 c.g.k,.int .i64 c.g.l,.int .i64 c.d.k,.int .u64 c.d.b,.string c.d.t,.slice Q n qc] 73)) [.slice none 0 0,.slice none 0 0,.slice none 0 0] 110).below bb3
 have Z:=OBox.new ((w.alloc (.cells #[.int .i64 c.op,.string c.s,.string c.g.s,.int .i64 c.g.k,.int .i64 c.g.l,.int .i64 c.d.k,.int .u64 c.d.b,.string c.d.t,.slice Q n qc] 73)).alloc (.cells #[.slice none 0 0,.slice none 0 0,.slice none 0 0] 110)) [.slice none 0 0,.slice none 0 0,.slice none 0 0] 110
 rw[Jq] at N
 rw[Jq,Jq] at Z
 have HB:=below_seq (below_seq bb1 bb2) bb3
 have hA1:=hA.below HB
 obtain⟨a0,a1,a2,a3,a4,a5,a6,a7,a8⟩:=C.c9
 obtain⟨n1,n2,n3,o1,o2,o3⟩:=N.f3
 obtain⟨i1,i2,i3,j1,j2,j3⟩:=Z.f3
 obtain⟨z,hz⟩:∃z,findZ l c.s=z:=⟨_,rfl⟩
 have HZ:=J0 hz
 have HM:=J0 hm
 have HN:=J0 hn
 clear bb1 bb2 bb3
 have y1:decide (c.op<1)=false:=by simp;omega
 have y2:decide (5<c.op)=true:=by simpa using ho
 clear ho
 have HR:=J0 hr
 clear hr hz hm hn
 go_enter Tryz.func154,Tryz.ntmps154
 go_wp2_with (first
  |(go_at_call 114;refine(rFind_m A cA m l HM.out c.s z HZ.out _ hA1 hl).mono ?_;rintro e w' ⟨rfl,rfl⟩)
  |(go_at_call 77;refine(rRight_m A cA m l HM.out true HR.out _ hA1 hl sl).mono ?_;rintro e W0 ⟨rfl,hb⟩;replace HB:=HB.trans (hb.mono HB.size);replace hA1:=hA1.below hb;replace C:=C.below hb;replace N:=N.below hb;replace Z:=Z.below hb;clear hb a0 a1 a2 a3 a4 a5 a6 a7 a8 n1 n2 n3 o1 o2 o3 i1 i2 i3 j1 j2 j3;obtain⟨a0,a1,a2,a3,a4,a5,a6,a7,a8⟩:=C.c9;obtain⟨n1,n2,n3,o1,o2,o3⟩:=N.f3;obtain⟨i1,i2,i3,j1,j2,j3⟩:=Z.f3))
 refine bodyPost_ret (v:=.tuple #[.agg #[.slice none 0 0,.slice none 0 0,.slice none 0 0],.int .i64 80]) (by simp[results,Tryz.results154,go_sem, *];done) rfl ⟨_,_,_,_,_,_,_,_,_,rfl,TVP.z _ _,?_⟩
 exact((HB.setCell (by show w.heap.size≤w.heap.size+1;omega) _).setCell (by show w.heap.size≤w.heap.size+1;omega) _).setCell (by show w.heap.size≤w.heap.size+1;omega) _
theorem rMake_none (l:List Fd) (c:Ch) (m:Nat) (hm:l.length=m) (hl:m≤9223372036854775807) (A:Option Addr) (cA:Nat) (Q:Option Addr) (n qc:Nat) (hn:c.q.length=n) (hn1:n≤17592186044415) (x0:0≤c.d.b) (x1:c.d.b<18446744073709551616) (sl:FdS l) (sg:c.g.s.size≤9223372036854775807) (w:World) (hA:Rd w A (cellsF l)) (RQ:Rd w Q (cellsI c.q)) (hr:rightF l=true) (ho:2≤c.op∧c.op≤4) (hf:findZ l c.s<0):
 Calls Tryz.prog 154 #[.slice A m cA,.agg #[.int .i64 c.op,.string c.s,.string c.g.s,.int .i64 c.g.k,.int .i64 c.g.l,.int .i64 c.d.k,.int .u64 c.d.b,.string c.d.t,.slice Q n qc]] w fun e w'=>RkP Tb.z 61 w e w':=by
 have bb1:=below_new (w:=w) (.cells #[.int .i64 c.op,.string c.s,.string c.g.s,.int .i64 c.g.k,.int .i64 c.g.l,.int .i64 c.d.k,.int .u64 c.d.b,.string c.d.t,.slice Q n qc] 73)
 have bb2:=below_new (w:=w.alloc (.cells #[.int .i64 c.op,.string c.s,.string c.g.s,.int .i64 c.g.k,.int .i64 c.g.l,.int .i64 c.d.k,.int .u64 c.d.b,.string c.d.t,.slice Q n qc] 73)) (.cells #[.slice none 0 0,.slice none 0 0,.slice none 0 0] 110)
 have bb3:=below_new (w:=(w.alloc (.cells #[.int .i64 c.op,.string c.s,.string c.g.s,.int .i64 c.g.k,.int .i64 c.g.l,.int .i64 c.d.k,.int .u64 c.d.b,.string c.d.t,.slice Q n qc] 73)).alloc (.cells #[.slice none 0 0,.slice none 0 0,.slice none 0 0] 110)) (.cells #[.slice none 0 0,.slice none 0 0,.slice none 0 0] 110)
 have C:CBox _ _ c (.slice Q n qc) 73:=((OBox.new w (chL c (.slice Q n qc)) 73).below bb2).below bb3
 have N:=(OBox.new (w.alloc (.cells #[.int .i64 c.op,.string c.s,.string c.g.s,.int .i64 c.g.k,.int .i64 c.g.l,.int .i64 c.d.k,.int .u64 c.d.b,.string c.d.t,.slice Q n qc] 73)) [.slice none 0 0,.slice none 0 0,.slice none 0 0] 110).below bb3
 have Z:=OBox.new ((w.alloc (.cells #[.int .i64 c.op,.string c.s,.string c.g.s,.int .i64 c.g.k,.int .i64 c.g.l,.int .i64 c.d.k,.int .u64 c.d.b,.string c.d.t,.slice Q n qc] 73)).alloc (.cells #[.slice none 0 0,.slice none 0 0,.slice none 0 0] 110)) [.slice none 0 0,.slice none 0 0,.slice none 0 0] 110
 rw[Jq] at N
 rw[Jq,Jq] at Z
 have HB:=below_seq (below_seq bb1 bb2) bb3
 have hA1:=hA.below HB
 obtain⟨a0,a1,a2,a3,a4,a5,a6,a7,a8⟩:=C.c9
 obtain⟨n1,n2,n3,o1,o2,o3⟩:=N.f3
 obtain⟨i1,i2,i3,j1,j2,j3⟩:=Z.f3
 obtain⟨z,hz⟩:∃z,findZ l c.s=z:=⟨_,rfl⟩
 have HZ:=J0 hz
 have HM:=J0 hm
 have HN:=J0 hn
 clear bb1 bb2 bb3
 have y1:decide (c.op<1)=false:=by simp;omega
 have y2:decide (5<c.op)=false:=by simp;omega
 have y3:decide (2≤c.op)=true:=by simp;omega
 have y4:decide (c.op≤4)=true:=by simp;omega
 have y5:decide (z<0)=true:=by rw[hz] at hf;simpa using hf
 clear ho hf
 have HR:=J0 hr
 clear hr hz hm hn
 go_enter Tryz.func154,Tryz.ntmps154
 go_wp2_with (first
  |(go_at_call 114;refine(rFind_m A cA m l HM.out c.s z HZ.out _ hA1 hl).mono ?_;rintro e w' ⟨rfl,rfl⟩)
  |(go_at_call 77;refine(rRight_m A cA m l HM.out true HR.out _ hA1 hl sl).mono ?_;rintro e W0 ⟨rfl,hb⟩;replace HB:=HB.trans (hb.mono HB.size);replace hA1:=hA1.below hb;replace C:=C.below hb;replace N:=N.below hb;replace Z:=Z.below hb;clear hb a0 a1 a2 a3 a4 a5 a6 a7 a8 n1 n2 n3 o1 o2 o3 i1 i2 i3 j1 j2 j3;obtain⟨a0,a1,a2,a3,a4,a5,a6,a7,a8⟩:=C.c9;obtain⟨n1,n2,n3,o1,o2,o3⟩:=N.f3;obtain⟨i1,i2,i3,j1,j2,j3⟩:=Z.f3))
 refine bodyPost_ret (v:=.tuple #[.agg #[.slice none 0 0,.slice none 0 0,.slice none 0 0],.int .i64 61]) (by simp[results,Tryz.results154,go_sem, *];done) rfl ⟨_,_,_,_,_,_,_,_,_,rfl,TVP.z _ _,?_⟩
 exact((HB.setCell (by show w.heap.size≤w.heap.size+1;omega) _).setCell (by show w.heap.size≤w.heap.size+1;omega) _).setCell (by show w.heap.size≤w.heap.size+1;omega) _
end
end Go.Proofs.YteembinfgbapgaaGreat
