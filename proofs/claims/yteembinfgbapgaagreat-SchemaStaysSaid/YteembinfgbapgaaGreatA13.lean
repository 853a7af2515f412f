/- Merged out of: Nc Nd. -/
import Derived.Test.YteembinfgbapgaaGreatA12
set_option linter.unusedSimpArgs false
set_option linter.unusedVariables false
set_option maxRecDepth 100000
set_option maxHeartbeats 8000000
namespace Go.Proofs.YteembinfgbapgaaGreat
section
open Go.RowKit
def RdB (b:Nat) (w:World) (A:Option Addr) (cs:List Value):Prop:=cs≠[]→∃ad,A=some ad∧ad.block<b∧∀j u,cs[j]?=some u→w.cell? (ad.add j)=some u
theorem RdB.rd {b:Nat} {w:World} {A:Option Addr} {cs:List Value} (h:RdB b w A cs):Rd w A cs:=fun hn=>by
 obtain⟨ad,e,_,hc⟩:=h hn;exact⟨ad,e,hc⟩
theorem RdB.below {b:Nat} {w w1:World} {A:Option Addr} {cs:List Value} (h:RdB b w A cs) (hb:Below b w w1):RdB b w1 A cs:=fun hn=>by
 obtain⟨ad,e,hl,hc⟩:=h hn
 refine⟨ad,e,hl,fun j u hj=>(hb.cell ?_).trans (hc j u hj)⟩
 have:(ad.add j).block=ad.block:=by unfold Addr.add;split <;> rfl
 rw[this];exact hl
theorem RdB.mk {w w1:World} {A:Option Addr} {cs:List Value} (h:Rd w A cs) (hb:Below w.heap.size w w1) {b:Nat} (hl:w.heap.size≤b):RdB b w1 A cs:=fun hn=>by
 obtain⟨ad,e,hc⟩:=h.below hb hn
 obtain⟨ad',e',hc'⟩:=h hn
 rw[e] at e';cases e'
 refine⟨ad,e,?_,hc⟩
 cases cs with
 |nil=>exact absurd rfl hn
 |cons u r=>
  have h0:=World.block_lt_of_cell? w _ (hc' 0 u rfl)
  have:(ad.add 0).block=ad.block:=by unfold Addr.add;split <;> rfl
  rw[this] at h0;omega
def OwnLt (b:Nat) (v:Value):Prop:=∀k,v.ownBlock=some k→k<b
theorem own_keep {w w1:World} {base:Nat} {e:TypeId} {size n:Nat} {v:Value} {xs:List Value} (h:w.ownsRow base e size v n xs) (hk:∀g,v.ownBlock=some g→w1.heap[g]?=w.heap[g]?):w1.ownsRow base e size v n xs:=by
 obtain⟨h1,h2⟩:=h
 refine⟨h1,?_⟩
 rcases h2 with h2|⟨g,cap,cur,rfl,hg,hh,r⟩
 ·exact .inl h2
 ·exact .inr ⟨g,cap,cur,rfl,hg,(hk g (by simp[Value.ownBlock])).trans hh,r⟩
theorem own_belowB {w w1:World} {base B:Nat} {e:TypeId} {size n:Nat} {v:Value} {xs:List Value} (h:w.ownsRow base e size v n xs) (hl:OwnLt B v) (hb:Below B w w1):w1.ownsRow base e size v n xs:=
 own_keep h fun g hg=>hb.block g (hl g hg)
theorem RdB.own {w:World} {base b n m c:Nat} {e:TypeId} {size:Nat} {A:Option Addr} {xs:List Value} (h:w.ownsRow base e size (.slice A m c) n xs) (hl:OwnLt b (.slice A m c)):RdB b w A xs:=by
 obtain⟨A',c',e1,_,_,hr⟩:=own_rd h
 cases e1
 intro hn
 obtain⟨ad,rfl,hc⟩:=hr hn
 exact⟨ad,rfl,hl _ (by simp[Value.ownBlock]),hc⟩
theorem OwnLt.mono {b b':Nat} {v:Value} (h:OwnLt b v) (hb:b≤b'):OwnLt b' v:=fun k hk=>by have:=h k hk;omega
theorem CloneF_m (A:Option Addr) (c m:Nat) (l:List Fd) (hm:l.length=m) (w:World) (hA:Rd w A (cellsF l)) (hl:m≤4398046511104) (hlc:m≤c):
 Calls Tryz.prog 35 #[.slice A m c] w fun e w'=>∃B d,e=.returned (.slice B m d)∧m≤d∧w'.ownsRow w.heap.size 68 3 (.slice B m d) m (cellsF l)∧Below w.heap.size w w':=by
 subst hm
 refine(CloneF_calls A c l w hA hl hlc).mono ?_
 rintro e w' ⟨v,rfl,ho,hb⟩
 obtain⟨B,d,rfl,hd,_,_⟩:=own_rd ho
 exact⟨B,d,rfl,hd,ho,hb⟩
theorem TSame_yes (A:Option Addr) (c m:Nat) (l:List Fd) (hm:l.length=m) (hr:rightF l=true) (w:World) (hA:Rd w A (cellsF l)) (hl:m≤9223372036854775807) (hc:m≤c):
 Calls Tryz.prog 45 #[.slice A m c] w fun e w'=>∃B d v2 v3 b1 b2,e=.returned (.agg #[.slice B m d,v2,v3])∧w.heap.size≤b1∧b1≤b2∧b2≤w'.heap.size∧RdB b1 w' B (cellsF l)∧(∀ad,B=some ad→w.heap.size≤ad.block∧ad.block<b1)∧w'.ownsRow b1 68 3 v2 m (cellsF l)∧OwnLt b2 v2∧w'.ownsRow b2 137 4 v3 m (cellsM (kM m))∧Below w.heap.size w w':=by
 obtain⟨i0,hi,hz0,hz1,hz2⟩:=info_parts infoMv
 have h16:m≤16:=by rw[←hm];exact(rightF_may hr).2
 have hb1:=below_new (w:=w) (.cells #[.slice none 0 0,.slice none 0 0,.slice none 0 0] 96)
 have R:=OBox.new w [.slice none 0 0,.slice none 0 0,.slice none 0 0] 96
 have HB:=hb1
 replace hA:=hA.below hb1
 have HM:=Lib.hid hm
 have HR:=Lib.hid hr
 have tok1:=True.intro
 clear hm hr hb1
 go_enter Tryz.func45,Tryz.ntmps45
 go_wp2_with (first
  |(go_at_call 62;refine(Right_m A c m l HM.out true HR.out _ hA hl).mono ?_;rintro e W1 ⟨rfl,hb⟩;replace HB:=HB.trans (hb.mono HB.size);replace R:=R.below hb;replace hA:=hA.below hb;have hz1W:w.heap.size+1≤W1.heap.size:=R.lt;clear hb)
  |(have _t:=tok1;go_at_call 35;refine(CloneF_m A c m l HM.out _ hA (by omega) hc).mono ?_;rintro e W2 ⟨B,d,rfl,hd,own1,hb⟩;replace HB:=HB.trans (hb.mono HB.size);replace R:=R.below hb;replace hA:=hA.below hb;have hz12:=HB.size;have h12:=hb.size;clear hb tok1;have tok2:=True.intro)
  |(have _t:=tok2;go_at_call 35;refine(CloneF_m A c m l HM.out _ hA (by omega) hc).mono ?_;rintro e W3 ⟨B2,d2,rfl,hd2,own2,hb3⟩;replace HB:=HB.trans (hb3.mono HB.size);replace R:=R.below hb3;clear hA tok2))
 have O:=OBox.new W3 [.slice B m d,.slice B2 m d2,.slice none 0 0] 96
 have hb2:=below_new (w:=W3) (.cells #[.slice B m d,.slice B2 m d2,.slice none 0 0] 96)
 have hzW:w.heap.size<W3.heap.size:=R.lt
 have h23:=hb3.size
 have lt1:OwnLt W2.heap.size (.slice B m d):=own_lt own1
 have own1':=own_mono (own_below (own_below own1 hb3) hb2) hz1W
 have own2':=own_below own2 hb2
 have lt2:OwnLt W3.heap.size (.slice B2 m d2):=own_lt own2
 have R0:=R.below hb2
 have HB0:=HB.trans (hb2.mono HB.size)
 clear hb2 HB R own1 own2 hb3
 go_loopw [4,16] (fun i j wr=>∃(k:Nat) (v:Value),k≤m∧j=.int .i64 k∧wr.ownsRow (W3.heap.size+1) 137 4 v k (cellsM (kM k))∧OBox wr W3.heap.size [.slice B m d,.slice B2 m d2,v] 96∧OBox wr w.heap.size [.slice none 0 0,.slice none 0 0,.slice none 0 0] 96∧Below w.heap.size w wr∧W3.heap.size<wr.heap.size∧wr.ownsRow (w.heap.size+1) 68 3 (.slice B m d) m (cellsF l)∧wr.ownsRow W2.heap.size 68 3 (.slice B2 m d2) m (cellsF l)) (fun _ i _=>m - (intOf i).toNat)
 case atStart=>exact⟨0,_,by omega,rfl,own_nil _ _ _ _,O,R0,HB0,by simp,own1',own2'⟩
 case round=>
  obtain⟨k,v,hk,rfl,hown,O,R,HB,hz,own1,own2⟩:=hrel
  clear R0 HB0
  by_cases hlt:k<m
  ·have HK:=Lib.hid (kM_succ k)
   obtain⟨k0,k1,k2,f0,f1,f2⟩:=(O.below (below_new (w:=wr) (.cells #[.int .i64 k,.int .i64 0,.int .u64 0,.string ⟨#[]⟩] 137))).f3
   obtain⟨q0,q1,q2,p0,p1,p2⟩:=O.f3
   go_wp2_with (at_builtin;refine wpList_append_own _ rfl _ _ 94 rfl (W3.heap.size+1) 137 i0 (.agg #[.int .i64 0,.int .i64 0,.int .u64 0,.string ⟨#[]⟩]) 4 40 Tryz.underlying94 hi hz0 hz1 hz2 rfl (by decide) _ _ _ rfl (hown.alloc _) ⟨wr.heap.size,0,none⟩ 1 1 [.int .i64 k,.int .i64 0,.int .u64 0,.string ⟨#[]⟩] rfl rfl ?c1 ?c2 ?c3 ?c4 ?c5 ?_)
   case c1=>exact news4 _ _ _ _ _ _
   case c2=>intro u hu;simp at hu;rcases hu with rfl|rfl|rfl|rfl <;> rfl
   case c3=>simp only[maxLen];omega
   case c4=>omega
   case c5=>simp;omega
   intro v' w3 hown' hgrow _
   have BG:Below (W3.heap.size+1) wr w3:=((Below.refl _ _).alloc (by omega) (.cells #[.int .i64 k,.int .i64 0,.int .u64 0,.string ⟨#[]⟩] 137)).grown hgrow (by simp;omega) (fun q hq=>own_base hown q hq)
   have O3:OBox w3 W3.heap.size [.slice B m d,.slice B2 m d2,v] 96:=(BG.block _ (by omega)).trans O
   have R3:OBox w3 w.heap.size [.slice none 0 0,.slice none 0 0,.slice none 0 0] 96:=(BG.block _ (by omega)).trans R
   have HB3:=HB.trans (BG.mono (by omega))
   have hown3:w3.ownsRow (W3.heap.size+1) 137 4 v' (k+1) (cellsM (kM (k+1))):=own_eq hown' (by simp) (by rw[HK.out,cellsM_append];rfl)
   have hz3:=BG.size
   obtain⟨B',c',rfl,_,_,_⟩:=own_rd hown3
   clear hown' hgrow hown k0 k1 k2 f0 f1 f2 q0 q1 q2 p0 p1 p2
   obtain⟨k0,k1,k2,f0,f1,f2⟩:=O3.f3
   go_wp2
   go_roundw
   case rel=>
    have BS:Below W3.heap.size wr (w3.setCell ⟨W3.heap.size,2,none⟩ (.slice B' (k+1) c')):=(BG.mono (Nat.le_succ _)).setCell (Nat.le_refl _) _
    exact⟨k+1,_,by omega,by go_num,ownsRow_setCell_below hown3 (by show _<_;simp) _,obox_set O3 2 _,(Below.heap_setCell _ _ _ _ (by show _≠_;simp;omega)).trans R3,HB3.setCell (by show _≤_;simp;omega) _,by simp;omega,own_belowB own1 lt1 (BS.mono h23),own_belowB own2 lt2 BS⟩
   case measure=>simp[intOf];omega
  ·obtain rfl:k=m:=by omega
   obtain⟨B',c',rfl,_,_,_⟩:=own_rd hown
   obtain⟨k0,k1,k2,f0,f1,f2⟩:=O.f3
   obtain⟨q0,q1,q2,p0,p1,p2⟩:=R.f3
   go_wp2
   refine bodyPost_ret (v:=.agg #[.slice B k d,.slice B2 k d2,.slice B' k c']) (by simp[results,Tryz.results45,go_sem, *];done) rfl ⟨B,d,_,_,W2.heap.size,W3.heap.size,rfl,hz12,h23,?_,?_,?_,?_,lt2,?_,?_⟩
   ·simp;omega
   ·refine RdB.own (ownsRow_setCell_below (ownsRow_setCell_below (ownsRow_setCell_below own1 ?_ _) ?_ _) ?_ _) lt1 <;> (show _<_;simp)
   ·intro ad e;have:=own_base own1 ad.block (by rw[e];rfl);have:=lt1 ad.block (by rw[e];rfl);omega
   ·refine ownsRow_setCell_below (ownsRow_setCell_below (ownsRow_setCell_below own2 ?_ _) ?_ _) ?_ _ <;> (show _<_;simp;omega)
   ·refine own_mono (ownsRow_setCell_below (ownsRow_setCell_below (ownsRow_setCell_below hown ?_ _) ?_ _) ?_ _) (Nat.le_succ _) <;> (show _<_;simp;omega)
   ·(repeat (first|exact HB|refine Below.setCell ?_ (by dsimp only;omega) _|refine Below.alloc ?_ (by have hs_:=HB.size;first|(simp;done)|(simp;omega)|omega) _|apply Below.drew))
theorem MBox.new (w:World) (m:Mv) (T:TypeId):MBox (w.alloc (.cells #[.int .i64 m.f,.int .i64 m.d.k,.int .u64 m.d.b,.string m.d.t] T)) w.heap.size m:=⟨cell_new _ _ _ _ _ rfl,cell_new _ _ _ _ _ rfl,cell_new _ _ _ _ _ rfl,cell_new _ _ _ _ _ rfl⟩
def FdS (fs:List Fd):Prop:=∀f∈fs,f.s.size≤9223372036854775807
theorem vl_ways {d:Vl} (hz:¬d=Vl.z):(d.k == 0)=false∨((d.k == 0)=true∧(d.b == 0)=false)∨((d.k == 0)=true∧(d.b == 0)=true∧(d.t.toList == [])=false):=by
 rw[←ByteArray.toList_nil_beq d.t]
 obtain⟨dk,db,dt⟩:=d
 by_cases e1:dk=0
 ·by_cases e2:db=0
  ·refine .inr (.inr ⟨by simp[e1],by simp[e2],?_⟩)
   rw[name_beq]
   exact decide_eq_false fun e3=>hz (by have e3:dt=_:=e3;show(⟨dk,db,dt⟩:Vl)=Vl.z;rw[e1,e2,e3];rfl)
  ·exact .inr (.inl ⟨by simp[e1],by simp[e2]⟩)
 ·exact .inl (by simp[e1])
theorem rTRight_m (t:Tb) (Ao An Am:Option Addr) (co cn cm no nn nm:Nat) (hno:t.o.length=no) (hnn:t.n.length=nn) (hnm:t.m.length=nm) (l0:no≤9223372036854775807) (l1:nn≤9223372036854775807) (l2:nm≤9223372036854775807) (hw:MvW t.m) (so:FdS t.o) (sn:FdS t.n)
 (w:World) (ao:Rd w Ao (cellsF t.o)) (an:Rd w An (cellsF t.n)) (am:Rd w Am (cellsM t.m)):
 Calls Tryz.prog 79 #[.agg #[.slice Ao no co,.slice An nn cn,.slice Am nm cm]] w fun e w'=>e=.returned (.bool (rightT t))∧Below w.heap.size w w':=by
 obtain⟨r,hr⟩:∃r,rightT t=r:=⟨_,rfl⟩
 obtain⟨r1,hr1⟩:∃r,rightF t.o=r:=⟨_,rfl⟩
 obtain⟨r2,hr2⟩:∃r,rightF t.n=r:=⟨_,rfl⟩
 have hrr:r=(r1 && r2 && decide (nm=nn) && decide (∀k,k<nm→okAt t k=true)):=by rw[←hr,←hr1,←hr2,←hnm,←hnn,rightT]
 rw[hr]
 have hb1:=below_new (w:=w) (.cells #[.slice Ao no co,.slice An nn cn,.slice Am nm cm] 110)
 have O:=TBox.new w (.slice Ao no co) (.slice An nn cn) (.slice Am nm cm) 110
 have HB:=hb1
 replace ao:=ao.below hb1
 replace an:=an.below hb1
 replace am:=am.below hb1
 obtain⟨O0,O1,O2⟩:=id O
 have HR1:=Lib.hid hr1
 have HR2:=Lib.hid hr2
 have HRR:=Lib.hid hrr
 have HNO:=Lib.hid hno
 have HNN:=Lib.hid hnn
 have HNM:=Lib.hid hnm
 have HW:=Lib.hid hw
 have SO:=Lib.hid so
 have SN:=Lib.hid sn
 have tok1:=True.intro
 clear hr hr1 hr2 hrr hno hnn hnm hb1 hw so sn
 cases r1
 ·obtain rfl:r=false:=by rw[HRR.out];rfl
  go_enter Tryz.func79,Tryz.ntmps79
  go_wp2_with (go_at_call 77;refine(rRight_m Ao co no t.o HNO.out false HR1.out _ ao l0 SO.out).mono ?_;rintro e wM ⟨rfl,hb⟩;replace HB:=HB.trans (hb.mono HB.size);replace O:=O.below hb;obtain⟨O0,O1,O2⟩:=id O;clear hb)
  go_ret
  exact⟨rfl,HB⟩
 cases r2
 ·obtain rfl:r=false:=by rw[HRR.out];rfl
  go_enter Tryz.func79,Tryz.ntmps79
  go_wp2_with (first
   |(have _t:=tok1;go_at_call 77;refine(rRight_m Ao co no t.o HNO.out true HR1.out _ ao l0 SO.out).mono ?_;rintro e wM ⟨rfl,hb⟩;replace HB:=HB.trans (hb.mono HB.size);replace an:=an.below hb;replace am:=am.below hb;replace O:=O.below hb;obtain⟨O0,O1,O2⟩:=id O;clear hb tok1;have tok2:=True.intro)
   |(have _t:=tok2;go_at_call 77;refine(rRight_m An cn nn t.n HNN.out false HR2.out _ an l1 SN.out).mono ?_;rintro e wM ⟨rfl,hb⟩;replace HB:=HB.trans (hb.mono HB.size);replace O:=O.below hb;obtain⟨O0,O1,O2⟩:=id O;clear hb tok2;have tok3:=True.intro))
  go_ret
  exact⟨rfl,HB⟩
 by_cases hlen:nm=nn
 ·have hz:((nm:Int) != (nn:Int))=false:=by rw[hlen];simp
  have HL:=Lib.hid hlen
  clear hlen
  go_enter Tryz.func79,Tryz.ntmps79
  go_wp2_with (first
   |(have _t:=tok1;go_at_call 77;refine(rRight_m Ao co no t.o HNO.out true HR1.out _ ao l0 SO.out).mono ?_;rintro e wM ⟨rfl,hb⟩;replace HB:=HB.trans (hb.mono HB.size);replace ao:=ao.below hb;replace an:=an.below hb;replace am:=am.below hb;replace O:=O.below hb;obtain⟨O0,O1,O2⟩:=id O;clear hb tok1;have tok2:=True.intro)
   |(have _t:=tok2;go_at_call 77;refine(rRight_m An cn nn t.n HNN.out true HR2.out _ an l1 SN.out).mono ?_;rintro e wM ⟨rfl,hb⟩;replace HB:=HB.trans (hb.mono HB.size);replace ao:=ao.below hb;replace an:=an.below hb;replace am:=am.below hb;replace O:=O.below hb;obtain⟨O0,O1,O2⟩:=id O;clear hb tok2;have tok3:=True.intro))
  rename World=>W1
  have ao0:=ao
  have an0:=an
  have am0:=am
  have O':=O
  have HB0:=HB
  clear ao an am O HB
  go_loopw [3,4] (fun i _ wr=>∃k:Nat,k≤nm∧i=.int .i64 k∧Below w.heap.size w wr∧Rd wr Ao (cellsF t.o)∧Rd wr An (cellsF t.n)∧Rd wr Am (cellsM t.m)∧TBox wr w.heap.size (.slice Ao no co) (.slice An nn cn) (.slice Am nm cm)∧Hid (∀j,j<k→okAt t j=true)) (fun i _ _=>nm - (intOf i).toNat)
  case atStart=>exact⟨0,by omega,rfl,HB0,ao0,an0,am0,O',Lib.hid (fun j hj=>by omega)⟩
  case round=>
   obtain⟨k,hk,rfl,HB,ao,an,am,O,hall⟩:=hrel
   clear HB0 ao0 an0 am0 O' O0 O1 O2
   obtain⟨O0,O1,O2⟩:=id O
   by_cases hlt:k<nm
   ·obtain⟨x,hx⟩:∃x,t.m[k]?=some x:=⟨_,List.getElem?_eq_getElem (by rw[HNM.out];exact hlt)⟩
    have hln:k<nn:=by have:=HL.out;omega
    obtain⟨g,hg⟩:∃y,t.n[k]?=some y:=⟨_,List.getElem?_eq_getElem (by rw[HNN.out];exact hln)⟩
    have hat:okAt t k=okMv t.o g x:=by simp[okAt,hx,hg]
    obtain⟨b0,b1⟩:=HW.out x (List.mem_of_getElem? hx)
    obtain⟨s,hs⟩:∃s,okMv t.o g x=s:=⟨_,rfl⟩
    have HX:=Lib.hid hx
    have HG:=Lib.hid hg
    have HS:=Lib.hid hs
    have HAT:=Lib.hid (hat.trans hs)
    obtain⟨ad,ea,c0,c1,c2,c3⟩:=am.mv hx
    obtain⟨bd,eb,_,_,_⟩:=an.fld hg
    have hno:s=false→r=false:=fun hs=>by
     have hn:¬∀j,j<nm→okAt t j=true:=fun h=>by have:=h k hlt;rw[HAT.out,hs] at this;cases this
     rw[HRR.out,decide_eq_false hn];simp
    have hyes:s=true→Hid (∀j,j<k+1→okAt t j=true):=fun hs=>Lib.hid (fun j hj=>by
     rcases(by omega:j<k∨j=k) with h|rfl
     ·exact hall.out j h
     ·rw[HAT.out];exact hs)
    have HNOT:=Lib.hid hno
    have HYES:=Lib.hid hyes
    have hi0:(0:Int)≤(k:Int):=by omega
    have hi1:(k:Int)<(nn:Int):=by omega
    have hi2:(k:Int)<(nm:Int):=by omega
    clear hx hg hat hs hno hyes hall
    have M:=MBox.new wr x 157
    have hbm:=below_new (w:=wr) (.cells #[.int .i64 x.f,.int .i64 x.d.k,.int .u64 x.d.b,.string x.d.t] 157)
    have HBo:=HB
    have Oo:=O
    replace HB:=HB.trans (hbm.mono HB.size)
    replace ao:=ao.below hbm
    replace an:=an.below hbm
    replace am:=am.below hbm
    replace O:=O.below hbm
    obtain⟨M0,M1,M2,M3⟩:=id M
    obtain⟨P0,P1,P2⟩:=id O
    subst ea eb
    clear hbm
    by_cases hlow:x.f< -1
    ·have h1:decide (x.f< -1)=true:=by simpa using hlow
     obtain rfl:s=false:=by rw[←HS.out,okMv,if_neg (by omega),decide_eq_false (by omega)];rfl
     obtain rfl:=HNOT.out rfl
     go_wp2
     go_ret
     exact⟨rfl,HB⟩
    have h1:decide (x.f< -1)=false:=by simpa using hlow
    by_cases hbig:(no:Int)≤x.f
    ·have h2:decide ((no:Int)≤x.f)=true:=by simpa using hbig
     obtain rfl:s=false:=by rw[←HS.out,okMv,if_neg (by omega),List.getElem?_eq_none (by rw[HNO.out];omega)];simp
     obtain rfl:=HNOT.out rfl
     go_wp2
     go_ret
     exact⟨rfl,HB⟩
    have h2:decide ((no:Int)≤x.f)=false:=by simpa using hbig
    by_cases hf:x.f=-1
    ·have e1:(x.f == -1)=true:=by simp[hf]
     have e2:decide ((0:Int)≤x.f)=false:=by simp[hf]
     have hok:s=(rightB x.d.k x.d.b x.d.t g.k g.l && (decide (g.k≠11) || decide (x.d.b=0))):=by rw[←HS.out,okMv,if_pos hf]
     obtain⟨q,hq⟩:∃y,rightB x.d.k x.d.b x.d.t g.k g.l=y:=⟨_,rfl⟩
     rw[hq] at hok
     have HQ:=Lib.hid hq
     clear hq hf hlow hbig
     go_upto_region 9 with fail
     clear M0 M1 M2 M3 P0 P1 P2 O0 O1 O2 c0 c1 c2 c3
     cases q
     ·obtain rfl:s=false:=hok
      obtain rfl:=HNOT.out rfl
      refine RW.start (fun w'=>Below w.heap.size w w'∧MBox w' wr.heap.size x∧TBox w' w.heap.size (.slice Ao no co) (.slice (some bd) nn cn) (.slice (some ad) nm cm)∧Rd w' Ao (cellsF t.o)∧Rd w' (some bd) (cellsF t.n)∧Rd w' (some ad) (cellsM t.m)) (by kernel_rfl) (by kernel_rfl) ⟨HB.drew,M,O,ao,an,am⟩ ?_
      clear HB M O ao an am HBo Oo
      repeat (first
       |(refine' RW.val (by rfl) ?_ ?_;rotate_left;(focus (intro w' hS;obtain⟨HB,M,O,ao,an,am⟩:=hS;obtain⟨M0,M1,M2,M3⟩:=id M;obtain⟨O0,O1,O2⟩:=id O;obtain⟨_,eb,d0,d1,d2⟩:=an.fld HG.out;cases eb;go_simp;rfl));simp only[Act.put,List.setIfInBounds_toArray,List.set_cons_zero,List.set_cons_succ])
       |(refine RW.off (by rfl) ?_;simp only[Act.put,List.setIfInBounds_toArray,List.set_cons_zero,List.set_cons_succ])
       |(refine' RW.call (by rfl) ?_ ?_ ?_
         rotate_left 3
         (focus (intro w' hS;obtain⟨HB,M,O,ao,an,am⟩:=hS;obtain⟨M0,M1,M2,M3⟩:=id M;obtain⟨O0,O1,O2⟩:=id O;obtain⟨_,eb,d0,d1,d2⟩:=an.fld HG.out;cases eb;go_simp;exact⟨rfl,rfl⟩))
         (focus
           intro w' hS
           obtain⟨HB,M,O,ao,an,am⟩:=hS;obtain⟨M0,M1,M2,M3⟩:=id M;obtain⟨O0,O1,O2⟩:=id O;obtain⟨_,eb,d0,d1,d2⟩:=an.fld HG.out;cases eb
           first
            |(refine(rRight_is5 x.d.k x.d.b x.d.t g.s g.k g.l b0 b1 false HQ.out _).mono ?_;rintro e w1 ⟨rfl,hb⟩;exact⟨rfl,⟨(below_seq HB hb),(M.below hb),(O.below hb),(ao.below hb),(an.below hb),(am.below hb)⟩⟩))
         simp only[Act.put,List.setIfInBounds_toArray,List.set_cons_zero,List.set_cons_succ]))
      refine RW.done (fun w' hS=>?_)
      obtain⟨HB,M,O,ao,an,am⟩:=hS;obtain⟨M0,M1,M2,M3⟩:=id M;obtain⟨O0,O1,O2⟩:=id O;obtain⟨_,eb,d0,d1,d2⟩:=an.fld HG.out;cases eb
      go_wp2
      go_ret
      exact⟨rfl,HB⟩
     ·by_cases hk11:g.k=11
      ·have k1:(g.k == 11)=true:=by simp[hk11]
       by_cases hb0:x.d.b=0
       ·have kb:(x.d.b != 0)=false:=by simp[hb0]
        obtain rfl:s=true:=by rw[hok];simp[hb0]
        have hall2:=HYES.out rfl
        clear hok hb0 hk11
        refine RW.start (fun w'=>Below w.heap.size w w'∧MBox w' wr.heap.size x∧TBox w' w.heap.size (.slice Ao no co) (.slice (some bd) nn cn) (.slice (some ad) nm cm)∧Rd w' Ao (cellsF t.o)∧Rd w' (some bd) (cellsF t.n)∧Rd w' (some ad) (cellsM t.m)) (by kernel_rfl) (by kernel_rfl) ⟨HB.drew,M,O,ao,an,am⟩ ?_
        clear HB M O ao an am HBo Oo
        repeat (first
         |(refine' RW.val (by rfl) ?_ ?_;rotate_left;(focus (intro w' hS;obtain⟨HB,M,O,ao,an,am⟩:=hS;obtain⟨M0,M1,M2,M3⟩:=id M;obtain⟨O0,O1,O2⟩:=id O;obtain⟨_,eb,d0,d1,d2⟩:=an.fld HG.out;cases eb;go_simp;rfl));simp only[Act.put,List.setIfInBounds_toArray,List.set_cons_zero,List.set_cons_succ])
         |(refine RW.off (by rfl) ?_;simp only[Act.put,List.setIfInBounds_toArray,List.set_cons_zero,List.set_cons_succ])
         |(refine' RW.call (by rfl) ?_ ?_ ?_
           rotate_left 3
           (focus (intro w' hS;obtain⟨HB,M,O,ao,an,am⟩:=hS;obtain⟨M0,M1,M2,M3⟩:=id M;obtain⟨O0,O1,O2⟩:=id O;obtain⟨_,eb,d0,d1,d2⟩:=an.fld HG.out;cases eb;go_simp;exact⟨rfl,rfl⟩))
           (focus
             intro w' hS
             obtain⟨HB,M,O,ao,an,am⟩:=hS;obtain⟨M0,M1,M2,M3⟩:=id M;obtain⟨O0,O1,O2⟩:=id O;obtain⟨_,eb,d0,d1,d2⟩:=an.fld HG.out;cases eb
             first
              |(refine(rRight_is5 x.d.k x.d.b x.d.t g.s g.k g.l b0 b1 true HQ.out _).mono ?_;rintro e w1 ⟨rfl,hb⟩;exact⟨rfl,⟨(below_seq HB hb),(M.below hb),(O.below hb),(ao.below hb),(an.below hb),(am.below hb)⟩⟩))
           simp only[Act.put,List.setIfInBounds_toArray,List.set_cons_zero,List.set_cons_succ]))
        refine RW.done (fun w' hS=>?_)
        obtain⟨HB,M,O,ao,an,am⟩:=hS;obtain⟨M0,M1,M2,M3⟩:=id M;obtain⟨O0,O1,O2⟩:=id O;obtain⟨_,eb,d0,d1,d2⟩:=an.fld HG.out;cases eb
        go_upto_region 11 with fail
        refine RW.start (fun w'=>Below w.heap.size w w'∧MBox w' wr.heap.size x∧TBox w' w.heap.size (.slice Ao no co) (.slice (some bd) nn cn) (.slice (some ad) nm cm)∧Rd w' Ao (cellsF t.o)∧Rd w' (some bd) (cellsF t.n)∧Rd w' (some ad) (cellsM t.m)) (by kernel_rfl) (by kernel_rfl) ⟨HB.drew,M,O,ao,an,am⟩ ?_
        clear HB M O ao an am
        repeat (first
         |(refine' RW.val (by rfl) ?_ ?_;rotate_left;(focus (intro w' hS;obtain⟨HB,M,O,ao,an,am⟩:=hS;obtain⟨M0,M1,M2,M3⟩:=id M;obtain⟨O0,O1,O2⟩:=id O;go_simp;rfl));simp only[Act.put,List.setIfInBounds_toArray,List.set_cons_zero,List.set_cons_succ])
         |(refine RW.off (by rfl) ?_;simp only[Act.put,List.setIfInBounds_toArray,List.set_cons_zero,List.set_cons_succ]))
        refine RW.done (fun w' hS=>?_)
        obtain⟨HB,M,O,ao,an,am⟩:=hS;obtain⟨M0,M1,M2,M3⟩:=id M;obtain⟨O0,O1,O2⟩:=id O
        go_wp2
        go_roundw
        case rel=>exact⟨k+1,by omega,by go_num,HB,ao,an,am,O,hall2⟩
        case measure=>simp[intOf];omega
       ·have kb:(x.d.b != 0)=true:=by simp[hb0]
        obtain rfl:s=false:=by rw[hok];simp[hb0,hk11]
        obtain rfl:=HNOT.out rfl
        clear hok hb0 hk11
        refine RW.start (fun w'=>Below w.heap.size w w'∧MBox w' wr.heap.size x∧TBox w' w.heap.size (.slice Ao no co) (.slice (some bd) nn cn) (.slice (some ad) nm cm)∧Rd w' Ao (cellsF t.o)∧Rd w' (some bd) (cellsF t.n)∧Rd w' (some ad) (cellsM t.m)) (by kernel_rfl) (by kernel_rfl) ⟨HB.drew,M,O,ao,an,am⟩ ?_
        clear HB M O ao an am HBo Oo
        repeat (first
         |(refine' RW.val (by rfl) ?_ ?_;rotate_left;(focus (intro w' hS;obtain⟨HB,M,O,ao,an,am⟩:=hS;obtain⟨M0,M1,M2,M3⟩:=id M;obtain⟨O0,O1,O2⟩:=id O;obtain⟨_,eb,d0,d1,d2⟩:=an.fld HG.out;cases eb;go_simp;rfl));simp only[Act.put,List.setIfInBounds_toArray,List.set_cons_zero,List.set_cons_succ])
         |(refine RW.off (by rfl) ?_;simp only[Act.put,List.setIfInBounds_toArray,List.set_cons_zero,List.set_cons_succ])
         |(refine' RW.call (by rfl) ?_ ?_ ?_
           rotate_left 3
           (focus (intro w' hS;obtain⟨HB,M,O,ao,an,am⟩:=hS;obtain⟨M0,M1,M2,M3⟩:=id M;obtain⟨O0,O1,O2⟩:=id O;obtain⟨_,eb,d0,d1,d2⟩:=an.fld HG.out;cases eb;go_simp;exact⟨rfl,rfl⟩))
           (focus
             intro w' hS
             obtain⟨HB,M,O,ao,an,am⟩:=hS;obtain⟨M0,M1,M2,M3⟩:=id M;obtain⟨O0,O1,O2⟩:=id O;obtain⟨_,eb,d0,d1,d2⟩:=an.fld HG.out;cases eb
             first
              |(refine(rRight_is5 x.d.k x.d.b x.d.t g.s g.k g.l b0 b1 true HQ.out _).mono ?_;rintro e w1 ⟨rfl,hb⟩;exact⟨rfl,⟨(below_seq HB hb),(M.below hb),(O.below hb),(ao.below hb),(an.below hb),(am.below hb)⟩⟩))
           simp only[Act.put,List.setIfInBounds_toArray,List.set_cons_zero,List.set_cons_succ]))
        refine RW.done (fun w' hS=>?_)
        obtain⟨HB,M,O,ao,an,am⟩:=hS;obtain⟨M0,M1,M2,M3⟩:=id M;obtain⟨O0,O1,O2⟩:=id O;obtain⟨_,eb,d0,d1,d2⟩:=an.fld HG.out;cases eb
        go_wp2
        go_ret
        exact⟨rfl,HB⟩
      ·have k1:(g.k == 11)=false:=by simp[hk11]
       obtain rfl:s=true:=by rw[hok];simp[hk11]
       have hall2:=HYES.out rfl
       clear hok hk11
       refine RW.start (fun w'=>Below w.heap.size w w'∧MBox w' wr.heap.size x∧TBox w' w.heap.size (.slice Ao no co) (.slice (some bd) nn cn) (.slice (some ad) nm cm)∧Rd w' Ao (cellsF t.o)∧Rd w' (some bd) (cellsF t.n)∧Rd w' (some ad) (cellsM t.m)) (by kernel_rfl) (by kernel_rfl) ⟨HB.drew,M,O,ao,an,am⟩ ?_
       clear HB M O ao an am HBo Oo
       repeat (first
        |(refine' RW.val (by rfl) ?_ ?_;rotate_left;(focus (intro w' hS;obtain⟨HB,M,O,ao,an,am⟩:=hS;obtain⟨M0,M1,M2,M3⟩:=id M;obtain⟨O0,O1,O2⟩:=id O;obtain⟨_,eb,d0,d1,d2⟩:=an.fld HG.out;cases eb;go_simp;rfl));simp only[Act.put,List.setIfInBounds_toArray,List.set_cons_zero,List.set_cons_succ])
        |(refine RW.off (by rfl) ?_;simp only[Act.put,List.setIfInBounds_toArray,List.set_cons_zero,List.set_cons_succ])
        |(refine' RW.call (by rfl) ?_ ?_ ?_
          rotate_left 3
          (focus (intro w' hS;obtain⟨HB,M,O,ao,an,am⟩:=hS;obtain⟨M0,M1,M2,M3⟩:=id M;obtain⟨O0,O1,O2⟩:=id O;obtain⟨_,eb,d0,d1,d2⟩:=an.fld HG.out;cases eb;go_simp;exact⟨rfl,rfl⟩))
          (focus
            intro w' hS
            obtain⟨HB,M,O,ao,an,am⟩:=hS;obtain⟨M0,M1,M2,M3⟩:=id M;obtain⟨O0,O1,O2⟩:=id O;obtain⟨_,eb,d0,d1,d2⟩:=an.fld HG.out;cases eb
            first
             |(refine(rRight_is5 x.d.k x.d.b x.d.t g.s g.k g.l b0 b1 true HQ.out _).mono ?_;rintro e w1 ⟨rfl,hb⟩;exact⟨rfl,⟨(below_seq HB hb),(M.below hb),(O.below hb),(ao.below hb),(an.below hb),(am.below hb)⟩⟩))
          simp only[Act.put,List.setIfInBounds_toArray,List.set_cons_zero,List.set_cons_succ]))
       refine RW.done (fun w' hS=>?_)
       obtain⟨HB,M,O,ao,an,am⟩:=hS;obtain⟨M0,M1,M2,M3⟩:=id M;obtain⟨O0,O1,O2⟩:=id O;obtain⟨_,eb,d0,d1,d2⟩:=an.fld HG.out;cases eb
       go_upto_region 11 with fail
       refine RW.start (fun w'=>Below w.heap.size w w'∧MBox w' wr.heap.size x∧TBox w' w.heap.size (.slice Ao no co) (.slice (some bd) nn cn) (.slice (some ad) nm cm)∧Rd w' Ao (cellsF t.o)∧Rd w' (some bd) (cellsF t.n)∧Rd w' (some ad) (cellsM t.m)) (by kernel_rfl) (by kernel_rfl) ⟨HB.drew,M,O,ao,an,am⟩ ?_
       clear HB M O ao an am
       repeat (first
        |(refine' RW.val (by rfl) ?_ ?_;rotate_left;(focus (intro w' hS;obtain⟨HB,M,O,ao,an,am⟩:=hS;obtain⟨M0,M1,M2,M3⟩:=id M;obtain⟨O0,O1,O2⟩:=id O;go_simp;rfl));simp only[Act.put,List.setIfInBounds_toArray,List.set_cons_zero,List.set_cons_succ])
        |(refine RW.off (by rfl) ?_;simp only[Act.put,List.setIfInBounds_toArray,List.set_cons_zero,List.set_cons_succ]))
       refine RW.done (fun w' hS=>?_)
       obtain⟨HB,M,O,ao,an,am⟩:=hS;obtain⟨M0,M1,M2,M3⟩:=id M;obtain⟨O0,O1,O2⟩:=id O
       go_wp2
       go_roundw
       case rel=>exact⟨k+1,by omega,by go_num,HB,ao,an,am,O,hall2⟩
       case measure=>simp[intOf];omega
    ·have e1:(x.f == -1)=false:=by simp[hf]
     have e2:decide ((0:Int)≤x.f)=true:=by simp;omega
     have hxp:(0:Int)≤x.f:=by omega
     have hxl:x.f<(no:Int):=by omega
     obtain⟨f,hof⟩:∃f,t.o[x.f.toNat]?=some f:=⟨_,List.getElem?_eq_getElem (by rw[HNO.out];omega)⟩
     have hok:s=(decide (x.d=Vl.z) && castsB f.k f.l g.k g.l):=by rw[←HS.out,okMv,if_neg hf,hof,decide_eq_true hxp];rfl
     obtain⟨od,eo,_,_,_⟩:=ao.fld hof
     subst eo
     have HF:=Lib.hid hof
     clear hof hf hlow hbig
     go_upto_region 9 with fail
     clear M0 M1 M2 M3 P0 P1 P2 O0 O1 O2 c0 c1 c2 c3
     refine RW.start (fun w'=>Below w.heap.size w w'∧MBox w' wr.heap.size x∧TBox w' w.heap.size (.slice (some od) no co) (.slice (some bd) nn cn) (.slice (some ad) nm cm)∧Rd w' (some od) (cellsF t.o)∧Rd w' (some bd) (cellsF t.n)∧Rd w' (some ad) (cellsM t.m)) (by kernel_rfl) (by kernel_rfl) ⟨HB.drew,M,O,ao,an,am⟩ ?_
     clear HB M O ao an am HBo Oo
     repeat (first
      |(refine' RW.val (by rfl) ?_ ?_;rotate_left;(focus (intro w' hS;obtain⟨HB,M,O,ao,an,am⟩:=hS;obtain⟨M0,M1,M2,M3⟩:=id M;obtain⟨O0,O1,O2⟩:=id O;go_simp;rfl));simp only[Act.put,List.setIfInBounds_toArray,List.set_cons_zero,List.set_cons_succ])
      |(refine RW.off (by rfl) ?_;simp only[Act.put,List.setIfInBounds_toArray,List.set_cons_zero,List.set_cons_succ]))
     refine RW.done (fun w' hS=>?_)
     obtain⟨HB,M,O,ao,an,am⟩:=hS;obtain⟨M0,M1,M2,M3⟩:=id M;obtain⟨O0,O1,O2⟩:=id O
     go_upto_region 11 with fail
     by_cases hz:x.d=Vl.z
     ·have z1:x.d.k=0:=by rw[hz];rfl
      have z2:x.d.b=0:=by rw[hz];rfl
      have z3:x.d.t=⟨#[]⟩:=by rw[hz];rfl
      obtain⟨q,hq⟩:∃y,castsB f.k f.l g.k g.l=y:=⟨_,rfl⟩
      rw[hq,decide_eq_true hz] at hok
      have HC:=Lib.hid hq
      clear hq hz
      cases q
      ·obtain rfl:s=false:=hok
       obtain rfl:=HNOT.out rfl
       refine RW.start (fun w'=>Below w.heap.size w w'∧MBox w' wr.heap.size x∧TBox w' w.heap.size (.slice (some od) no co) (.slice (some bd) nn cn) (.slice (some ad) nm cm)∧Rd w' (some od) (cellsF t.o)∧Rd w' (some bd) (cellsF t.n)∧Rd w' (some ad) (cellsM t.m)) (by kernel_rfl) (by kernel_rfl) ⟨HB.drew,M,O,ao,an,am⟩ ?_
       clear HB M O ao an am
       repeat (first
        |(refine' RW.val (by rfl) ?_ ?_;rotate_left;(focus (intro w' hS;obtain⟨HB,M,O,ao,an,am⟩:=hS;obtain⟨M0,M1,M2,M3⟩:=id M;obtain⟨O0,O1,O2⟩:=id O;obtain⟨_,eb,d0,d1,d2⟩:=an.fld HG.out;cases eb;rw[z1] at M1;rw[z2] at M2;rw[z3] at M3;obtain⟨_,eo,f0,f1,f2⟩:=ao.fld HF.out;cases eo;go_simp;rfl));simp only[Act.put,List.setIfInBounds_toArray,List.set_cons_zero,List.set_cons_succ])
        |(refine RW.off (by rfl) ?_;simp only[Act.put,List.setIfInBounds_toArray,List.set_cons_zero,List.set_cons_succ])
        |(refine' RW.call (by rfl) ?_ ?_ ?_
          rotate_left 3
          (focus (intro w' hS;obtain⟨HB,M,O,ao,an,am⟩:=hS;obtain⟨M0,M1,M2,M3⟩:=id M;obtain⟨O0,O1,O2⟩:=id O;obtain⟨_,eb,d0,d1,d2⟩:=an.fld HG.out;cases eb;rw[z1] at M1;rw[z2] at M2;rw[z3] at M3;obtain⟨_,eo,f0,f1,f2⟩:=ao.fld HF.out;cases eo;go_simp;exact⟨rfl,rfl⟩))
          (focus
            intro w' hS
            obtain⟨HB,M,O,ao,an,am⟩:=hS;obtain⟨M0,M1,M2,M3⟩:=id M;obtain⟨O0,O1,O2⟩:=id O;obtain⟨_,eb,d0,d1,d2⟩:=an.fld HG.out;cases eb;rw[z1] at M1;rw[z2] at M2;rw[z3] at M3;obtain⟨_,eo,f0,f1,f2⟩:=ao.fld HF.out;cases eo
            first
             |(refine(rCasts_is f.s g.s f.k f.l g.k g.l false HC.out _).mono ?_;rintro e w1 ⟨rfl,hb⟩;exact⟨rfl,⟨(below_seq HB hb),(M.below hb),(O.below hb),(ao.below hb),(an.below hb),(am.below hb)⟩⟩))
          simp only[Act.put,List.setIfInBounds_toArray,List.set_cons_zero,List.set_cons_succ]))
       refine RW.done (fun w' hS=>?_)
       obtain⟨HB,M,O,ao,an,am⟩:=hS;obtain⟨M0,M1,M2,M3⟩:=id M;obtain⟨O0,O1,O2⟩:=id O;obtain⟨_,eb,d0,d1,d2⟩:=an.fld HG.out;cases eb;rw[z1] at M1;rw[z2] at M2;rw[z3] at M3;obtain⟨_,eo,f0,f1,f2⟩:=ao.fld HF.out;cases eo
       go_wp2
       go_ret
       exact⟨rfl,HB⟩
      ·obtain rfl:s=true:=hok
       have hall2:=HYES.out rfl
       refine RW.start (fun w'=>Below w.heap.size w w'∧MBox w' wr.heap.size x∧TBox w' w.heap.size (.slice (some od) no co) (.slice (some bd) nn cn) (.slice (some ad) nm cm)∧Rd w' (some od) (cellsF t.o)∧Rd w' (some bd) (cellsF t.n)∧Rd w' (some ad) (cellsM t.m)) (by kernel_rfl) (by kernel_rfl) ⟨HB.drew,M,O,ao,an,am⟩ ?_
       clear HB M O ao an am
       repeat (first
        |(refine' RW.val (by rfl) ?_ ?_;rotate_left;(focus (intro w' hS;obtain⟨HB,M,O,ao,an,am⟩:=hS;obtain⟨M0,M1,M2,M3⟩:=id M;obtain⟨O0,O1,O2⟩:=id O;obtain⟨_,eb,d0,d1,d2⟩:=an.fld HG.out;cases eb;rw[z1] at M1;rw[z2] at M2;rw[z3] at M3;obtain⟨_,eo,f0,f1,f2⟩:=ao.fld HF.out;cases eo;go_simp;rfl));simp only[Act.put,List.setIfInBounds_toArray,List.set_cons_zero,List.set_cons_succ])
        |(refine RW.off (by rfl) ?_;simp only[Act.put,List.setIfInBounds_toArray,List.set_cons_zero,List.set_cons_succ])
        |(refine' RW.call (by rfl) ?_ ?_ ?_
          rotate_left 3
          (focus (intro w' hS;obtain⟨HB,M,O,ao,an,am⟩:=hS;obtain⟨M0,M1,M2,M3⟩:=id M;obtain⟨O0,O1,O2⟩:=id O;obtain⟨_,eb,d0,d1,d2⟩:=an.fld HG.out;cases eb;rw[z1] at M1;rw[z2] at M2;rw[z3] at M3;obtain⟨_,eo,f0,f1,f2⟩:=ao.fld HF.out;cases eo;go_simp;exact⟨rfl,rfl⟩))
          (focus
            intro w' hS
            obtain⟨HB,M,O,ao,an,am⟩:=hS;obtain⟨M0,M1,M2,M3⟩:=id M;obtain⟨O0,O1,O2⟩:=id O;obtain⟨_,eb,d0,d1,d2⟩:=an.fld HG.out;cases eb;rw[z1] at M1;rw[z2] at M2;rw[z3] at M3;obtain⟨_,eo,f0,f1,f2⟩:=ao.fld HF.out;cases eo
            first
             |(refine(rCasts_is f.s g.s f.k f.l g.k g.l true HC.out _).mono ?_;rintro e w1 ⟨rfl,hb⟩;exact⟨rfl,⟨(below_seq HB hb),(M.below hb),(O.below hb),(ao.below hb),(an.below hb),(am.below hb)⟩⟩))
          simp only[Act.put,List.setIfInBounds_toArray,List.set_cons_zero,List.set_cons_succ]))
       refine RW.done (fun w' hS=>?_)
       obtain⟨HB,M,O,ao,an,am⟩:=hS;obtain⟨M0,M1,M2,M3⟩:=id M;obtain⟨O0,O1,O2⟩:=id O;obtain⟨_,eb,d0,d1,d2⟩:=an.fld HG.out;cases eb;rw[z1] at M1;rw[z2] at M2;rw[z3] at M3;obtain⟨_,eo,f0,f1,f2⟩:=ao.fld HF.out;cases eo
       go_wp2
       go_roundw
       case rel=>exact⟨k+1,by omega,by go_num,HB,ao,an,am,O,hall2⟩
       case measure=>simp[intOf];omega
     ·obtain rfl:s=false:=by rw[hok,decide_eq_false hz];rfl
      obtain rfl:=HNOT.out rfl
      have hways:=vl_ways hz
      clear hok hz
      rcases hways with z1|⟨z1,z2⟩|⟨z1,z2,z3⟩
      ·skip
       refine RW.start (fun w'=>Below w.heap.size w w'∧MBox w' wr.heap.size x∧TBox w' w.heap.size (.slice (some od) no co) (.slice (some bd) nn cn) (.slice (some ad) nm cm)∧Rd w' (some od) (cellsF t.o)∧Rd w' (some bd) (cellsF t.n)∧Rd w' (some ad) (cellsM t.m)) (by kernel_rfl) (by kernel_rfl) ⟨HB.drew,M,O,ao,an,am⟩ ?_
       clear HB M O ao an am
       repeat (first
        |(refine' RW.val (by rfl) ?_ ?_;rotate_left;(focus (intro w' hS;obtain⟨HB,M,O,ao,an,am⟩:=hS;obtain⟨M0,M1,M2,M3⟩:=id M;obtain⟨O0,O1,O2⟩:=id O;go_simp;rfl));simp only[Act.put,List.setIfInBounds_toArray,List.set_cons_zero,List.set_cons_succ])
        |(refine RW.off (by rfl) ?_;simp only[Act.put,List.setIfInBounds_toArray,List.set_cons_zero,List.set_cons_succ]))
       refine RW.done (fun w' hS=>?_)
       obtain⟨HB,M,O,ao,an,am⟩:=hS;obtain⟨M0,M1,M2,M3⟩:=id M;obtain⟨O0,O1,O2⟩:=id O
       go_wp2
       go_ret
       exact⟨rfl,HB⟩
      ·skip
       refine RW.start (fun w'=>Below w.heap.size w w'∧MBox w' wr.heap.size x∧TBox w' w.heap.size (.slice (some od) no co) (.slice (some bd) nn cn) (.slice (some ad) nm cm)∧Rd w' (some od) (cellsF t.o)∧Rd w' (some bd) (cellsF t.n)∧Rd w' (some ad) (cellsM t.m)) (by kernel_rfl) (by kernel_rfl) ⟨HB.drew,M,O,ao,an,am⟩ ?_
       clear HB M O ao an am
       repeat (first
        |(refine' RW.val (by rfl) ?_ ?_;rotate_left;(focus (intro w' hS;obtain⟨HB,M,O,ao,an,am⟩:=hS;obtain⟨M0,M1,M2,M3⟩:=id M;obtain⟨O0,O1,O2⟩:=id O;go_simp;rfl));simp only[Act.put,List.setIfInBounds_toArray,List.set_cons_zero,List.set_cons_succ])
        |(refine RW.off (by rfl) ?_;simp only[Act.put,List.setIfInBounds_toArray,List.set_cons_zero,List.set_cons_succ]))
       refine RW.done (fun w' hS=>?_)
       obtain⟨HB,M,O,ao,an,am⟩:=hS;obtain⟨M0,M1,M2,M3⟩:=id M;obtain⟨O0,O1,O2⟩:=id O
       go_wp2
       go_ret
       exact⟨rfl,HB⟩
      ·skip
       refine RW.start (fun w'=>Below w.heap.size w w'∧MBox w' wr.heap.size x∧TBox w' w.heap.size (.slice (some od) no co) (.slice (some bd) nn cn) (.slice (some ad) nm cm)∧Rd w' (some od) (cellsF t.o)∧Rd w' (some bd) (cellsF t.n)∧Rd w' (some ad) (cellsM t.m)) (by kernel_rfl) (by kernel_rfl) ⟨HB.drew,M,O,ao,an,am⟩ ?_
       clear HB M O ao an am
       repeat (first
        |(refine' RW.val (by rfl) ?_ ?_;rotate_left;(focus (intro w' hS;obtain⟨HB,M,O,ao,an,am⟩:=hS;obtain⟨M0,M1,M2,M3⟩:=id M;obtain⟨O0,O1,O2⟩:=id O;go_simp;rfl));simp only[Act.put,List.setIfInBounds_toArray,List.set_cons_zero,List.set_cons_succ])
        |(refine RW.off (by rfl) ?_;simp only[Act.put,List.setIfInBounds_toArray,List.set_cons_zero,List.set_cons_succ]))
       refine RW.done (fun w' hS=>?_)
       obtain⟨HB,M,O,ao,an,am⟩:=hS;obtain⟨M0,M1,M2,M3⟩:=id M;obtain⟨O0,O1,O2⟩:=id O
       go_wp2
       go_ret
       exact⟨rfl,HB⟩
   ·obtain rfl:k=nm:=by omega
    obtain rfl:r=true:=by
     rw[HRR.out,decide_eq_true HL.out,decide_eq_true hall.out];rfl
    go_wp2
    go_ret
    exact⟨rfl,HB⟩
 ·have hz:((nm:Int) != (nn:Int))=true:=by simp;omega
  obtain rfl:r=false:=by rw[HRR.out,decide_eq_false hlen];rfl
  clear hlen
  go_enter Tryz.func79,Tryz.ntmps79
  go_wp2_with (first
   |(have _t:=tok1;go_at_call 77;refine(rRight_m Ao co no t.o HNO.out true HR1.out _ ao l0 SO.out).mono ?_;rintro e wM ⟨rfl,hb⟩;replace HB:=HB.trans (hb.mono HB.size);replace an:=an.below hb;replace am:=am.below hb;replace O:=O.below hb;obtain⟨O0,O1,O2⟩:=id O;clear hb tok1;have tok2:=True.intro)
   |(have _t:=tok2;go_at_call 77;refine(rRight_m An cn nn t.n HNN.out true HR2.out _ an l1 SN.out).mono ?_;rintro e wM ⟨rfl,hb⟩;replace HB:=HB.trans (hb.mono HB.size);replace O:=O.below hb;obtain⟨O0,O1,O2⟩:=id O;clear hb tok2;have tok3:=True.intro))
  go_ret
  exact⟨rfl,HB⟩
end
end Go.Proofs.YteembinfgbapgaaGreat
