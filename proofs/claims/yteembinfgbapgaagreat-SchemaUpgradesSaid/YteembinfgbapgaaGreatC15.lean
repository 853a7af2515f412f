/- Merged out of: Nd Ne. -/
import Derived.Test.YteembinfgbapgaaGreatC00
import Derived.Test.YteembinfgbapgaaGreatC14
import Derived.Deep.RegionLaw
import Derived.Deep.MidRow
import Derived.ChangeKeysEq
import Derived.Lib.SliceRun
import Derived.Laws.IdiomCopy
set_option linter.unusedSimpArgs false
set_option linter.unusedVariables false
set_option maxRecDepth 100000
set_option maxHeartbeats 8000000
namespace Go.Proofs.YteembinfgbapgaaGreat
section
open Go.RowKit
theorem MBox.new (w:World) (m:Mv) (T:TypeId):MBox (w.alloc (.cells #[.int .i64 m.f,.int .i64 m.d.k,.int .u64 m.d.b,.string m.d.t] T)) w.heap.size m:=⟨cell_new _ _ _ _ _ rfl,cell_new _ _ _ _ _ rfl,cell_new _ _ _ _ _ rfl,cell_new _ _ _ _ _ rfl⟩
def FdS (fs:List Fd):Prop:=∀f∈fs,f.s.size≤9223372036854775807
theorem vl_ways {d:Vl} (hz:¬d=Vl.z):(d.k == 0)=false∨((d.k == 0)=true∧(d.b == 0)=false)∨((d.k == 0)=true∧(d.b == 0)=true∧(d.t.toList == [])=false):=by
 rw[←ByteArray.toList_nil_beq d.t]
 obtain⟨dk,db,dt⟩:=d
 by_cases e1:dk=0
 ·by_cases e2:db=0
  ·refine .inr (.inr ⟨by simp[e1],by simp[e2],?_⟩)
   rw[name_beq]
   exact decide_eq_false fun e3=>hz (by have e3:dt=_:=e3;show(⟨dk,db,dt⟩:Vl)=Vl.z;rw[e1,e2,e3];rfl)
  ·exact .inr (.inl ⟨by simp[e1],by simp[e2]⟩)
 ·exact .inl (by simp[e1])
theorem rTRight_m (t:Tb) (Ao An Am:Option Addr) (co cn cm no nn nm:Nat) (hno:t.o.length=no) (hnn:t.n.length=nn) (hnm:t.m.length=nm) (l0:no≤9223372036854775807) (l1:nn≤9223372036854775807) (l2:nm≤9223372036854775807) (hw:MvW t.m) (so:FdS t.o) (sn:FdS t.n)
 (w:World) (ao:Rd w Ao (cellsF t.o)) (an:Rd w An (cellsF t.n)) (am:Rd w Am (cellsM t.m)):
 Calls Tryz.prog 79 #[.agg #[.slice Ao no co,.slice An nn cn,.slice Am nm cm]] w fun e w'=>e=.returned (.bool (rightT t))∧Below w.heap.size w w':=by
 obtain⟨r,hr⟩:∃r,rightT t=r:=⟨_,rfl⟩
 obtain⟨r1,hr1⟩:∃r,rightF t.o=r:=⟨_,rfl⟩
 obtain⟨r2,hr2⟩:∃r,rightF t.n=r:=⟨_,rfl⟩
 have hrr:r=(r1 && r2 && decide (nm=nn) && decide (∀k,k<nm→okAt t k=true)):=by rw[←hr,←hr1,←hr2,←hnm,←hnn,rightT]
 rw[hr]
 have hb1:=below_new (w:=w) (.cells #[.slice Ao no co,.slice An nn cn,.slice Am nm cm] 110)
 have O:=TBox.new w (.slice Ao no co) (.slice An nn cn) (.slice Am nm cm) 110
 have HB:=hb1
 replace ao:=ao.below hb1
 replace an:=an.below hb1
 replace am:=am.below hb1
 obtain⟨O0,O1,O2⟩:=id O
 have HR1:=J0 hr1
 have HR2:=J0 hr2
 have HRR:=J0 hrr
 have HNO:=J0 hno
 have HNN:=J0 hnn
 have HNM:=J0 hnm
 have HW:=J0 hw
 have SO:=J0 so
 have SN:=J0 sn
 have tok1:=True.intro
 clear hr hr1 hr2 hrr hno hnn hnm hb1 hw so sn
 cases r1
 ·obtain rfl:r=false:=by rw[HRR.out];rfl
  go_enter Tryz.func79,Tryz.ntmps79
  go_wp2_with (go_at_call 77;refine(rRight_m Ao co no t.o HNO.out false HR1.out _ ao l0 SO.out).mono ?_;rintro e wM ⟨rfl,hb⟩;replace HB:=HB.trans (hb.mono HB.size);replace O:=O.below hb;obtain⟨O0,O1,O2⟩:=id O;clear hb)
  go_ret
  exact⟨rfl,HB⟩
 cases r2
 ·obtain rfl:r=false:=by rw[HRR.out];rfl
  go_enter Tryz.func79,Tryz.ntmps79
  go_wp2_with (first
   |(have _t:=tok1;go_at_call 77;refine(rRight_m Ao co no t.o HNO.out true HR1.out _ ao l0 SO.out).mono ?_;rintro e wM ⟨rfl,hb⟩;replace HB:=HB.trans (hb.mono HB.size);replace an:=an.below hb;replace am:=am.below hb;replace O:=O.below hb;obtain⟨O0,O1,O2⟩:=id O;clear hb tok1;have tok2:=True.intro)
   |(have _t:=tok2;go_at_call 77;refine(rRight_m An cn nn t.n HNN.out false HR2.out _ an l1 SN.out).mono ?_;rintro e wM ⟨rfl,hb⟩;replace HB:=HB.trans (hb.mono HB.size);replace O:=O.below hb;obtain⟨O0,O1,O2⟩:=id O;clear hb tok2;have tok3:=True.intro))
  go_ret
  exact⟨rfl,HB⟩
 by_cases hlen:nm=nn
 ·have hz:((nm:Int) != (nn:Int))=false:=by rw[hlen];simp
  have HL:=J0 hlen
  clear hlen
  go_enter Tryz.func79,Tryz.ntmps79
  go_wp2_with (first
   |(have _t:=tok1;go_at_call 77;refine(rRight_m Ao co no t.o HNO.out true HR1.out _ ao l0 SO.out).mono ?_;rintro e wM ⟨rfl,hb⟩;replace HB:=HB.trans (hb.mono HB.size);replace ao:=ao.below hb;replace an:=an.below hb;replace am:=am.below hb;replace O:=O.below hb;obtain⟨O0,O1,O2⟩:=id O;clear hb tok1;have tok2:=True.intro)
   |(have _t:=tok2;go_at_call 77;refine(rRight_m An cn nn t.n HNN.out true HR2.out _ an l1 SN.out).mono ?_;rintro e wM ⟨rfl,hb⟩;replace HB:=HB.trans (hb.mono HB.size);replace ao:=ao.below hb;replace an:=an.below hb;replace am:=am.below hb;replace O:=O.below hb;obtain⟨O0,O1,O2⟩:=id O;clear hb tok2;have tok3:=True.intro))
  rename World=>W1
  have ao0:=ao
  have an0:=an
  have am0:=am
  have O':=O
  have HB0:=HB
  clear ao an am O HB
  go_loopw [3,4] (fun i _ wr=>∃k:Nat,k≤nm∧i=.int .i64 k∧Below w.heap.size w wr∧Rd wr Ao (cellsF t.o)∧Rd wr An (cellsF t.n)∧Rd wr Am (cellsM t.m)∧TBox wr w.heap.size (.slice Ao no co) (.slice An nn cn) (.slice Am nm cm)∧Hid (∀j,j<k→okAt t j=true)) (fun i _ _=>nm - (intOf i).toNat)
  case atStart=>exact⟨0,by omega,rfl,HB0,ao0,an0,am0,O',J0 (fun j hj=>by omega)⟩
  case round=>
   obtain⟨k,hk,rfl,HB,ao,an,am,O,hall⟩:=hrel
   clear HB0 ao0 an0 am0 O' O0 O1 O2
   obtain⟨O0,O1,O2⟩:=id O
   by_cases hlt:k<nm
   ·obtain⟨x,hx⟩:∃x,t.m[k]?=some x:=⟨_,J4 (by rw[HNM.out];exact hlt)⟩
    have hln:k<nn:=by have:=HL.out;omega
    obtain⟨g,hg⟩:∃y,t.n[k]?=some y:=⟨_,J4 (by rw[HNN.out];exact hln)⟩
    have hat:okAt t k=okMv t.o g x:=by simp[okAt,hx,hg]
    obtain⟨b0,b1⟩:=HW.out x (J7 hx)
    obtain⟨s,hs⟩:∃s,okMv t.o g x=s:=⟨_,rfl⟩
    have HX:=J0 hx
    have HG:=J0 hg
    have HS:=J0 hs
    have HAT:=J0 (hat.trans hs)
    obtain⟨ad,ea,c0,c1,c2,c3⟩:=am.mv hx
    obtain⟨bd,eb,_,_,_⟩:=an.fld hg
    have hno:s=false→r=false:=fun hs=>by
     have hn:¬∀j,j<nm→okAt t j=true:=fun h=>by have:=h k hlt;rw[HAT.out,hs] at this;cases this
     rw[HRR.out,decide_eq_false hn];simp
    have hyes:s=true→Hid (∀j,j<k+1→okAt t j=true):=fun hs=>J0 (fun j hj=>by
     rcases(by omega:j<k∨j=k) with h|rfl
     ·exact hall.out j h
     ·rw[HAT.out];exact hs)
    have HNOT:=J0 hno
    have HYES:=J0 hyes
    have hi0:(0:Int)≤(k:Int):=by omega
    have hi1:(k:Int)<(nn:Int):=by omega
    have hi2:(k:Int)<(nm:Int):=by omega
    clear hx hg hat hs hno hyes hall
    have M:=MBox.new wr x 157
    have hbm:=below_new (w:=wr) (.cells #[.int .i64 x.f,.int .i64 x.d.k,.int .u64 x.d.b,.string x.d.t] 157)
    have HBo:=HB
    have Oo:=O
    replace HB:=HB.trans (hbm.mono HB.size)
    replace ao:=ao.below hbm
    replace an:=an.below hbm
    replace am:=am.below hbm
    replace O:=O.below hbm
    obtain⟨M0,M1,M2,M3⟩:=id M
    obtain⟨P0,P1,P2⟩:=id O
    subst ea eb
    clear hbm
    by_cases hlow:x.f< -1
    ·have h1:decide (x.f< -1)=true:=by simpa using hlow
     obtain rfl:s=false:=by rw[←HS.out,okMv,if_neg (by omega),decide_eq_false (by omega)];rfl
     obtain rfl:=HNOT.out rfl
     go_wp2
     go_ret
     exact⟨rfl,HB⟩
    have h1:decide (x.f< -1)=false:=by simpa using hlow
    by_cases hbig:(no:Int)≤x.f
    ·have h2:decide ((no:Int)≤x.f)=true:=by simpa using hbig
     obtain rfl:s=false:=by rw[←HS.out,okMv,if_neg (by omega),Xy (by rw[HNO.out];omega)];simp
     obtain rfl:=HNOT.out rfl
     go_wp2
     go_ret
     exact⟨rfl,HB⟩
    have h2:decide ((no:Int)≤x.f)=false:=by simpa using hbig
    by_cases hf:x.f=-1
    ·have e1:(x.f == -1)=true:=by simp[hf]
     have e2:decide ((0:Int)≤x.f)=false:=by simp[hf]
     have hok:s=(rightB x.d.k x.d.b x.d.t g.k g.l && (decide (g.k≠11) || decide (x.d.b=0))):=by rw[←HS.out,okMv,if_pos hf]
     obtain⟨q,hq⟩:∃y,rightB x.d.k x.d.b x.d.t g.k g.l=y:=⟨_,rfl⟩
     rw[hq] at hok
     have HQ:=J0 hq
     clear hq hf hlow hbig
     go_upto_region 9 with fail
     clear M0 M1 M2 M3 P0 P1 P2 O0 O1 O2 c0 c1 c2 c3
     cases q
     ·obtain rfl:s=false:=hok
      obtain rfl:=HNOT.out rfl
      refine RW.start (fun w'=>Below w.heap.size w w'∧MBox w' wr.heap.size x∧TBox w' w.heap.size (.slice Ao no co) (.slice (some bd) nn cn) (.slice (some ad) nm cm)∧Rd w' Ao (cellsF t.o)∧Rd w' (some bd) (cellsF t.n)∧Rd w' (some ad) (cellsM t.m)) (by kernel_rfl) (by kernel_rfl) ⟨HB.drew,M,O,ao,an,am⟩ ?_
      clear HB M O ao an am HBo Oo
      repeat (first
       |(refine' RW.val (by rfl) ?_ ?_;rotate_left;(focus (intro w' hS;obtain⟨HB,M,O,ao,an,am⟩:=hS;obtain⟨M0,M1,M2,M3⟩:=id M;obtain⟨O0,O1,O2⟩:=id O;obtain⟨_,eb,d0,d1,d2⟩:=an.fld HG.out;cases eb;go_simp;rfl));simp only[Act.put,J1,J3,J2])
       |(refine RW.off (by rfl) ?_;simp only[Act.put,J1,J3,J2])
       |(refine' RW.call (by rfl) ?_ ?_ ?_
         rotate_left 3
         (focus (intro w' hS;obtain⟨HB,M,O,ao,an,am⟩:=hS;obtain⟨M0,M1,M2,M3⟩:=id M;obtain⟨O0,O1,O2⟩:=id O;obtain⟨_,eb,d0,d1,d2⟩:=an.fld HG.out;cases eb;go_simp;exact⟨rfl,rfl⟩))
         (focus
           intro w' hS
           obtain⟨HB,M,O,ao,an,am⟩:=hS;obtain⟨M0,M1,M2,M3⟩:=id M;obtain⟨O0,O1,O2⟩:=id O;obtain⟨_,eb,d0,d1,d2⟩:=an.fld HG.out;cases eb
           first
            |(refine(rRight_is5 x.d.k x.d.b x.d.t g.s g.k g.l b0 b1 false HQ.out _).mono ?_;rintro e w1 ⟨rfl,hb⟩;exact⟨rfl,⟨(below_seq HB hb),(M.below hb),(O.below hb),(ao.below hb),(an.below hb),(am.below hb)⟩⟩))
         simp only[Act.put,J1,J3,J2]))
      refine RW.done (fun w' hS=>?_)
      obtain⟨HB,M,O,ao,an,am⟩:=hS;obtain⟨M0,M1,M2,M3⟩:=id M;obtain⟨O0,O1,O2⟩:=id O;obtain⟨_,eb,d0,d1,d2⟩:=an.fld HG.out;cases eb
      go_wp2
      go_ret
      exact⟨rfl,HB⟩
     ·by_cases hk11:g.k=11
      ·have k1:(g.k == 11)=true:=by simp[hk11]
       by_cases hb0:x.d.b=0
       ·have kb:(x.d.b != 0)=false:=by simp[hb0]
        obtain rfl:s=true:=by rw[hok];simp[hb0]
        have hall2:=HYES.out rfl
        clear hok hb0 hk11
        refine RW.start (fun w'=>Below w.heap.size w w'∧MBox w' wr.heap.size x∧TBox w' w.heap.size (.slice Ao no co) (.slice (some bd) nn cn) (.slice (some ad) nm cm)∧Rd w' Ao (cellsF t.o)∧Rd w' (some bd) (cellsF t.n)∧Rd w' (some ad) (cellsM t.m)) (by kernel_rfl) (by kernel_rfl) ⟨HB.drew,M,O,ao,an,am⟩ ?_
        clear HB M O ao an am HBo Oo
        repeat (first
         |(refine' RW.val (by rfl) ?_ ?_;rotate_left;(focus (intro w' hS;obtain⟨HB,M,O,ao,an,am⟩:=hS;obtain⟨M0,M1,M2,M3⟩:=id M;obtain⟨O0,O1,O2⟩:=id O;obtain⟨_,eb,d0,d1,d2⟩:=an.fld HG.out;cases eb;go_simp;rfl));simp only[Act.put,J1,J3,J2])
         |(refine RW.off (by rfl) ?_;simp only[Act.put,J1,J3,J2])
         |(refine' RW.call (by rfl) ?_ ?_ ?_
           rotate_left 3
           (focus (intro w' hS;obtain⟨HB,M,O,ao,an,am⟩:=hS;obtain⟨M0,M1,M2,M3⟩:=id M;obtain⟨O0,O1,O2⟩:=id O;obtain⟨_,eb,d0,d1,d2⟩:=an.fld HG.out;cases eb;go_simp;exact⟨rfl,rfl⟩))
           (focus
             intro w' hS
             obtain⟨HB,M,O,ao,an,am⟩:=hS;obtain⟨M0,M1,M2,M3⟩:=id M;obtain⟨O0,O1,O2⟩:=id O;obtain⟨_,eb,d0,d1,d2⟩:=an.fld HG.out;cases eb
             first
              |(refine(rRight_is5 x.d.k x.d.b x.d.t g.s g.k g.l b0 b1 true HQ.out _).mono ?_;rintro e w1 ⟨rfl,hb⟩;exact⟨rfl,⟨(below_seq HB hb),(M.below hb),(O.below hb),(ao.below hb),(an.below hb),(am.below hb)⟩⟩))
           simp only[Act.put,J1,J3,J2]))
        refine RW.done (fun w' hS=>?_)
        obtain⟨HB,M,O,ao,an,am⟩:=hS;obtain⟨M0,M1,M2,M3⟩:=id M;obtain⟨O0,O1,O2⟩:=id O;obtain⟨_,eb,d0,d1,d2⟩:=an.fld HG.out;cases eb
        go_upto_region 11 with fail
        refine RW.start (fun w'=>Below w.heap.size w w'∧MBox w' wr.heap.size x∧TBox w' w.heap.size (.slice Ao no co) (.slice (some bd) nn cn) (.slice (some ad) nm cm)∧Rd w' Ao (cellsF t.o)∧Rd w' (some bd) (cellsF t.n)∧Rd w' (some ad) (cellsM t.m)) (by kernel_rfl) (by kernel_rfl) ⟨HB.drew,M,O,ao,an,am⟩ ?_
        clear HB M O ao an am
        repeat (first
         |(refine' RW.val (by rfl) ?_ ?_;rotate_left;(focus (intro w' hS;obtain⟨HB,M,O,ao,an,am⟩:=hS;obtain⟨M0,M1,M2,M3⟩:=id M;obtain⟨O0,O1,O2⟩:=id O;go_simp;rfl));simp only[Act.put,J1,J3,J2])
         |(refine RW.off (by rfl) ?_;simp only[Act.put,J1,J3,J2]))
        refine RW.done (fun w' hS=>?_)
        obtain⟨HB,M,O,ao,an,am⟩:=hS;obtain⟨M0,M1,M2,M3⟩:=id M;obtain⟨O0,O1,O2⟩:=id O
        go_wp2
        go_roundw
        case rel=>exact⟨k+1,by omega,by go_num,HB,ao,an,am,O,hall2⟩
        case measure=>simp[intOf];omega
       ·have kb:(x.d.b != 0)=true:=by simp[hb0]
        obtain rfl:s=false:=by rw[hok];simp[hb0,hk11]
        obtain rfl:=HNOT.out rfl
        clear hok hb0 hk11
        refine RW.start (fun w'=>Below w.heap.size w w'∧MBox w' wr.heap.size x∧TBox w' w.heap.size (.slice Ao no co) (.slice (some bd) nn cn) (.slice (some ad) nm cm)∧Rd w' Ao (cellsF t.o)∧Rd w' (some bd) (cellsF t.n)∧Rd w' (some ad) (cellsM t.m)) (by kernel_rfl) (by kernel_rfl) ⟨HB.drew,M,O,ao,an,am⟩ ?_
        clear HB M O ao an am HBo Oo
        repeat (first
         |(refine' RW.val (by rfl) ?_ ?_;rotate_left;(focus (intro w' hS;obtain⟨HB,M,O,ao,an,am⟩:=hS;obtain⟨M0,M1,M2,M3⟩:=id M;obtain⟨O0,O1,O2⟩:=id O;obtain⟨_,eb,d0,d1,d2⟩:=an.fld HG.out;cases eb;go_simp;rfl));simp only[Act.put,J1,J3,J2])
         |(refine RW.off (by rfl) ?_;simp only[Act.put,J1,J3,J2])
         |(refine' RW.call (by rfl) ?_ ?_ ?_
           rotate_left 3
           (focus (intro w' hS;obtain⟨HB,M,O,ao,an,am⟩:=hS;obtain⟨M0,M1,M2,M3⟩:=id M;obtain⟨O0,O1,O2⟩:=id O;obtain⟨_,eb,d0,d1,d2⟩:=an.fld HG.out;cases eb;go_simp;exact⟨rfl,rfl⟩))
           (focus
             intro w' hS
             obtain⟨HB,M,O,ao,an,am⟩:=hS;obtain⟨M0,M1,M2,M3⟩:=id M;obtain⟨O0,O1,O2⟩:=id O;obtain⟨_,eb,d0,d1,d2⟩:=an.fld HG.out;cases eb
             first
              |(refine(rRight_is5 x.d.k x.d.b x.d.t g.s g.k g.l b0 b1 true HQ.out _).mono ?_;rintro e w1 ⟨rfl,hb⟩;exact⟨rfl,⟨(below_seq HB hb),(M.below hb),(O.below hb),(ao.below hb),(an.below hb),(am.below hb)⟩⟩))
           simp only[Act.put,J1,J3,J2]))
        refine RW.done (fun w' hS=>?_)
        obtain⟨HB,M,O,ao,an,am⟩:=hS;obtain⟨M0,M1,M2,M3⟩:=id M;obtain⟨O0,O1,O2⟩:=id O;obtain⟨_,eb,d0,d1,d2⟩:=an.fld HG.out;cases eb
        go_wp2
        go_ret
        exact⟨rfl,HB⟩
      ·have k1:(g.k == 11)=false:=by simp[hk11]
       obtain rfl:s=true:=by rw[hok];simp[hk11]
       have hall2:=HYES.out rfl
       clear hok hk11
       refine RW.start (fun w'=>Below w.heap.size w w'∧MBox w' wr.heap.size x∧TBox w' w.heap.size (.slice Ao no co) (.slice (some bd) nn cn) (.slice (some ad) nm cm)∧Rd w' Ao (cellsF t.o)∧Rd w' (some bd) (cellsF t.n)∧Rd w' (some ad) (cellsM t.m)) (by kernel_rfl) (by kernel_rfl) ⟨HB.drew,M,O,ao,an,am⟩ ?_
       clear HB M O ao an am HBo Oo
       repeat (first
        |(refine' RW.val (by rfl) ?_ ?_;rotate_left;(focus (intro w' hS;obtain⟨HB,M,O,ao,an,am⟩:=hS;obtain⟨M0,M1,M2,M3⟩:=id M;obtain⟨O0,O1,O2⟩:=id O;obtain⟨_,eb,d0,d1,d2⟩:=an.fld HG.out;cases eb;go_simp;rfl));simp only[Act.put,J1,J3,J2])
        |(refine RW.off (by rfl) ?_;simp only[Act.put,J1,J3,J2])
        |(refine' RW.call (by rfl) ?_ ?_ ?_
          rotate_left 3
          (focus (intro w' hS;obtain⟨HB,M,O,ao,an,am⟩:=hS;obtain⟨M0,M1,M2,M3⟩:=id M;obtain⟨O0,O1,O2⟩:=id O;obtain⟨_,eb,d0,d1,d2⟩:=an.fld HG.out;cases eb;go_simp;exact⟨rfl,rfl⟩))
          (focus
            intro w' hS
            obtain⟨HB,M,O,ao,an,am⟩:=hS;obtain⟨M0,M1,M2,M3⟩:=id M;obtain⟨O0,O1,O2⟩:=id O;obtain⟨_,eb,d0,d1,d2⟩:=an.fld HG.out;cases eb
            first
             |(refine(rRight_is5 x.d.k x.d.b x.d.t g.s g.k g.l b0 b1 true HQ.out _).mono ?_;rintro e w1 ⟨rfl,hb⟩;exact⟨rfl,⟨(below_seq HB hb),(M.below hb),(O.below hb),(ao.below hb),(an.below hb),(am.below hb)⟩⟩))
          simp only[Act.put,J1,J3,J2]))
       refine RW.done (fun w' hS=>?_)
       obtain⟨HB,M,O,ao,an,am⟩:=hS;obtain⟨M0,M1,M2,M3⟩:=id M;obtain⟨O0,O1,O2⟩:=id O;obtain⟨_,eb,d0,d1,d2⟩:=an.fld HG.out;cases eb
       go_upto_region 11 with fail
       refine RW.start (fun w'=>Below w.heap.size w w'∧MBox w' wr.heap.size x∧TBox w' w.heap.size (.slice Ao no co) (.slice (some bd) nn cn) (.slice (some ad) nm cm)∧Rd w' Ao (cellsF t.o)∧Rd w' (some bd) (cellsF t.n)∧Rd w' (some ad) (cellsM t.m)) (by kernel_rfl) (by kernel_rfl) ⟨HB.drew,M,O,ao,an,am⟩ ?_
       clear HB M O ao an am
       repeat (first
        |(refine' RW.val (by rfl) ?_ ?_;rotate_left;(focus (intro w' hS;obtain⟨HB,M,O,ao,an,am⟩:=hS;obtain⟨M0,M1,M2,M3⟩:=id M;obtain⟨O0,O1,O2⟩:=id O;go_simp;rfl));simp only[Act.put,J1,J3,J2])
        |(refine RW.off (by rfl) ?_;simp only[Act.put,J1,J3,J2]))
       refine RW.done (fun w' hS=>?_)
       obtain⟨HB,M,O,ao,an,am⟩:=hS;obtain⟨M0,M1,M2,M3⟩:=id M;obtain⟨O0,O1,O2⟩:=id O
       go_wp2
       go_roundw
       case rel=>exact⟨k+1,by omega,by go_num,HB,ao,an,am,O,hall2⟩
       case measure=>simp[intOf];omega
    ·have e1:(x.f == -1)=false:=by simp[hf]
     have e2:decide ((0:Int)≤x.f)=true:=by simp;omega
     have hxp:(0:Int)≤x.f:=by omega
     have hxl:x.f<(no:Int):=by omega
     obtain⟨f,hof⟩:∃f,t.o[x.f.toNat]?=some f:=⟨_,J4 (by rw[HNO.out];omega)⟩
     have hok:s=(decide (x.d=Vl.z) && castsB f.k f.l g.k g.l):=by rw[←HS.out,okMv,if_neg hf,hof,decide_eq_true hxp];rfl
     obtain⟨od,eo,_,_,_⟩:=ao.fld hof
     subst eo
     have HF:=J0 hof
     clear hof hf hlow hbig
     go_upto_region 9 with fail
     clear M0 M1 M2 M3 P0 P1 P2 O0 O1 O2 c0 c1 c2 c3
     refine RW.start (fun w'=>Below w.heap.size w w'∧MBox w' wr.heap.size x∧TBox w' w.heap.size (.slice (some od) no co) (.slice (some bd) nn cn) (.slice (some ad) nm cm)∧Rd w' (some od) (cellsF t.o)∧Rd w' (some bd) (cellsF t.n)∧Rd w' (some ad) (cellsM t.m)) (by kernel_rfl) (by kernel_rfl) ⟨HB.drew,M,O,ao,an,am⟩ ?_
     clear HB M O ao an am HBo Oo
     repeat (first
      |(refine' RW.val (by rfl) ?_ ?_;rotate_left;(focus (intro w' hS;obtain⟨HB,M,O,ao,an,am⟩:=hS;obtain⟨M0,M1,M2,M3⟩:=id M;obtain⟨O0,O1,O2⟩:=id O;go_simp;rfl));simp only[Act.put,J1,J3,J2])
      |(refine RW.off (by rfl) ?_;simp only[Act.put,J1,J3,J2]))
     refine RW.done (fun w' hS=>?_)
     obtain⟨HB,M,O,ao,an,am⟩:=hS;obtain⟨M0,M1,M2,M3⟩:=id M;obtain⟨O0,O1,O2⟩:=id O
     go_upto_region 11 with fail
     by_cases hz:x.d=Vl.z
     ·have z1:x.d.k=0:=by rw[hz];rfl
      have z2:x.d.b=0:=by rw[hz];rfl
      have z3:x.d.t=⟨#[]⟩:=by rw[hz];rfl
      obtain⟨q,hq⟩:∃y,castsB f.k f.l g.k g.l=y:=⟨_,rfl⟩
      rw[hq,decide_eq_true hz] at hok
      have HC:=J0 hq
      clear hq hz
      cases q
      ·obtain rfl:s=false:=hok
       obtain rfl:=HNOT.out rfl
       refine RW.start (fun w'=>Below w.heap.size w w'∧MBox w' wr.heap.size x∧TBox w' w.heap.size (.slice (some od) no co) (.slice (some bd) nn cn) (.slice (some ad) nm cm)∧Rd w' (some od) (cellsF t.o)∧Rd w' (some bd) (cellsF t.n)∧Rd w' (some ad) (cellsM t.m)) (by kernel_rfl) (by kernel_rfl) ⟨HB.drew,M,O,ao,an,am⟩ ?_
       clear HB M O ao an am
       repeat (first
        |(refine' RW.val (by rfl) ?_ ?_;rotate_left;(focus (intro w' hS;obtain⟨HB,M,O,ao,an,am⟩:=hS;obtain⟨M0,M1,M2,M3⟩:=id M;obtain⟨O0,O1,O2⟩:=id O;obtain⟨_,eb,d0,d1,d2⟩:=an.fld HG.out;cases eb;rw[z1] at M1;rw[z2] at M2;rw[z3] at M3;obtain⟨_,eo,f0,f1,f2⟩:=ao.fld HF.out;cases eo;go_simp;rfl));simp only[Act.put,J1,J3,J2])
        |(refine RW.off (by rfl) ?_;simp only[Act.put,J1,J3,J2])
        |(refine' RW.call (by rfl) ?_ ?_ ?_
          rotate_left 3
          (focus (intro w' hS;obtain⟨HB,M,O,ao,an,am⟩:=hS;obtain⟨M0,M1,M2,M3⟩:=id M;obtain⟨O0,O1,O2⟩:=id O;obtain⟨_,eb,d0,d1,d2⟩:=an.fld HG.out;cases eb;rw[z1] at M1;rw[z2] at M2;rw[z3] at M3;obtain⟨_,eo,f0,f1,f2⟩:=ao.fld HF.out;cases eo;go_simp;exact⟨rfl,rfl⟩))
          (focus
            intro w' hS
            obtain⟨HB,M,O,ao,an,am⟩:=hS;obtain⟨M0,M1,M2,M3⟩:=id M;obtain⟨O0,O1,O2⟩:=id O;obtain⟨_,eb,d0,d1,d2⟩:=an.fld HG.out;cases eb;rw[z1] at M1;rw[z2] at M2;rw[z3] at M3;obtain⟨_,eo,f0,f1,f2⟩:=ao.fld HF.out;cases eo
            first
             |(refine(rCasts_is f.s g.s f.k f.l g.k g.l false HC.out _).mono ?_;rintro e w1 ⟨rfl,hb⟩;exact⟨rfl,⟨(below_seq HB hb),(M.below hb),(O.below hb),(ao.below hb),(an.below hb),(am.below hb)⟩⟩))
          simp only[Act.put,J1,J3,J2]))
       refine RW.done (fun w' hS=>?_)
       obtain⟨HB,M,O,ao,an,am⟩:=hS;obtain⟨M0,M1,M2,M3⟩:=id M;obtain⟨O0,O1,O2⟩:=id O;obtain⟨_,eb,d0,d1,d2⟩:=an.fld HG.out;cases eb;rw[z1] at M1;rw[z2] at M2;rw[z3] at M3;obtain⟨_,eo,f0,f1,f2⟩:=ao.fld HF.out;cases eo
       go_wp2
       go_ret
       exact⟨rfl,HB⟩
      ·obtain rfl:s=true:=hok
       have hall2:=HYES.out rfl
       refine RW.start (fun w'=>Below w.heap.size w w'∧MBox w' wr.heap.size x∧TBox w' w.heap.size (.slice (some od) no co) (.slice (some bd) nn cn) (.slice (some ad) nm cm)∧Rd w' (some od) (cellsF t.o)∧Rd w' (some bd) (cellsF t.n)∧Rd w' (some ad) (cellsM t.m)) (by kernel_rfl) (by kernel_rfl) ⟨HB.drew,M,O,ao,an,am⟩ ?_
       clear HB M O ao an am
       repeat (first
        |(refine' RW.val (by rfl) ?_ ?_;rotate_left;(focus (intro w' hS;obtain⟨HB,M,O,ao,an,am⟩:=hS;obtain⟨M0,M1,M2,M3⟩:=id M;obtain⟨O0,O1,O2⟩:=id O;obtain⟨_,eb,d0,d1,d2⟩:=an.fld HG.out;cases eb;rw[z1] at M1;rw[z2] at M2;rw[z3] at M3;obtain⟨_,eo,f0,f1,f2⟩:=ao.fld HF.out;cases eo;go_simp;rfl));simp only[Act.put,J1,J3,J2])
        |(refine RW.off (by rfl) ?_;simp only[Act.put,J1,J3,J2])
        |(refine' RW.call (by rfl) ?_ ?_ ?_
          rotate_left 3
          (focus (intro w' hS;obtain⟨HB,M,O,ao,an,am⟩:=hS;obtain⟨M0,M1,M2,M3⟩:=id M;obtain⟨O0,O1,O2⟩:=id O;obtain⟨_,eb,d0,d1,d2⟩:=an.fld HG.out;cases eb;rw[z1] at M1;rw[z2] at M2;rw[z3] at M3;obtain⟨_,eo,f0,f1,f2⟩:=ao.fld HF.out;cases eo;go_simp;exact⟨rfl,rfl⟩))
          (focus
            intro w' hS
            obtain⟨HB,M,O,ao,an,am⟩:=hS;obtain⟨M0,M1,M2,M3⟩:=id M;obtain⟨O0,O1,O2⟩:=id O;obtain⟨_,eb,d0,d1,d2⟩:=an.fld HG.out;cases eb;rw[z1] at M1;rw[z2] at M2;rw[z3] at M3;obtain⟨_,eo,f0,f1,f2⟩:=ao.fld HF.out;cases eo
            first
             |(refine(rCasts_is f.s g.s f.k f.l g.k g.l true HC.out _).mono ?_;rintro e w1 ⟨rfl,hb⟩;exact⟨rfl,⟨(below_seq HB hb),(M.below hb),(O.below hb),(ao.below hb),(an.below hb),(am.below hb)⟩⟩))
          simp only[Act.put,J1,J3,J2]))
       refine RW.done (fun w' hS=>?_)
       obtain⟨HB,M,O,ao,an,am⟩:=hS;obtain⟨M0,M1,M2,M3⟩:=id M;obtain⟨O0,O1,O2⟩:=id O;obtain⟨_,eb,d0,d1,d2⟩:=an.fld HG.out;cases eb;rw[z1] at M1;rw[z2] at M2;rw[z3] at M3;obtain⟨_,eo,f0,f1,f2⟩:=ao.fld HF.out;cases eo
       go_wp2
       go_roundw
       case rel=>exact⟨k+1,by omega,by go_num,HB,ao,an,am,O,hall2⟩
       case measure=>simp[intOf];omega
     ·obtain rfl:s=false:=by rw[hok,decide_eq_false hz];rfl
      obtain rfl:=HNOT.out rfl
      have hways:=vl_ways hz
      clear hok hz
      rcases hways with z1|⟨z1,z2⟩|⟨z1,z2,z3⟩
      ·skip
       refine RW.start (fun w'=>Below w.heap.size w w'∧MBox w' wr.heap.size x∧TBox w' w.heap.size (.slice (some od) no co) (.slice (some bd) nn cn) (.slice (some ad) nm cm)∧Rd w' (some od) (cellsF t.o)∧Rd w' (some bd) (cellsF t.n)∧Rd w' (some ad) (cellsM t.m)) (by kernel_rfl) (by kernel_rfl) ⟨HB.drew,M,O,ao,an,am⟩ ?_
       clear HB M O ao an am
       repeat (first
        |(refine' RW.val (by rfl) ?_ ?_;rotate_left;(focus (intro w' hS;obtain⟨HB,M,O,ao,an,am⟩:=hS;obtain⟨M0,M1,M2,M3⟩:=id M;obtain⟨O0,O1,O2⟩:=id O;go_simp;rfl));simp only[Act.put,J1,J3,J2])
        |(refine RW.off (by rfl) ?_;simp only[Act.put,J1,J3,J2]))
       refine RW.done (fun w' hS=>?_)
       obtain⟨HB,M,O,ao,an,am⟩:=hS;obtain⟨M0,M1,M2,M3⟩:=id M;obtain⟨O0,O1,O2⟩:=id O
       go_wp2
       go_ret
       exact⟨rfl,HB⟩
      ·skip
       refine RW.start (fun w'=>Below w.heap.size w w'∧MBox w' wr.heap.size x∧TBox w' w.heap.size (.slice (some od) no co) (.slice (some bd) nn cn) (.slice (some ad) nm cm)∧Rd w' (some od) (cellsF t.o)∧Rd w' (some bd) (cellsF t.n)∧Rd w' (some ad) (cellsM t.m)) (by kernel_rfl) (by kernel_rfl) ⟨HB.drew,M,O,ao,an,am⟩ ?_
       clear HB M O ao an am
       repeat (first
        |(refine' RW.val (by rfl) ?_ ?_;rotate_left;(focus (intro w' hS;obtain⟨HB,M,O,ao,an,am⟩:=hS;obtain⟨M0,M1,M2,M3⟩:=id M;obtain⟨O0,O1,O2⟩:=id O;go_simp;rfl));simp only[Act.put,J1,J3,J2])
        |(refine RW.off (by rfl) ?_;simp only[Act.put,J1,J3,J2]))
       refine RW.done (fun w' hS=>?_)
       obtain⟨HB,M,O,ao,an,am⟩:=hS;obtain⟨M0,M1,M2,M3⟩:=id M;obtain⟨O0,O1,O2⟩:=id O
       go_wp2
       go_ret
       exact⟨rfl,HB⟩
      ·skip
       refine RW.start (fun w'=>Below w.heap.size w w'∧MBox w' wr.heap.size x∧TBox w' w.heap.size (.slice (some od) no co) (.slice (some bd) nn cn) (.slice (some ad) nm cm)∧Rd w' (some od) (cellsF t.o)∧Rd w' (some bd) (cellsF t.n)∧Rd w' (some ad) (cellsM t.m)) (by kernel_rfl) (by kernel_rfl) ⟨HB.drew,M,O,ao,an,am⟩ ?_
       clear HB M O ao an am
       repeat (first
        |(refine' RW.val (by rfl) ?_ ?_;rotate_left;(focus (intro w' hS;obtain⟨HB,M,O,ao,an,am⟩:=hS;obtain⟨M0,M1,M2,M3⟩:=id M;obtain⟨O0,O1,O2⟩:=id O;go_simp;rfl));simp only[Act.put,J1,J3,J2])
        |(refine RW.off (by rfl) ?_;simp only[Act.put,J1,J3,J2]))
       refine RW.done (fun w' hS=>?_)
       obtain⟨HB,M,O,ao,an,am⟩:=hS;obtain⟨M0,M1,M2,M3⟩:=id M;obtain⟨O0,O1,O2⟩:=id O
       go_wp2
       go_ret
       exact⟨rfl,HB⟩
   ·obtain rfl:k=nm:=by omega
    obtain rfl:r=true:=by
     rw[HRR.out,decide_eq_true HL.out,decide_eq_true hall.out];rfl
    go_wp2
    go_ret
    exact⟨rfl,HB⟩
 ·have hz:((nm:Int) != (nn:Int))=true:=by simp;omega
  obtain rfl:r=false:=by rw[HRR.out,decide_eq_false hlen];rfl
  clear hlen
  go_enter Tryz.func79,Tryz.ntmps79
  go_wp2_with (first
   |(have _t:=tok1;go_at_call 77;refine(rRight_m Ao co no t.o HNO.out true HR1.out _ ao l0 SO.out).mono ?_;rintro e wM ⟨rfl,hb⟩;replace HB:=HB.trans (hb.mono HB.size);replace an:=an.below hb;replace am:=am.below hb;replace O:=O.below hb;obtain⟨O0,O1,O2⟩:=id O;clear hb tok1;have tok2:=True.intro)
   |(have _t:=tok2;go_at_call 77;refine(rRight_m An cn nn t.n HNN.out true HR2.out _ an l1 SN.out).mono ?_;rintro e wM ⟨rfl,hb⟩;replace HB:=HB.trans (hb.mono HB.size);replace O:=O.below hb;obtain⟨O0,O1,O2⟩:=id O;clear hb tok2;have tok3:=True.intro))
  go_ret
  exact⟨rfl,HB⟩
end
section
open Go.RowKit Go.Lib
theorem setCells_at (g:Nat) (e:TypeId) (fr:Nat×Nat):∀(vs:List Value) (o:Nat) (w:World) (cur:Array Value),w.heap[g]?=some (.cells cur e fr)→o+vs.length≤cur.size→
 ∃cur',(w.setCells g o vs).heap[g]?=some (.cells cur' e fr)∧cur'.toList=cur.toList.take o++vs++cur.toList.drop (o+vs.length)
 |[],o,w,cur,hg,_=>⟨cur,hg,by simp⟩
 |v :: r,o,w,cur,hg,hl=>by
  simp only[Xx] at hl
  have h1:(w.setCell ⟨g,o,none⟩ v).heap[g]?=some (.cells (cur.setIfInBounds o v) e fr):=by
   obtain⟨hlt,hk⟩:=Qk.1 hg
   show(w.heap.modify g _)[g]?=_
   rw[Array.getElem?_eq_getElem (by rw[Array.size_modify];exact hlt),Array.getElem_modify_self,hk]
   simp
  obtain⟨cur',h2,h3⟩:=setCells_at g e fr r (o+1) _ _ h1 (by simp;omega)
  refine⟨cur',h2,h3.trans ?_⟩
  simp only[Array.toList_setIfInBounds]
  have hol:o<cur.toList.length:=by simp;omega
  have e1:(cur.toList.set o v).take (o+1)=cur.toList.take o++[v]:=by
   rw[Vq,List.take_set_of_le (J9 _)]
   simp[List.getElem?_set_self,hol,show o<cur.size by omega]
  have e2:(cur.toList.set o v).drop (o+1+r.length)=cur.toList.drop (o+1+r.length):=by
   rw[List.drop_set_of_lt (by omega)]
  rw[e1,e2,Xx,show o+(r.length+1)=o+1+r.length by omega]
  simp
theorem grown_setCells {w:World} {g:Nat}:∀(vs:List Value) (o:Nat) (W:World),w.grownBy W (some g)→w.grownBy (W.setCells g o vs) (some g)
 |[],_,_,h=>h
 |v :: r,o,W,h=>grown_setCells r (o+1) (W.setCell ⟨g,o,none⟩ v) ⟨h.os,h.tape,h.output,by simpa[World.setCell] using h.size,fun k hk hne=>(J5 _ _ _ _ (by rintro rfl;exact hne rfl)).trans (h.block k hk hne)⟩
theorem run_clear_one {P:Program} (w:World) (t e ty:TypeId) (z:Value) (zc:List Value) (ht:P.underlying t=some (.slice e)) (hv:∀w,(zeroValue e).run P w=.ok z w) (hz:z.cells.toList=zc) (h0:0<zc.length) (h1:∀u∈zc,u.oneCell'=true) (b o c:Nat)
 (hc:∀j,j<zc.length→(w.cell? ⟨b,o+j,none⟩).isSome=true) (hf:∀j,j<zc.length→w.frozen? ⟨b,o+j,none⟩=false):
 (Builtin.clear_ #[t] ty #[.slice (some ⟨b,o,none⟩) 1 c]).run P w=.ok (.tuple #[]) (w.setCells b o zc):=by
 have hzc:(Builtin.zeroCells z.cells 1).toList=zc:=by
  rw[←hz]
  simp[Builtin.zeroCells]
  apply List.ext_getElem
  ·simp
  ·intro i h1 h2
   simp at h1
   simp[Nat.mod_eq_of_lt h1,h1]
 have hst:=run_storeCells_cells (P:=P) b o zc 0 w (by simpa using hc) (by simpa using hf) h1
 simp only[Nat.add_zero] at hst
 simp[Builtin.clear_,run_underlying ht,hv,hzc,hst]
theorem own_struck {w:World} {base g cap N i K:Nat} {T:TypeId} {xs news zc:List Value} {cur:Array Value} (hbase:base≤g) (hg:w.heap[g]?=some (.cells cur T (0,0))) (hc:N+1≤cap) (hm:cap≤maxLen) (hs:cur.size=cap * K) (ht:cur.toList.take ((N+1) * K)=xs) (hi:i≤N)
 (hn:news=xs.drop ((i+1) * K)) (hz:zc.length=K):
 ((w.setCells g (i * K) news).setCells g (N * K) zc).ownsRow base T K (.slice (some ⟨g,0,none⟩) N cap) N (xs.take (i * K)++xs.drop ((i+1) * K)):=by
 have m1:(N+1) * K=N * K+K:=by rw[Nat.add_mul];omega
 have m2:(i+1) * K=i * K+K:=by rw[Nat.add_mul];omega
 have m3:(N+1) * K≤cap * K:=Nat.mul_le_mul_right K hc
 have m4:i * K≤N * K:=Nat.mul_le_mul_right K hi
 have hxl:xs.length=(N+1) * K:=by rw[←ht,Qv,Array.length_toList];omega
 have hnl:news.length=N * K - i * K:=by rw[hn,List.length_drop];omega
 obtain⟨cur1,h1,e1⟩:=setCells_at g T (0,0) news (i * K) w cur hg (by omega)
 have hl1:cur1.size=cap * K:=by
  have:=congrArg List.length e1
  simp only[Array.length_toList,Qz,Qv,List.length_drop] at this
  omega
 obtain⟨cur2,h2,e2⟩:=setCells_at g T (0,0) zc (N * K) _ cur1 h1 (by omega)
 have hl2:cur2.size=cap * K:=by
  have:=congrArg List.length e2
  simp only[Array.length_toList,Qz,Qv,List.length_drop] at this
  omega
 refine⟨by rw[Qz,Qv,List.length_drop];omega,.inr ⟨g,cap,cur2,rfl,hbase,h2,by omega,hm,hl2,?_⟩⟩
 rw[e2,Xj,List.take_append_of_le_length (by rw[Qv,Array.length_toList];omega),List.take_take,Nat.min_self,e1,List.take_append_of_le_length (by rw[Qz,Qv,Array.length_toList];omega),Vz (by rw[Qz,Qv,Array.length_toList];omega)]
 rw[←hn,←ht,List.take_take,Nat.min_eq_left (by omega)]
theorem DeleteF_m (base g cap N i:Nat) (xs:List Value) (w:World) (ho:w.ownsRow base 68 3 (.slice (some ⟨g,0,none⟩) (N+1) cap) (N+1) xs) (hone:∀u∈xs,u.oneCell'=true) (hi:i≤N):
 Calls Tryz.prog 162 #[.slice (some ⟨g,0,none⟩) (N+1) cap,.int .i64 i,.int .i64 ((i:Int)+1)] w fun e w'=>e=.returned (.slice (some ⟨g,0,none⟩) N cap)∧w'.ownsRow base 68 3 (.slice (some ⟨g,0,none⟩) N cap) N (xs.take (i * 3)++xs.drop ((i+1) * 3))∧w.grownBy w' (some g):=by
 obtain⟨i0,hi0,hz0,hz1,hz2⟩:=info_parts infoFd
 obtain⟨hxl,h⟩:=ho
 rcases h with ⟨h,_⟩|⟨g',cap',cur,hv,hbase,hg,hc,hm,hs,ht⟩
 ·cases h
 cases hv
 have hm':cap≤9223372036854775807:=by simp only[maxLen] at hm;omega
 have hcell:∀t,t<cap * 3→(w.drew.cell? ⟨g,t,none⟩).isSome=true∧w.drew.frozen? ⟨g,t,none⟩=false:=fun t htl=>by
  have hg':w.drew.heap[g]?=some (.cells cur 68 (0,0)):=hg
  refine⟨?_,by simp[World.frozen?,hg']⟩
  simp[World.cell?,hg',show t<cur.size by omega]
 obtain⟨news,hnews⟩:∃news,news=xs.drop ((i+1) * 3):=⟨_,rfl⟩
 have hlen:news.length=(N - i) * 3:=by rw[hnews,List.length_drop,hxl];omega
 have hget:∀t u,news[t]?=some u→w.drew.cell? ⟨g,(i+1) * 3+t,none⟩=some u:=by
  intro t u htu
  have hg':w.drew.heap[g]?=some (.cells cur 68 (0,0)):=hg
  rw[hnews,List.getElem?_drop,←ht,X9] at htu
  split at htu
  ·simp only[World.cell?,hg']
   simpa using htu
  ·cases htu
 obtain⟨A,hA,hsrc⟩:∃A:Addr,(if cap=i+1 then some (⟨g,0,none⟩:Addr) else some ⟨g,(i+1) * 3,none⟩)=some A∧Hid (∀t u,news[t]?=some u→w.drew.cell? (A.add t)=some u):=by
  by_cases h:cap=i+1
  ·refine⟨⟨g,0,none⟩,by simp[h],fun t u hu=>?_⟩
   have h0:news.length=0:=by rw[hlen];omega
   rw[List.length_eq_zero_iff.1 h0] at hu
   simp at hu
  ·refine⟨⟨g,(i+1) * 3,none⟩,by simp[h],fun t u hu=>?_⟩
   rw[Addr.add_lit]
   exact hget t u hu
 have s1:Hid (news.length=(N - i) * 3):=hlen
 have s2:Hid (∀u∈news,u.oneCell'=true):=by
  intro u hu
  rw[hnews] at hu
  exact hone u (List.mem_of_mem_drop hu)
 have s3:Hid (∀t,t<news.length→(w.drew.cell? ⟨g,0+i * 3+t,none⟩).isSome=true∧w.drew.frozen? ⟨g,0+i * 3+t,none⟩=false):=by
  intro t ht
  rw[hlen] at ht
  exact hcell _ (by omega)
 obtain⟨W1,hW1⟩:∃W1,W1=w.drew.setCells g (0+i * 3) news:=⟨_,rfl⟩
 have hown:=own_struck (w:=w.drew) (base:=base) (g:=g) (cap:=cap) (N:=N) (i:=i) (K:=3) (T:=68) (xs:=xs) (news:=news) (zc:=[.string ⟨#[]⟩,.int .i64 0,.int .i64 0]) (cur:=cur) hbase hg hc hm hs ht hi hnews rfl
 have hgr:=grown_setCells (w:=w) (g:=g) [.string ⟨#[]⟩,.int .i64 0,.int .i64 0] (N * 3) _ (grown_setCells news (i * 3) w.drew ⟨rfl,rfl,rfl,J9 _,fun _ _ _=>rfl⟩)
 have hW1':w.drew.setCells g (i * 3) news=W1:=by rw[hW1,Nat.zero_add]
 rw[hW1'] at hown hgr
 have hc1:∀t,t<cap * 3→(W1.cell? ⟨g,t,none⟩).isSome=true∧W1.frozen? ⟨g,t,none⟩=false:=fun t htl=>by
  obtain⟨c1,c2⟩:=hcell t htl
  rw[hW1]
  exact⟨World.isSome_setCells g news _ _ _ c1,by rw[World.frozen?_setCells];exact c2⟩
 have hcl:∀ty,(Builtin.clear_ #[27] ty #[.slice (some ⟨g,N * 3,none⟩) 1 (cap - N)]).run Tryz.prog W1=.ok (.tuple #[]) (W1.setCells g (N * 3) [.string ⟨#[]⟩,.int .i64 0,.int .i64 0]):=
  fun ty=>run_clear_one W1 _ _ ty (.agg #[.string ⟨#[]⟩,.int .i64 0,.int .i64 0]) [.string ⟨#[]⟩,.int .i64 0,.int .i64 0] Tryz.underlying27 (fun _=>by simp only[zeroValue,Sem.run_bind,run_typeInfo _ hi0,Result.andThen_ok,hz0,Sem.run_pure]) rfl (by decide) (by intro u hu;simp at hu;rcases hu with rfl|rfl|rfl|rfl <;> rfl) g (N * 3) _ (fun t ht=>by simp at ht;exact(hc1 _ (by omega)).1) (fun t ht=>by simp at ht;exact(hc1 _ (by omega)).2)
 have hW:Hid (W1=w.drew.setCells g (0+i * 3) news):=hW1
 have hic:i≤cap:=by omega
 have hjc:i+1≤cap:=by omega
 have mixed:Tryz.prog.follows .mixedOrders=true:=by kernel_rfl
 have hi1:(0:Int)≤(i:Int)+1:=by omega
 have hN1:i+(N - i)=N:=by omega
 have hN2:N+1 - N=1:=by omega
 clear hW1 hW1' hnews hget hlen hcell hc1
 go_enter Tryz.func162,Tryz.ntmps162
 go_wp2_with fail
 go_region_law_o (refine step_append_room rfl (.tmp 22) (.tmp 25) 27 rfl 68 i0 3 Tryz.underlying27 hi0 hz1 g 0 i cap (by simp[Act.eval,Act.put]) A (N - i) (cap - (i+1)) news (by simp[Act.eval,Act.put]) s1.out hsrc.out s2.out (by omega) s3.out ?_;rw[←hW.out,hN1])
 go_wp2
 go_ret
 exact⟨rfl,hown,hgr⟩
theorem DeleteM_m (base g cap N i:Nat) (xs:List Value) (w:World) (ho:w.ownsRow base 137 4 (.slice (some ⟨g,0,none⟩) (N+1) cap) (N+1) xs) (hone:∀u∈xs,u.oneCell'=true) (hi:i≤N):
 Calls Tryz.prog 163 #[.slice (some ⟨g,0,none⟩) (N+1) cap,.int .i64 i,.int .i64 ((i:Int)+1)] w fun e w'=>e=.returned (.slice (some ⟨g,0,none⟩) N cap)∧w'.ownsRow base 137 4 (.slice (some ⟨g,0,none⟩) N cap) N (xs.take (i * 4)++xs.drop ((i+1) * 4))∧w.grownBy w' (some g):=by
 obtain⟨i0,hi0,hz0,hz1,hz2⟩:=info_parts infoMv
 obtain⟨hxl,h⟩:=ho
 rcases h with ⟨h,_⟩|⟨g',cap',cur,hv,hbase,hg,hc,hm,hs,ht⟩
 ·cases h
 cases hv
 have hm':cap≤9223372036854775807:=by simp only[maxLen] at hm;omega
 have hcell:∀t,t<cap * 4→(w.drew.cell? ⟨g,t,none⟩).isSome=true∧w.drew.frozen? ⟨g,t,none⟩=false:=fun t htl=>by
  have hg':w.drew.heap[g]?=some (.cells cur 137 (0,0)):=hg
  refine⟨?_,by simp[World.frozen?,hg']⟩
  simp[World.cell?,hg',show t<cur.size by omega]
 obtain⟨news,hnews⟩:∃news,news=xs.drop ((i+1) * 4):=⟨_,rfl⟩
 have hlen:news.length=(N - i) * 4:=by rw[hnews,List.length_drop,hxl];omega
 have hget:∀t u,news[t]?=some u→w.drew.cell? ⟨g,(i+1) * 4+t,none⟩=some u:=by
  intro t u htu
  have hg':w.drew.heap[g]?=some (.cells cur 137 (0,0)):=hg
  rw[hnews,List.getElem?_drop,←ht,X9] at htu
  split at htu
  ·simp only[World.cell?,hg']
   simpa using htu
  ·cases htu
 obtain⟨A,hA,hsrc⟩:∃A:Addr,(if cap=i+1 then some (⟨g,0,none⟩:Addr) else some ⟨g,(i+1) * 4,none⟩)=some A∧Hid (∀t u,news[t]?=some u→w.drew.cell? (A.add t)=some u):=by
  by_cases h:cap=i+1
  ·refine⟨⟨g,0,none⟩,by simp[h],fun t u hu=>?_⟩
   have h0:news.length=0:=by rw[hlen];omega
   rw[List.length_eq_zero_iff.1 h0] at hu
   simp at hu
  ·refine⟨⟨g,(i+1) * 4,none⟩,by simp[h],fun t u hu=>?_⟩
   rw[Addr.add_lit]
   exact hget t u hu
 have s1:Hid (news.length=(N - i) * 4):=hlen
 have s2:Hid (∀u∈news,u.oneCell'=true):=by
  intro u hu
  rw[hnews] at hu
  exact hone u (List.mem_of_mem_drop hu)
 have s3:Hid (∀t,t<news.length→(w.drew.cell? ⟨g,0+i * 4+t,none⟩).isSome=true∧w.drew.frozen? ⟨g,0+i * 4+t,none⟩=false):=by
  intro t ht
  rw[hlen] at ht
  exact hcell _ (by omega)
 obtain⟨W1,hW1⟩:∃W1,W1=w.drew.setCells g (0+i * 4) news:=⟨_,rfl⟩
 have hown:=own_struck (w:=w.drew) (base:=base) (g:=g) (cap:=cap) (N:=N) (i:=i) (K:=4) (T:=137) (xs:=xs) (news:=news) (zc:=[.int .i64 0,.int .i64 0,.int .u64 0,.string ⟨#[]⟩]) (cur:=cur) hbase hg hc hm hs ht hi hnews rfl
 have hgr:=grown_setCells (w:=w) (g:=g) [.int .i64 0,.int .i64 0,.int .u64 0,.string ⟨#[]⟩] (N * 4) _ (grown_setCells news (i * 4) w.drew ⟨rfl,rfl,rfl,J9 _,fun _ _ _=>rfl⟩)
 have hW1':w.drew.setCells g (i * 4) news=W1:=by rw[hW1,Nat.zero_add]
 rw[hW1'] at hown hgr
 have hc1:∀t,t<cap * 4→(W1.cell? ⟨g,t,none⟩).isSome=true∧W1.frozen? ⟨g,t,none⟩=false:=fun t htl=>by
  obtain⟨c1,c2⟩:=hcell t htl
  rw[hW1]
  exact⟨World.isSome_setCells g news _ _ _ c1,by rw[World.frozen?_setCells];exact c2⟩
 have hcl:∀ty,(Builtin.clear_ #[94] ty #[.slice (some ⟨g,N * 4,none⟩) 1 (cap - N)]).run Tryz.prog W1=.ok (.tuple #[]) (W1.setCells g (N * 4) [.int .i64 0,.int .i64 0,.int .u64 0,.string ⟨#[]⟩]):=
  fun ty=>run_clear_one W1 _ _ ty (.agg #[.int .i64 0,.int .i64 0,.int .u64 0,.string ⟨#[]⟩]) [.int .i64 0,.int .i64 0,.int .u64 0,.string ⟨#[]⟩] Tryz.underlying94 (fun _=>by simp only[zeroValue,Sem.run_bind,run_typeInfo _ hi0,Result.andThen_ok,hz0,Sem.run_pure]) rfl (by decide) (by intro u hu;simp at hu;rcases hu with rfl|rfl|rfl|rfl <;> rfl) g (N * 4) _ (fun t ht=>by simp at ht;exact(hc1 _ (by omega)).1) (fun t ht=>by simp at ht;exact(hc1 _ (by omega)).2)
 have hW:Hid (W1=w.drew.setCells g (0+i * 4) news):=hW1
 have hic:i≤cap:=by omega
 have hjc:i+1≤cap:=by omega
 have mixed:Tryz.prog.follows .mixedOrders=true:=by kernel_rfl
 have hi1:(0:Int)≤(i:Int)+1:=by omega
 have hN1:i+(N - i)=N:=by omega
 have hN2:N+1 - N=1:=by omega
 clear hW1 hW1' hnews hget hlen hcell hc1
 go_enter Tryz.func163,Tryz.ntmps163
 go_wp2_with fail
 go_region_law_o (refine step_append_room rfl (.tmp 22) (.tmp 25) 94 rfl 137 i0 4 Tryz.underlying94 hi0 hz1 g 0 i cap (by simp[Act.eval,Act.put]) A (N - i) (cap - (i+1)) news (by simp[Act.eval,Act.put]) s1.out hsrc.out s2.out (by omega) s3.out ?_;rw[←hW.out,hN1])
 go_wp2
 go_ret
 exact⟨rfl,hown,hgr⟩
end
end Go.Proofs.YteembinfgbapgaaGreat
