/- Merged out of: Mc Md Me Mf Mh. -/
import Derived.Test.YteembinfgbapgaaGreatC00
import Derived.Test.YteembinfgbapgaaGreatC12
import Derived.Laws.CopyOwn
import Derived.BigRegion
set_option linter.unusedSimpArgs false
set_option linter.unusedVariables false
set_option maxRecDepth 100000
set_option maxHeartbeats 8000000
namespace Go.Proofs.YteembinfgbapgaaGreat
section
open Go.RowKit
theorem infoMv:(Tryz.prog.info? 137).map (fun i=>(i.zero,i.size,i.bytes))=some (some (.agg #[.int .i64 0,.int .i64 0,.int .u64 0,.string ⟨#[]⟩]),4,40):=by kernel_rfl
theorem infoMr:(Tryz.prog.info? 157).map (fun i=>(i.zero,i.size,i.bytes))=some (some (.agg #[.int .i64 0,.int .i64 0,.int .u64 0,.string ⟨#[]⟩]),4,40):=by kernel_rfl
theorem CloneF_calls (A:Option Addr) (c:Nat) (l:List Fd) (w:World) (hA:Rd w A (cellsF l)) (hl:l.length≤4398046511104) (hlc:l.length≤c):
 Calls Tryz.prog 35 #[.slice A l.length c] w fun e w'=>∃v,e=.returned v∧w'.ownsRow w.heap.size 68 3 v l.length (cellsF l)∧Below w.heap.size w w':=by
 obtain⟨i0,hi,hz0,hz1,hz2⟩:=info_parts infoFd
 cases A with
 |none=>
  obtain rfl:l=[]:=by
   cases l with
   |nil=>rfl
   |cons x r=>obtain⟨ad,e,_⟩:=hA (by simp[cellsF]);cases e
  have heq:∀w:World,(binOp .eql 27 (.slice none 0 c) (.slice none 0 0)).run Tryz.prog w=.ok (.bool true) w:=fun w=>Lib.run_eql_slice_nil (P:=Tryz.prog) w 27 68 none 0 c 0 0 Tryz.underlying27
  go_enter Tryz.func35,Tryz.ntmps35
  go_wp2
  go_ret
  exact⟨_,rfl,own_nil _ _ _ _,Jy _ _⟩
 |some ad=>
  have heq:∀w:World,(binOp .eql 27 (.slice (some ad) l.length c) (.slice none 0 0)).run Tryz.prog w=.ok (.bool false) w:=fun w=>Lib.run_eql_slice_nil (P:=Tryz.prog) w 27 68 (some ad) l.length c 0 0 Tryz.underlying27
  have hown:(w.alloc (.cells #[] 68)).ownsRow w.heap.size 68 3 (.slice (some ⟨w.heap.size,0,none⟩) 0 0) 0 []:=⟨rfl,.inr ⟨_,0,#[],rfl,J9 _,World.alloc_heap_new _ _,J9 _,X8 _,rfl,rfl⟩⟩
  have hA2:=hA.below (below_new (.cells #[] 68))
  go_enter Tryz.func35,Tryz.ntmps35
  go_wp2_with (at_builtin;refine wpList_append_own _ rfl _ _ 27 rfl w.heap.size 68 i0 (.agg #[.string ⟨#[]⟩,.int .i64 0,.int .i64 0]) 3 32 Tryz.underlying27 hi hz0 hz1 hz2 rfl (by decide) _ _ _ rfl hown ad l.length c (cellsF l) rfl ?c0 ?c1 ?c2 ?c3 ?c4 ?c5 ?_)
  case c0=>rw[cellsF_length];omega
  case c1=>
   intro j u hj
   obtain⟨ad',e,h⟩:=hA2 (by rintro e;rw[e] at hj;simp at hj)
   cases e;exact h j u hj
  case c2=>
   intro u hu
   simp only[cellsF,List.mem_flatMap] at hu
   obtain⟨f,_,hu⟩:=hu
   simp at hu
   rcases hu with rfl|rfl|rfl <;> rfl
  case c3=>simp only[maxLen];omega
  case c4=>omega
  case c5=>simp
  intro v' w1 hown' hgrow _
  have hB:=(below_new (w:=w) (.cells #[] 68)).grown hgrow (by simp) (fun q hq=>own_base hown q hq)
  clear hown hgrow
  go_wp2
  go_ret
  exact⟨_,rfl,own_eq hown' (by simp) (by simp),hB⟩
theorem SlEqual_calls (A B:Option Addr) (c d:Nat) (a b:List Fd) (w:World) (hA:Rd w A (cellsF a)) (hB:Rd w B (cellsF b)) (ha:a.length≤9223372036854775807) (hb:b.length≤9223372036854775807):
 Calls Tryz.prog 141 #[.slice A a.length c,.slice B b.length d] w fun e w'=>e=.returned (.bool (sameFB a b))∧Below w.heap.size w w':=by
 by_cases hlen:a.length=b.length
 ·have hz:((a.length:Int) != (b.length:Int))=false:=by rw[hlen];simp
  obtain⟨r,hr⟩:∃r,sameFB a b=r:=⟨_,rfl⟩
  rw[hr]
  have HR:=J0 hr
  have HL:=J0 hlen
  clear hr
  obtain⟨m,hm⟩:∃m,b.length=m:=⟨_,rfl⟩
  rw[hm] at hz hlen ⊢
  have HM:=J0 hm
  clear hm hlen hb
  go_enter Tryz.func141,Tryz.ntmps141
  go_wp2
  go_loopw [5,13] (fun _ i wr=>∃k:Nat,k≤a.length∧i=.int .i64 k∧Below w.heap.size w wr∧Hid (a.take k=b.take k)) (fun _ i _=>a.length - (intOf i).toNat)
  case atStart=>exact⟨0,by omega,rfl,Jy _ _,J0 rfl⟩
  case round=>
   obtain⟨k,hk,rfl,HB,hall⟩:=hrel
   have hAr:=hA.below HB
   have hBr:=hB.below HB
   clear hA hB
   by_cases hlt:k<a.length
   ·have hlb:k<m:=by have:=HL.out;have:=HM.out;omega
    obtain⟨x,hx⟩:∃x,a[k]?=some x:=⟨_,J4 hlt⟩
    obtain⟨y,hy⟩:∃y,b[k]?=some y:=⟨_,J4 (by rw[HM.out];exact hlb)⟩
    obtain⟨ad,rfl,c0,c1,c2⟩:=hAr.fld hx
    obtain⟨bd,rfl,d0,d1,d2⟩:=hBr.fld hy
    have HX:=J0 hx
    have HY:=J0 hy
    clear hx hy hAr hBr
    have hi0:(0:Int)≤(k:Int):=by omega
    have hi1:(k:Int)<(a.length:Int):=by omega
    have hi2:(k:Int)<(m:Int):=by omega
    go_wp2
    rcases fd_ways x y with ⟨hne,h1⟩|⟨hne,h1,h2⟩|⟨hne,h1,h2,h3⟩|⟨he,h1,h2,h3⟩
    ·obtain rfl:r=false:=by
      rw[←HR.out];simp[sameFB];intro e
      have h1:=HX.out;rw[e,HY.out] at h1;exact hne (Jj h1).symm
     clear hne hall
     refine RW.start (fun w'=>Below w.heap.size w w'∧(w'.cell? (ad.add (k * 3))=some (.string x.s)∧w'.cell? ⟨(ad.add (k * 3)).block,(ad.add (k * 3)).off+(0+1),none⟩=some (.int .i64 x.k)∧w'.cell? ⟨(ad.add (k * 3)).block,(ad.add (k * 3)).off+(1+1),none⟩=some (.int .i64 x.l))∧(w'.cell? (bd.add (k * 3))=some (.string y.s)∧w'.cell? ⟨(bd.add (k * 3)).block,(bd.add (k * 3)).off+(0+1),none⟩=some (.int .i64 y.k)∧w'.cell? ⟨(bd.add (k * 3)).block,(bd.add (k * 3)).off+(1+1),none⟩=some (.int .i64 y.l))) (by kernel_rfl) (by kernel_rfl) ⟨HB.drew,⟨c0,c1,c2⟩,d0,d1,d2⟩ ?_
     clear HB c0 c1 c2 d0 d1 d2
     repeat (first
      |(refine' RW.val (by rfl) ?_ ?_;rotate_left;(focus (intro w' hS;obtain⟨HB,⟨c0,c1,c2⟩,d0,d1,d2⟩:=hS;go_simp;rfl));simp only[Act.put,J1,J3,J2])
      |(refine RW.off (by rfl) ?_;simp only[Act.put,J1,J3,J2]))
     refine RW.done (fun w' hS=>?_)
     obtain⟨HB,⟨c0,c1,c2⟩,d0,d1,d2⟩:=hS
     go_wp2
     go_ret
     exact⟨rfl,HB⟩
    ·obtain rfl:r=false:=by
      rw[←HR.out];simp[sameFB];intro e
      have h1:=HX.out;rw[e,HY.out] at h1;exact hne (Jj h1).symm
     clear hne hall
     refine RW.start (fun w'=>Below w.heap.size w w'∧(w'.cell? (ad.add (k * 3))=some (.string x.s)∧w'.cell? ⟨(ad.add (k * 3)).block,(ad.add (k * 3)).off+(0+1),none⟩=some (.int .i64 x.k)∧w'.cell? ⟨(ad.add (k * 3)).block,(ad.add (k * 3)).off+(1+1),none⟩=some (.int .i64 x.l))∧(w'.cell? (bd.add (k * 3))=some (.string y.s)∧w'.cell? ⟨(bd.add (k * 3)).block,(bd.add (k * 3)).off+(0+1),none⟩=some (.int .i64 y.k)∧w'.cell? ⟨(bd.add (k * 3)).block,(bd.add (k * 3)).off+(1+1),none⟩=some (.int .i64 y.l))) (by kernel_rfl) (by kernel_rfl) ⟨HB.drew,⟨c0,c1,c2⟩,d0,d1,d2⟩ ?_
     clear HB c0 c1 c2 d0 d1 d2
     repeat (first
      |(refine' RW.val (by rfl) ?_ ?_;rotate_left;(focus (intro w' hS;obtain⟨HB,⟨c0,c1,c2⟩,d0,d1,d2⟩:=hS;go_simp;rfl));simp only[Act.put,J1,J3,J2])
      |(refine RW.off (by rfl) ?_;simp only[Act.put,J1,J3,J2]))
     refine RW.done (fun w' hS=>?_)
     obtain⟨HB,⟨c0,c1,c2⟩,d0,d1,d2⟩:=hS
     go_wp2
     go_ret
     exact⟨rfl,HB⟩
    ·obtain rfl:r=false:=by
      rw[←HR.out];simp[sameFB];intro e
      have h1:=HX.out;rw[e,HY.out] at h1;exact hne (Jj h1).symm
     clear hne hall
     refine RW.start (fun w'=>Below w.heap.size w w'∧(w'.cell? (ad.add (k * 3))=some (.string x.s)∧w'.cell? ⟨(ad.add (k * 3)).block,(ad.add (k * 3)).off+(0+1),none⟩=some (.int .i64 x.k)∧w'.cell? ⟨(ad.add (k * 3)).block,(ad.add (k * 3)).off+(1+1),none⟩=some (.int .i64 x.l))∧(w'.cell? (bd.add (k * 3))=some (.string y.s)∧w'.cell? ⟨(bd.add (k * 3)).block,(bd.add (k * 3)).off+(0+1),none⟩=some (.int .i64 y.k)∧w'.cell? ⟨(bd.add (k * 3)).block,(bd.add (k * 3)).off+(1+1),none⟩=some (.int .i64 y.l))) (by kernel_rfl) (by kernel_rfl) ⟨HB.drew,⟨c0,c1,c2⟩,d0,d1,d2⟩ ?_
     clear HB c0 c1 c2 d0 d1 d2
     repeat (first
      |(refine' RW.val (by rfl) ?_ ?_;rotate_left;(focus (intro w' hS;obtain⟨HB,⟨c0,c1,c2⟩,d0,d1,d2⟩:=hS;go_simp;rfl));simp only[Act.put,J1,J3,J2])
      |(refine RW.off (by rfl) ?_;simp only[Act.put,J1,J3,J2]))
     refine RW.done (fun w' hS=>?_)
     obtain⟨HB,⟨c0,c1,c2⟩,d0,d1,d2⟩:=hS
     go_wp2
     go_ret
     exact⟨rfl,HB⟩
    ·have hall2:Hid (a.take (k+1)=b.take (k+1)):=J0 (by rw[Vq,Vq,hall.out,HX.out,HY.out,he])
     clear he hall
     refine RW.start (fun w'=>Below w.heap.size w w'∧(w'.cell? (ad.add (k * 3))=some (.string x.s)∧w'.cell? ⟨(ad.add (k * 3)).block,(ad.add (k * 3)).off+(0+1),none⟩=some (.int .i64 x.k)∧w'.cell? ⟨(ad.add (k * 3)).block,(ad.add (k * 3)).off+(1+1),none⟩=some (.int .i64 x.l))∧(w'.cell? (bd.add (k * 3))=some (.string y.s)∧w'.cell? ⟨(bd.add (k * 3)).block,(bd.add (k * 3)).off+(0+1),none⟩=some (.int .i64 y.k)∧w'.cell? ⟨(bd.add (k * 3)).block,(bd.add (k * 3)).off+(1+1),none⟩=some (.int .i64 y.l))) (by kernel_rfl) (by kernel_rfl) ⟨HB.drew,⟨c0,c1,c2⟩,d0,d1,d2⟩ ?_
     clear HB c0 c1 c2 d0 d1 d2
     repeat (first
      |(refine' RW.val (by rfl) ?_ ?_;rotate_left;(focus (intro w' hS;obtain⟨HB,⟨c0,c1,c2⟩,d0,d1,d2⟩:=hS;go_simp;rfl));simp only[Act.put,J1,J3,J2])
      |(refine RW.off (by rfl) ?_;simp only[Act.put,J1,J3,J2]))
     refine RW.done (fun w' hS=>?_)
     obtain⟨HB,⟨c0,c1,c2⟩,d0,d1,d2⟩:=hS
     go_wp2
     go_roundw
     case rel=>exact⟨k+1,by omega,by go_num,HB,hall2⟩
     case measure=>simp[intOf];omega
   ·obtain rfl:k=a.length:=by omega
    obtain rfl:r=true:=by
     rw[←HR.out];have h:=hall.out
     rw[List.take_length,HL.out,List.take_length] at h
     simpa[sameFB] using h
    clear hAr hBr
    go_wp2
    go_ret
    exact⟨rfl,HB⟩
 ·have hz:((a.length:Int) != (b.length:Int))=true:=by simp;omega
  have hr:sameFB a b=false:=by simp[sameFB];intro e;exact hlen (by rw[e])
  rw[hr]
  clear hr hlen
  go_enter Tryz.func141,Tryz.ntmps141
  go_wp2
  go_ret
  exact⟨rfl,Jy _ _⟩
theorem SlEqual_m (A B:Option Addr) (c d m n:Nat) (a b:List Fd) (ha:a.length=m) (hb:b.length=n) (r:Bool) (hr:sameFB a b=r) (w:World) (hA:Rd w A (cellsF a)) (hB:Rd w B (cellsF b)) (hm:m≤9223372036854775807) (hn:n≤9223372036854775807):
 Calls Tryz.prog 141 #[.slice A m c,.slice B n d] w fun e w'=>e=.returned (.bool r)∧Below w.heap.size w w':=by
 subst ha hb hr;exact SlEqual_calls A B c d a b w hA hB hm hn
def MBox (w:World) (b:Nat) (m:Mv):Prop:=w.cell? ⟨b,0,none⟩=some (.int .i64 m.f)∧w.cell? ⟨b,1,none⟩=some (.int .i64 m.d.k)∧w.cell? ⟨b,2,none⟩=some (.int .u64 m.d.b)∧w.cell? ⟨b,3,none⟩=some (.string m.d.t)
theorem MBox.below {w w1:World} {b:Nat} {m:Mv} (h:MBox w b m) (hb:Below w.heap.size w w1):MBox w1 b m:=⟨cell_below (B:=0) hb h.1,cell_below (B:=0) hb h.2.1,cell_below (B:=0) hb h.2.2.1,cell_below (B:=0) hb h.2.2.2⟩
theorem ByteArray.toList_nil_beq (t:ByteArray):(t.toList == (⟨#[]⟩:ByteArray).toList)=(t.toList == []):=by
 rw[ByteArray.toList_eq (⟨#[]⟩:ByteArray)]
theorem cell_allocs {w:World} {a:Addr} {v:Value} (h:w.cell? a=some v):(∀o,(w.alloc o).cell? a=some v)∧∀o o',((w.alloc o).alloc o').cell? a=some v:=
 ⟨fun o=>cell_below (B:=0) (below_new o) h,fun o o'=>cell_below (B:=0) (below_new o') (cell_below (B:=0) (below_new o) h)⟩
theorem Right1_is (bp:Nat) (t:Tb) (Ao An Am:Option Addr) (co cn cm no nn nm:Nat) (hno:t.o.length=no) (hnn:t.n.length=nn) (hnm:t.m.length=nm) (l0:no≤9223372036854775807) (k:Nat) (x:Mv) (g:Fd) (hx:t.m[k]?=some x) (hg:t.n[k]?=some g) (b0:0≤x.d.b) (b1:x.d.b<18446744073709551616)
 (w:World) (O:TBox w bp (.slice Ao no co) (.slice An nn cn) (.slice Am nm cm)) (ao:Rd w Ao (cellsF t.o)) (an:Rd w An (cellsF t.n)) (am:Rd w Am (cellsM t.m)):
 Calls Tryz.prog 107 #[.int .i64 (k:Int),.pointer (some ⟨bp,0,none⟩)] w fun e w'=>e=.returned (.bool (okMv t.o g x))∧Below w.heap.size w w':=by
 obtain⟨r,hr⟩:∃r,okMv t.o g x=r:=⟨_,rfl⟩
 rw[hr]
 have hk1:k<nn:=by rw[←hnn];exact(J6.1 hg).1
 have hk2:k<nm:=by rw[←hnm];exact(J6.1 hx).1
 obtain⟨ad,ea,c0,c1,c2,c3⟩:=am.mv hx
 obtain⟨bd,eb,d0,d1,d2⟩:=an.fld hg
 subst ea eb
 obtain⟨O0,O1,O2⟩:=id O
 have HR:=J0 hr
 have HNO:=J0 hno
 have hi0:(0:Int)≤(k:Int):=by omega
 have hi1:(k:Int)<(nn:Int):=by omega
 have hi2:(k:Int)<(nm:Int):=by omega
 clear hr hno hnn hnm hx hg an am
 go_enter Tryz.func107,Tryz.ntmps107
 go_upto_region 1 with fail
 go_cut [4,5] (fun s4 s5 wx=>∃p q:Nat,s4=.pointer (some ⟨p,0,none⟩)∧s5=.pointer (some ⟨q,0,none⟩)∧MBox wx p x∧FBox wx q g.s g.k g.l∧Below w.heap.size w wx)
 case first=>
  obtain⟨x0,y0⟩:=cell_allocs c0
  obtain⟨x1,y1⟩:=cell_allocs c1
  obtain⟨x2,y2⟩:=cell_allocs c2
  obtain⟨x3,y3⟩:=cell_allocs c3
  obtain⟨x4,y4⟩:=cell_allocs d0
  obtain⟨x5,y5⟩:=cell_allocs d1
  obtain⟨x6,y6⟩:=cell_allocs d2
  obtain⟨x7,y7⟩:=cell_allocs O1
  obtain⟨x8,y8⟩:=cell_allocs O2
  go_region
  have HB:=Jy w.heap.size w
  all_goals (go_wp2_with fail;go_meet;refine⟨_,_,rfl,rfl,⟨?_,?_,?_,?_⟩,⟨?_,?_,?_⟩,?_⟩)
  all_goals first
   |(simp[World.cell?_alloc_new];done)
   |(have HB:=Jy w.heap.size w;(repeat (first|exact HB|refine J8 ?_ (by dsimp only;omega) _|refine Jk ?_ (by have hs_:=HB.size;first|(simp;done)|(simp;omega)|omega) _|apply Jv)))
 case rest=>
  obtain⟨p,q,rfl,rfl,M,F,HB⟩:=hcut
  replace O:=O.below HB
  replace ao:=ao.below HB
  clear c0 c1 c2 c3 d0 d1 d2 O0 O1 O2
  obtain⟨M0,M1,M2,M3⟩:=id M
  obtain⟨F0,F1,F2⟩:=id F
  obtain⟨O0,O1,O2⟩:=id O
  by_cases hf:x.f=-1
  ·have hfb:(x.f == -1)=true:=by simp[hf]
   have hok:r=(rightB x.d.k x.d.b x.d.t g.k g.l && (decide (g.k≠11) || decide (x.d.b=0))):=by rw[←HR.out,okMv,if_pos hf]
   obtain⟨r1,hr1⟩:∃y,rightB x.d.k x.d.b x.d.t g.k g.l=y:=⟨_,rfl⟩
   rw[hr1] at hok
   have HR1:=J0 hr1
   clear hr1 hf
   cases r1
   ·obtain rfl:r=false:=hok
    go_wp2_with (go_at_call 95;refine(Right_is x.d.k x.d.b x.d.t g.s g.k g.l b0 b1 false HR1.out _).mono ?_;rintro e wM ⟨rfl,hb⟩;replace HB:=HB.trans (hb.mono HB.size);replace F:=F.below hb;obtain⟨F0,F1,F2⟩:=id F;clear hb)
    go_ret
    exact⟨rfl,HB⟩
   ·by_cases hk:g.k=11
    ·have hk1:(g.k != 11)=false:=by simp[hk]
     by_cases hb:x.d.b=0
     ·have hb1:(x.d.b == 0)=true:=by simp[hb]
      obtain rfl:r=true:=by rw[hok];simp[hb]
      clear hok hk hb
      go_wp2_with (go_at_call 95;refine(Right_is x.d.k x.d.b x.d.t g.s g.k g.l b0 b1 true HR1.out _).mono ?_;rintro e wM ⟨rfl,hb⟩;replace HB:=HB.trans (hb.mono HB.size);obtain⟨F0,F1,F2⟩:=F.below hb;obtain⟨M0,M1,M2,M3⟩:=M.below hb;clear hb)
      go_ret
      exact⟨rfl,HB⟩
     ·have hb1:(x.d.b == 0)=false:=by simp[hb]
      obtain rfl:r=false:=by rw[hok];simp[hb,hk]
      clear hok hk hb
      go_wp2_with (go_at_call 95;refine(Right_is x.d.k x.d.b x.d.t g.s g.k g.l b0 b1 true HR1.out _).mono ?_;rintro e wM ⟨rfl,hb⟩;replace HB:=HB.trans (hb.mono HB.size);obtain⟨F0,F1,F2⟩:=F.below hb;obtain⟨M0,M1,M2,M3⟩:=M.below hb;clear hb)
      go_ret
      exact⟨rfl,HB⟩
    ·have hk1:(g.k != 11)=true:=by simp[hk]
     obtain rfl:r=true:=by rw[hok];simp[hk]
     clear hok hk
     go_wp2_with (go_at_call 95;refine(Right_is x.d.k x.d.b x.d.t g.s g.k g.l b0 b1 true HR1.out _).mono ?_;rintro e wM ⟨rfl,hb⟩;replace HB:=HB.trans (hb.mono HB.size);obtain⟨F0,F1,F2⟩:=F.below hb;obtain⟨M0,M1,M2,M3⟩:=M.below hb;clear hb)
     go_ret
     exact⟨rfl,HB⟩
  ·have hfb:(x.f == -1)=false:=by simp[hf]
   have hok:r=(decide (0≤x.f) && (match t.o[x.f.toNat]? with|none=>false|some f=>decide (x.d=Vl.z) && castsB f.k f.l g.k g.l)):=by rw[←HR.out,okMv,if_neg hf] <;> rfl
   clear hf
   go_upto_region 4 with fail
   by_cases h0:0≤x.f
   ·have h01:decide ((0:Int)≤x.f)=true:=by simpa using h0
    by_cases h1:x.f<(no:Int)
    ·obtain⟨f,hf⟩:∃f,t.o[x.f.toNat]?=some f:=⟨_,J4 (by rw[HNO.out];omega)⟩
     have h11:decide (x.f<(no:Int))=true:=by simpa using h1
     rw[hf] at hok
     have HF:=J0 hf
     clear hf
     by_cases hz:x.d=Vl.z
     ·have hr:castsB f.k f.l g.k g.l=r:=by rw[hok];simp[h0,hz]
      have HC:=J0 hr
      obtain⟨od,eo,f0,f1,f2⟩:=ao.fld HF.out
      subst eo
      have z1:x.d.k=0:=by rw[hz];rfl
      have z2:x.d.b=0:=by rw[hz];rfl
      have z3:x.d.t=⟨#[]⟩:=by rw[hz];rfl
      clear hok hr hz
      clear f0 f1 f2 M0 M1 M2 M3 F0 F1 F2 O0 O1 O2
      refine RW.start (fun w'=>Below w.heap.size w w'∧MBox w' p x∧FBox w' q g.s g.k g.l∧TBox w' bp (.slice (some od) no co) (.slice (some bd) nn cn) (.slice (some ad) nm cm)∧Rd w' (some od) (cellsF t.o)) (by kernel_rfl) (by kernel_rfl) ⟨HB.drew,M,F,O,ao⟩ ?_
      clear HB M F O ao
      repeat (first
       |(refine' RW.val (by rfl) ?_ ?_;rotate_left;(focus (intro w' hS;obtain⟨HB,M,F,O,ao⟩:=hS;obtain⟨M0,M1,M2,M3⟩:=id M;obtain⟨F0,F1,F2⟩:=id F;obtain⟨O0,O1,O2⟩:=id O;rw[z1] at M1;rw[z2] at M2;rw[z3] at M3;obtain⟨_,eo,f0,f1,f2⟩:=ao.fld HF.out;cases eo;go_simp;rfl));simp only[Act.put,J1,J3,J2])
       |(refine RW.off (by rfl) ?_;simp only[Act.put,J1,J3,J2])
       |(refine' RW.call (by rfl) ?_ ?_ ?_
         rotate_left 3
         (focus (intro w' hS;obtain⟨HB,M,F,O,ao⟩:=hS;obtain⟨M0,M1,M2,M3⟩:=id M;obtain⟨F0,F1,F2⟩:=id F;obtain⟨O0,O1,O2⟩:=id O;rw[z1] at M1;rw[z2] at M2;rw[z3] at M3;obtain⟨_,eo,f0,f1,f2⟩:=ao.fld HF.out;cases eo;go_simp;exact⟨rfl,rfl⟩))
         (focus
           intro w' hS
           obtain⟨HB,M,F,O,ao⟩:=hS;obtain⟨M0,M1,M2,M3⟩:=id M;obtain⟨F0,F1,F2⟩:=id F;obtain⟨O0,O1,O2⟩:=id O;rw[z1] at M1;rw[z2] at M2;rw[z3] at M3;obtain⟨_,eo,f0,f1,f2⟩:=ao.fld HF.out;cases eo
           first
            |(refine(Casts_is f.s g.s f.k f.l g.k g.l r HC.out _).mono ?_;rintro e w1 ⟨rfl,hb⟩;exact⟨rfl,⟨(below_seq HB hb),(M.below hb),(F.below hb),(O.below hb),(ao.below hb)⟩⟩))
         simp only[Act.put,J1,J3,J2]))
      refine RW.done (fun w' hS=>?_)
      obtain⟨HB,M,F,O,ao⟩:=hS;obtain⟨M0,M1,M2,M3⟩:=id M;obtain⟨F0,F1,F2⟩:=id F;obtain⟨O0,O1,O2⟩:=id O;rw[z1] at M1;rw[z2] at M2;rw[z3] at M3;obtain⟨_,eo,f0,f1,f2⟩:=ao.fld HF.out;cases eo
      go_wp2
      go_ret
      exact⟨rfl,HB⟩
     ·obtain rfl:r=false:=by rw[hok];simp[hz]
      have hw:(x.d.k == 0)=false∨((x.d.k == 0)=true∧(x.d.b == 0)=false)∨((x.d.k == 0)=true∧(x.d.b == 0)=true∧(x.d.t.toList == [])=false):=by
       rw[←ByteArray.toList_nil_beq x.d.t]
       obtain⟨xf,⟨dk,db,dt⟩⟩:=x
       by_cases e1:dk=0
       ·by_cases e2:db=0
        ·refine .inr (.inr ⟨by simp[e1],by simp[e2],?_⟩)
         rw[name_beq]
         exact decide_eq_false fun e3=>hz (by have e3:dt=_:=e3;show(⟨dk,db,dt⟩:Vl)=Vl.z;rw[e1,e2,e3];rfl)
        ·exact .inr (.inl ⟨by simp[e1],by simp[e2]⟩)
       ·exact .inl (by simp[e1])
      clear hok hz
      rcases hw with z1|⟨z1,z2⟩|⟨z1,z2,z3⟩
      ·skip
       refine RW.start (fun w'=>Below w.heap.size w w'∧MBox w' p x∧FBox w' q g.s g.k g.l∧TBox w' bp (.slice Ao no co) (.slice (some bd) nn cn) (.slice (some ad) nm cm)) (by kernel_rfl) (by kernel_rfl) ⟨HB.drew,M,F,O⟩ ?_
       clear HB M F O
       repeat (first
        |(refine' RW.val (by rfl) ?_ ?_;rotate_left;(focus (intro w' hS;obtain⟨HB,M,F,O⟩:=hS;obtain⟨M0,M1,M2,M3⟩:=id M;obtain⟨F0,F1,F2⟩:=id F;obtain⟨O0,O1,O2⟩:=id O;go_simp;rfl));simp only[Act.put,J1,J3,J2])
        |(refine RW.off (by rfl) ?_;simp only[Act.put,J1,J3,J2]))
       refine RW.done (fun w' hS=>?_)
       obtain⟨HB,M,F,O⟩:=hS;obtain⟨M0,M1,M2,M3⟩:=id M;obtain⟨F0,F1,F2⟩:=id F;obtain⟨O0,O1,O2⟩:=id O
       go_wp2
       go_ret
       exact⟨rfl,HB⟩
      ·skip
       refine RW.start (fun w'=>Below w.heap.size w w'∧MBox w' p x∧FBox w' q g.s g.k g.l∧TBox w' bp (.slice Ao no co) (.slice (some bd) nn cn) (.slice (some ad) nm cm)) (by kernel_rfl) (by kernel_rfl) ⟨HB.drew,M,F,O⟩ ?_
       clear HB M F O
       repeat (first
        |(refine' RW.val (by rfl) ?_ ?_;rotate_left;(focus (intro w' hS;obtain⟨HB,M,F,O⟩:=hS;obtain⟨M0,M1,M2,M3⟩:=id M;obtain⟨F0,F1,F2⟩:=id F;obtain⟨O0,O1,O2⟩:=id O;go_simp;rfl));simp only[Act.put,J1,J3,J2])
        |(refine RW.off (by rfl) ?_;simp only[Act.put,J1,J3,J2]))
       refine RW.done (fun w' hS=>?_)
       obtain⟨HB,M,F,O⟩:=hS;obtain⟨M0,M1,M2,M3⟩:=id M;obtain⟨F0,F1,F2⟩:=id F;obtain⟨O0,O1,O2⟩:=id O
       go_wp2
       go_ret
       exact⟨rfl,HB⟩
      ·skip
       refine RW.start (fun w'=>Below w.heap.size w w'∧MBox w' p x∧FBox w' q g.s g.k g.l∧TBox w' bp (.slice Ao no co) (.slice (some bd) nn cn) (.slice (some ad) nm cm)) (by kernel_rfl) (by kernel_rfl) ⟨HB.drew,M,F,O⟩ ?_
       clear HB M F O
       repeat (first
        |(refine' RW.val (by rfl) ?_ ?_;rotate_left;(focus (intro w' hS;obtain⟨HB,M,F,O⟩:=hS;obtain⟨M0,M1,M2,M3⟩:=id M;obtain⟨F0,F1,F2⟩:=id F;obtain⟨O0,O1,O2⟩:=id O;go_simp;rfl));simp only[Act.put,J1,J3,J2])
        |(refine RW.off (by rfl) ?_;simp only[Act.put,J1,J3,J2]))
       refine RW.done (fun w' hS=>?_)
       obtain⟨HB,M,F,O⟩:=hS;obtain⟨M0,M1,M2,M3⟩:=id M;obtain⟨F0,F1,F2⟩:=id F;obtain⟨O0,O1,O2⟩:=id O
       go_wp2
       go_ret
       exact⟨rfl,HB⟩
    ·obtain rfl:r=false:=by
      rw[hok,Xy (by rw[HNO.out];omega)];simp
     have h11:decide (x.f<(no:Int))=false:=by simpa using h1
     clear hok h1
     refine RW.start (fun w'=>Below w.heap.size w w'∧MBox w' p x∧FBox w' q g.s g.k g.l∧TBox w' bp (.slice Ao no co) (.slice (some bd) nn cn) (.slice (some ad) nm cm)) (by kernel_rfl) (by kernel_rfl) ⟨HB.drew,M,F,O⟩ ?_
     clear HB M F O
     repeat (first
      |(refine' RW.val (by rfl) ?_ ?_;rotate_left;(focus (intro w' hS;obtain⟨HB,M,F,O⟩:=hS;obtain⟨M0,M1,M2,M3⟩:=id M;obtain⟨F0,F1,F2⟩:=id F;obtain⟨O0,O1,O2⟩:=id O;go_simp;rfl));simp only[Act.put,J1,J3,J2])
      |(refine RW.off (by rfl) ?_;simp only[Act.put,J1,J3,J2]))
     refine RW.done (fun w' hS=>?_)
     obtain⟨HB,M,F,O⟩:=hS;obtain⟨M0,M1,M2,M3⟩:=id M;obtain⟨F0,F1,F2⟩:=id F;obtain⟨O0,O1,O2⟩:=id O
     go_wp2
     go_ret
     exact⟨rfl,HB⟩
   ·obtain rfl:r=false:=by rw[hok];simp[h0]
    have h01:decide ((0:Int)≤x.f)=false:=by simpa using h0
    clear hok h0
    refine RW.start (fun w'=>Below w.heap.size w w'∧MBox w' p x∧FBox w' q g.s g.k g.l∧TBox w' bp (.slice Ao no co) (.slice (some bd) nn cn) (.slice (some ad) nm cm)) (by kernel_rfl) (by kernel_rfl) ⟨HB.drew,M,F,O⟩ ?_
    clear HB M F O
    repeat (first
     |(refine' RW.val (by rfl) ?_ ?_;rotate_left;(focus (intro w' hS;obtain⟨HB,M,F,O⟩:=hS;obtain⟨M0,M1,M2,M3⟩:=id M;obtain⟨F0,F1,F2⟩:=id F;obtain⟨O0,O1,O2⟩:=id O;go_simp;rfl));simp only[Act.put,J1,J3,J2])
     |(refine RW.off (by rfl) ?_;simp only[Act.put,J1,J3,J2]))
    refine RW.done (fun w' hS=>?_)
    obtain⟨HB,M,F,O⟩:=hS;obtain⟨M0,M1,M2,M3⟩:=id M;obtain⟨F0,F1,F2⟩:=id F;obtain⟨O0,O1,O2⟩:=id O
    go_wp2
    go_ret
    exact⟨rfl,HB⟩
theorem TRight_m (t:Tb) (Ao An Am:Option Addr) (co cn cm no nn nm:Nat) (hno:t.o.length=no) (hnn:t.n.length=nn) (hnm:t.m.length=nm) (l0:no≤9223372036854775807) (l1:nn≤9223372036854775807) (l2:nm≤9223372036854775807) (hw:MvW t.m)
 (w:World) (ao:Rd w Ao (cellsF t.o)) (an:Rd w An (cellsF t.n)) (am:Rd w Am (cellsM t.m)):
 Calls Tryz.prog 72 #[.agg #[.slice Ao no co,.slice An nn cn,.slice Am nm cm]] w fun e w'=>e=.returned (.bool (rightT t))∧Below w.heap.size w w':=by
 have hmf:∀(fn:Fn) (first cap:Array Value) (w:World),(Instr.makeFunc fn first cap).run Tryz.prog w=.ok (.func fn first cap) w:=fun _ _ _ _=>rfl
 obtain⟨r,hr⟩:∃r,rightT t=r:=⟨_,rfl⟩
 obtain⟨r1,hr1⟩:∃r,rightF t.o=r:=⟨_,rfl⟩
 obtain⟨r2,hr2⟩:∃r,rightF t.n=r:=⟨_,rfl⟩
 have hrr:r=(r1 && r2 && decide (nm=nn) && decide (∀k,k<nm→okAt t k=true)):=by rw[←hr,←hr1,←hr2,←hnm,←hnn,rightT]
 rw[hr]
 have hb1:=below_new (w:=w) (.cells #[.slice Ao no co,.slice An nn cn,.slice Am nm cm] 96)
 have O:=TBox.new w (.slice Ao no co) (.slice An nn cn) (.slice Am nm cm) 96
 have HB:=hb1
 replace ao:=ao.below hb1
 replace an:=an.below hb1
 replace am:=am.below hb1
 obtain⟨O0,O1,O2⟩:=id O
 have HR1:=J0 hr1
 have HR2:=J0 hr2
 have HRR:=J0 hrr
 have HNO:=J0 hno
 have HNN:=J0 hnn
 have HNM:=J0 hnm
 have HW:=J0 hw
 have tok1:=True.intro
 clear hr hr1 hr2 hrr hno hnn hnm hb1 hw
 cases r1
 ·obtain rfl:r=false:=by rw[HRR.out];rfl
  go_enter Tryz.func72,Tryz.ntmps72
  go_wp2_with (go_at_call 62;refine(Right_m Ao co no t.o HNO.out false HR1.out _ ao l0).mono ?_;rintro e wM ⟨rfl,hb⟩;replace HB:=HB.trans (hb.mono HB.size);replace O:=O.below hb;obtain⟨O0,O1,O2⟩:=id O;clear hb)
  go_ret
  exact⟨rfl,HB⟩
 cases r2
 ·obtain rfl:r=false:=by rw[HRR.out];rfl
  go_enter Tryz.func72,Tryz.ntmps72
  go_wp2_with (first
   |(have _t:=tok1;go_at_call 62;refine(Right_m Ao co no t.o HNO.out true HR1.out _ ao l0).mono ?_;rintro e wM ⟨rfl,hb⟩;replace HB:=HB.trans (hb.mono HB.size);replace an:=an.below hb;replace am:=am.below hb;replace O:=O.below hb;obtain⟨O0,O1,O2⟩:=id O;clear hb tok1;have tok2:=True.intro)
   |(have _t:=tok2;go_at_call 62;refine(Right_m An cn nn t.n HNN.out false HR2.out _ an l1).mono ?_;rintro e wM ⟨rfl,hb⟩;replace HB:=HB.trans (hb.mono HB.size);replace O:=O.below hb;obtain⟨O0,O1,O2⟩:=id O;clear hb tok2;have tok3:=True.intro))
  go_ret
  exact⟨rfl,HB⟩
 by_cases hlen:nm=nn
 ·have hz:((nm:Int) != (nn:Int))=false:=by rw[hlen];simp
  have HL:=J0 hlen
  clear hlen
  go_enter Tryz.func72,Tryz.ntmps72
  go_wp2_with (first
   |(have _t:=tok1;go_at_call 62;refine(Right_m Ao co no t.o HNO.out true HR1.out _ ao l0).mono ?_;rintro e wM ⟨rfl,hb⟩;replace HB:=HB.trans (hb.mono HB.size);replace ao:=ao.below hb;replace an:=an.below hb;replace am:=am.below hb;replace O:=O.below hb;obtain⟨O0,O1,O2⟩:=id O;clear hb tok1;have tok2:=True.intro)
   |(have _t:=tok2;go_at_call 62;refine(Right_m An cn nn t.n HNN.out true HR2.out _ an l1).mono ?_;rintro e wM ⟨rfl,hb⟩;replace HB:=HB.trans (hb.mono HB.size);replace ao:=ao.below hb;replace an:=an.below hb;replace am:=am.below hb;replace O:=O.below hb;obtain⟨O0,O1,O2⟩:=id O;clear hb tok2;have tok3:=True.intro))
  rename World=>W1
  have ao0:=ao
  have an0:=an
  have am0:=am
  have O':=O
  have HB0:=HB
  clear ao an am O HB
  go_loopw [4,28] (fun _ i wr=>∃k:Nat,k≤nm∧i=.int .i64 k∧Below w.heap.size w wr∧Rd wr Ao (cellsF t.o)∧Rd wr An (cellsF t.n)∧Rd wr Am (cellsM t.m)∧TBox wr w.heap.size (.slice Ao no co) (.slice An nn cn) (.slice Am nm cm)∧Hid (∀j,j<k→okAt t j=true)) (fun _ i _=>nm - (intOf i).toNat)
  case atStart=>exact⟨0,by omega,rfl,HB0,ao0,an0,am0,O',J0 (fun j hj=>by omega)⟩
  case round=>
   obtain⟨k,hk,rfl,HB,ao,an,am,O,hall⟩:=hrel
   clear HB0 ao0 an0 am0 O' O0 O1 O2
   obtain⟨O0,O1,O2⟩:=id O
   by_cases hlt:k<nm
   ·obtain⟨x,hx⟩:∃x,t.m[k]?=some x:=⟨_,J4 (by rw[HNM.out];exact hlt)⟩
    have hln:k<nn:=by have:=HL.out;omega
    obtain⟨g,hg⟩:∃y,t.n[k]?=some y:=⟨_,J4 (by rw[HNN.out];exact hln)⟩
    have hat:okAt t k=okMv t.o g x:=by simp[okAt,hx,hg]
    obtain⟨b0,b1⟩:=HW.out x (J7 hx)
    obtain⟨s,hs⟩:∃s,okMv t.o g x=s:=⟨_,rfl⟩
    have HX:=J0 hx
    have HG:=J0 hg
    have HS:=J0 hs
    have HAT:=J0 (hat.trans hs)
    clear hx hg hat hs
    cases s
    ·obtain rfl:r=false:=by
      have hn:¬∀j,j<nm→okAt t j=true:=fun h=>by have:=h k hlt;rw[HAT.out] at this;cases this
      rw[HRR.out,decide_eq_false hn];simp
     go_wp2_with (go_at_call 107;refine(Right1_is w.heap.size t Ao An Am co cn cm no nn nm HNO.out HNN.out HNM.out l0 k x g HX.out HG.out b0 b1 _ O ao an am).mono ?_;rintro e wM ⟨rfl,hb⟩;rw[HS.out];replace HB:=HB.trans (hb.mono HB.size);clear hb)
     go_ret
     exact⟨rfl,HB⟩
    ·have hall2:Hid (∀j,j<k+1→okAt t j=true):=J0 (fun j hj=>by
      rcases(by omega:j<k∨j=k) with h|rfl
      ·exact hall.out j h
      ·exact HAT.out)
     go_wp2_with (go_at_call 107;refine(Right1_is w.heap.size t Ao An Am co cn cm no nn nm HNO.out HNN.out HNM.out l0 k x g HX.out HG.out b0 b1 _ O ao an am).mono ?_;rintro e wM ⟨rfl,hb⟩;rw[HS.out];replace HB:=HB.trans (hb.mono HB.size);replace ao:=ao.below hb;replace an:=an.below hb;replace am:=am.below hb;replace O:=O.below hb;clear hb)
     go_roundw
     case rel=>exact⟨k+1,by omega,by go_num,HB,ao,an,am,O,hall2⟩
     case measure=>simp[intOf];omega
   ·obtain rfl:k=nm:=by omega
    obtain rfl:r=true:=by
     rw[HRR.out,decide_eq_true HL.out,decide_eq_true hall.out];rfl
    go_wp2
    go_ret
    exact⟨rfl,HB⟩
 ·have hz:((nm:Int) != (nn:Int))=true:=by simp;omega
  obtain rfl:r=false:=by rw[HRR.out,decide_eq_false hlen];rfl
  clear hlen
  go_enter Tryz.func72,Tryz.ntmps72
  go_wp2_with (first
   |(have _t:=tok1;go_at_call 62;refine(Right_m Ao co no t.o HNO.out true HR1.out _ ao l0).mono ?_;rintro e wM ⟨rfl,hb⟩;replace HB:=HB.trans (hb.mono HB.size);replace an:=an.below hb;replace am:=am.below hb;replace O:=O.below hb;obtain⟨O0,O1,O2⟩:=id O;clear hb tok1;have tok2:=True.intro)
   |(have _t:=tok2;go_at_call 62;refine(Right_m An cn nn t.n HNN.out true HR2.out _ an l1).mono ?_;rintro e wM ⟨rfl,hb⟩;replace HB:=HB.trans (hb.mono HB.size);replace O:=O.below hb;obtain⟨O0,O1,O2⟩:=id O;clear hb tok2;have tok3:=True.intro))
  go_ret
  exact⟨rfl,HB⟩
def kM (k:Nat):List Mv:=(List.range k).map fun k:Nat=>⟨(k:Int),Vl.z⟩
theorem kM_succ (k:Nat):kM (k+1)=kM k++[⟨(k:Int),Vl.z⟩]:=by simp[kM,List.range_succ]
theorem kM_length (k:Nat):(kM k).length=k:=by simp[kM]
theorem news4 (w:World) (a b c d:Value) (T:TypeId):∀j x,[a,b,c,d][j]?=some x→(w.alloc (.cells #[a,b,c,d] T)).cell? ((⟨w.heap.size,0,none⟩:Addr).add j)=some x:=by
 intro j x hj
 have:=rd_new w [a,b,c,d] T (by simp)
 obtain⟨ad,e,h⟩:=this
 cases e
 exact h j x hj
theorem obox_set {w:World} {b:Nat} {cs:List Value} {T:TypeId} (h:OBox w b cs T) (j:Nat) (v:Value):OBox (w.setCell ⟨b,j,none⟩ v) b (cs.set j v) T:=by
 obtain⟨hlt,hk⟩:=Qk.1 h
 show(w.heap.modify b _)[b]?=_
 rw[Array.getElem?_eq_getElem (by rw[Array.size_modify];exact hlt),Array.getElem_modify_self,hk]
 simp
theorem rTSame_yes (A:Option Addr) (c m:Nat) (l:List Fd) (hm:l.length=m) (hr:rightF l=true) (w:World) (hA:Rd w A (cellsF l)) (hl:m≤9223372036854775807) (hs:∀f∈l,f.s.size≤9223372036854775807):
 Calls Tryz.prog 153 #[.slice A m c] w fun e w'=>∃v,e=.returned (.agg #[.slice A m c,.slice A m c,v])∧w'.ownsRow w.heap.size 157 4 v m (cellsM (kM m))∧Below w.heap.size w w':=by
 obtain⟨i0,hi,hz0,hz1,hz2⟩:=info_parts infoMr
 have h16:m≤16:=by rw[←hm];exact(rightF_may hr).2
 have hb1:=below_new (w:=w) (.cells #[.slice none 0 0,.slice none 0 0,.slice none 0 0] 110)
 have R:=OBox.new w [.slice none 0 0,.slice none 0 0,.slice none 0 0] 110
 have HB:=hb1
 replace hA:=hA.below hb1
 have HM:=J0 hm
 have HR:=J0 hr
 clear hm hr hb1
 go_enter Tryz.func153,Tryz.ntmps153
 go_wp2_with (go_at_call 77;refine(rRight_m A c m l HM.out true HR.out _ hA hl hs).mono ?_;rintro e W1 ⟨rfl,hb⟩;replace HB:=HB.trans (hb.mono HB.size);replace R:=R.below hb;clear hb)
 have O:=OBox.new W1 [.slice A m c,.slice A m c,.slice none 0 0] 110
 have hb2:=below_new (w:=W1) (.cells #[.slice A m c,.slice A m c,.slice none 0 0] 110)
 have hzW:w.heap.size<W1.heap.size:=R.lt
 have R0:=R.below hb2
 have HB0:=HB.trans (hb2.mono HB.size)
 clear hb2 HB R
 go_loopw [4] (fun i wr=>∃(k:Nat) (v:Value),k≤m∧i=.int .i64 k∧wr.ownsRow (W1.heap.size+1) 157 4 v k (cellsM (kM k))∧OBox wr W1.heap.size [.slice A m c,.slice A m c,v] 110∧OBox wr w.heap.size [.slice none 0 0,.slice none 0 0,.slice none 0 0] 110∧Below w.heap.size w wr∧W1.heap.size<wr.heap.size) (fun i _=>m - (intOf i).toNat)
 case atStart=>exact⟨0,_,by omega,rfl,own_nil _ _ _ _,O,R0,HB0,by simp⟩
 case round=>
  obtain⟨k,v,hk,rfl,hown,O,R,HB,hz⟩:=hrel
  clear R0 HB0 hA
  by_cases hlt:k<m
  ·have HK:=J0 (kM_succ k)
   obtain⟨k0,k1,k2,f0,f1,f2⟩:=(O.below (below_new (w:=wr) (.cells #[.int .i64 k,.int .i64 0,.int .u64 0,.string ⟨#[]⟩] 157))).f3
   obtain⟨q0,q1,q2,p0,p1,p2⟩:=O.f3
   go_wp2_with (at_builtin;refine wpList_append_own _ rfl _ _ 108 rfl (W1.heap.size+1) 157 i0 (.agg #[.int .i64 0,.int .i64 0,.int .u64 0,.string ⟨#[]⟩]) 4 40 Tryz.underlying108 hi hz0 hz1 hz2 rfl (by decide) _ _ _ rfl (hown.alloc _) ⟨wr.heap.size,0,none⟩ 1 1 [.int .i64 k,.int .i64 0,.int .u64 0,.string ⟨#[]⟩] rfl rfl ?c1 ?c2 ?c3 ?c4 ?c5 ?_)
   case c1=>exact news4 _ _ _ _ _ _
   case c2=>intro u hu;simp at hu;rcases hu with rfl|rfl|rfl|rfl <;> rfl
   case c3=>simp only[maxLen];omega
   case c4=>omega
   case c5=>simp;omega
   intro v' w3 hown' hgrow _
   have BG:Below (W1.heap.size+1) wr w3:=((Jy _ _).alloc (by omega) (.cells #[.int .i64 k,.int .i64 0,.int .u64 0,.string ⟨#[]⟩] 157)).grown hgrow (by simp;omega) (fun q hq=>own_base hown q hq)
   have O3:OBox w3 W1.heap.size [.slice A m c,.slice A m c,v] 110:=(BG.block _ (by omega)).trans O
   have R3:OBox w3 w.heap.size [.slice none 0 0,.slice none 0 0,.slice none 0 0] 110:=(BG.block _ (by omega)).trans R
   have HB3:=HB.trans (BG.mono (by omega))
   have hown3:w3.ownsRow (W1.heap.size+1) 157 4 v' (k+1) (cellsM (kM (k+1))):=own_eq hown' (by simp) (by rw[HK.out,cellsM_append];rfl)
   have hz3:=BG.size
   obtain⟨B',c',rfl,_,_,_⟩:=own_rd hown3
   clear hown' hgrow hown k0 k1 k2 f0 f1 f2 q0 q1 q2 p0 p1 p2
   obtain⟨k0,k1,k2,f0,f1,f2⟩:=O3.f3
   go_wp2
   go_roundw
   case rel=>exact⟨k+1,_,by omega,by go_num,ownsRow_setCell_below hown3 (by show _<_;simp) _,obox_set O3 2 _,(J5 _ _ _ _ (by show _≠_;simp;omega)).trans R3,HB3.setCell (by show _≤_;simp;omega) _,by simp;omega⟩
   case measure=>simp[intOf];omega
  ·obtain rfl:k=m:=by omega
   obtain⟨B',c',rfl,_,_,_⟩:=own_rd hown
   obtain⟨k0,k1,k2,f0,f1,f2⟩:=O.f3
   obtain⟨q0,q1,q2,p0,p1,p2⟩:=R.f3
   go_wp2
   refine bodyPost_ret (v:=.agg #[.slice A k c,.slice A k c,.slice B' k c']) (by simp[results,Tryz.results153,go_sem, *];done) rfl ⟨_,rfl,?_,?_⟩
   ·refine own_mono (ownsRow_setCell_below (ownsRow_setCell_below (ownsRow_setCell_below hown ?_ _) ?_ _) ?_ _) (by omega) <;> (show _<_;simp;omega)
   ·(repeat (first|exact HB|refine J8 ?_ (by dsimp only;omega) _|refine Jk ?_ (by have hs_:=HB.size;first|(simp;done)|(simp;omega)|omega) _|apply Jv))
end
end Go.Proofs.YteembinfgbapgaaGreat
