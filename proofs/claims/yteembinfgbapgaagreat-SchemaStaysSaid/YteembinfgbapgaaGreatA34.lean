/- Merged out of: Ts Tl Kx Hw Hc Qu Sc. -/
import Derived.Test.YteembinfgbapgaaGreatA31
import Derived.Test.YteembinfgbapgaaGreatA32
import Derived.Test.YteembinfgbapgaaGreatA33
import Derived.Test.YteembinfgbapgaaGreatA30
import Derived.Test.YteembinfgbapgaaGreatA06
import Derived.Test.YteembinfgbapgaaGreatA09
import Derived.Test.YteembinfgbapgaaGreatA26
set_option linter.unusedSimpArgs false
set_option linter.unusedVariables false
set_option maxRecDepth 100000
set_option maxHeartbeats 8000000
namespace Go.Proofs.YteembinfgbapgaaGreat
section
open Go.RowKit Go.Lib Go.Maps
def CatTo (cp mp:Nat) (E:List En) (W:World) (D:List Ty) (w':World):Prop:=∃E' es' clock',E'.map (·.y)=D∧CatIs 89 80 w' cp mp E' es' clock'∧CatFr cp mp E E' W w'
theorem findE_some {E:List En} {nm:ByteArray} {d:En} (h:findE E nm=some d):findY (E.map (·.y)) nm=some d.y:=by rw[←findE_y,h];rfl
theorem findE_no {E:List En} {nm:ByteArray} (h:findE E nm=none):findY (E.map (·.y)) nm=none:=by rw[←findE_y,h];rfl
theorem findE_at {E:List En} {nm:ByteArray} {d:En} (h:findE E nm=some d):∃i:Nat,E[i]?=some d:=List.mem_iff_getElem?.1 (findE_mem h).1
theorem set_put {E:List En} (hn:(E.map (·.y.s)).Nodup) {i:Nat} {d d':En} (hi:E[i]?=some d) (hs:d'.y.s=d.y.s):(E.set i d').map (·.y)=putY (E.map (·.y)) d'.y:=by
 have hil:=(List.getElem?_eq_some_iff.1 hi).1
 unfold putY
 rw[List.map_map,List.map_set]
 apply List.ext_getElem?
 intro j
 by_cases hj:j=i
 ·subst hj
  rw[List.getElem?_set_self (by simpa using hil),List.getElem?_map,hi]
  simp[hs]
 ·rw[List.getElem?_set_ne (by omega),List.getElem?_map,List.getElem?_map]
  cases he:E[j]? with
  |none=>rfl
  |some e=>
   have hne:e.y.s≠d'.y.s:=by
    intro hc
    have a1:(E.map (·.y.s))[j]?=some d.y.s:=by rw[List.getElem?_map,he];exact congrArg some (hc.trans hs)
    have a2:(E.map (·.y.s))[i]?=some d.y.s:=by rw[List.getElem?_map,hi];rfl
    have b1:=(List.getElem?_eq_some_iff.1 a1).1
    exact hj ((List.getElem?_inj b1 hn).1 (a1.trans a2.symm))
   simp[hne]
theorem Define_m {W:World} {cp mp:Nat} {E:List En} {es:List MapEntry} {clock:Nat} (h:CatIs 89 80 W cp mp E es clock) {nm:ByteArray} (hn:nm.size≤maxLen) (A:Option Addr) (cA m:Nat) (fs:List Fd) (hm:fs.length=m) (hl:m≤9223372036854775807) (hcA:m≤cA) (hA:Rd W A (cellsF fs)) (q:Int) (hq:defE (E.map (·.y)) nm fs=q) (D':List Ty) (hD:defD (E.map (·.y)) nm fs=D'):
 Calls Tryz.prog 28 #[.pointer (some ⟨cp,0,none⟩),.string nm,.slice A m cA] W fun e w'=>e=.returned (.int .i64 q)∧CatTo cp mp E W D' w':=by
 have stay:∀r:Int,r≠0→defE (E.map (·.y)) nm fs=r→∀w',Below W.heap.size W w'→CatTo cp mp E W D' w':=fun r h1 h2 w' hb=>⟨E,es,clock,by rw[←hD,defD,if_neg (by omega)],h.below hb,.of hb⟩
 by_cases hbad:nameB nm=false∨rightF fs=false
 ·have e:defE (E.map (·.y)) nm fs=60:=by rw[defE,if_pos hbad]
  refine(Define_form h hn A cA m fs hm hl hcA hA hbad).mono ?_
  rintro e1 w' ⟨rfl,hb⟩
  exact⟨by rw[←hq,e],stay 60 (by decide) e w' hb⟩
 ·have hx:nameB nm=true:=by cases hx:nameB nm with|true=>rfl|false=>exact absurd (.inl hx) hbad
  have hy:rightF fs=true:=by cases hx:rightF fs with|true=>rfl|false=>exact absurd (.inr hx) hbad
  by_cases h2:findE E nm≠none∨16≤E.length
  ·have e:defE (E.map (·.y)) nm fs=91:=by
    rw[defE,if_neg hbad,if_pos]
    rcases h2 with h3|h3
    ·left
     cases hf:findE E nm with
     |none=>exact absurd hf h3
     |some d=>rw[findE_some hf];simp
    ·right;simpa using h3
   refine(Define_there h hn A cA m fs hm hl hcA hA hx hy h2).mono ?_
   rintro e1 w' ⟨rfl,hb⟩
   exact⟨by rw[←hq,e],stay 91 (by decide) e w' hb⟩
  ·have hf:findE E nm=none:=Classical.byContradiction fun hc=>h2 (.inl hc)
   have hlt:E.length<16:=by have:¬16≤E.length:=fun hc=>h2 (.inr hc);omega
   have e:defE (E.map (·.y)) nm fs=0:=by
    rw[defE,if_neg hbad,if_neg]
    rintro (h3|h3)
    ·exact h3 (findE_no hf)
    ·simp at h3;omega
   refine(Define_ok h hn A cA m fs hm hl hcA hA hx hy hf hlt).mono ?_
   rintro e1 w' ⟨rfl,d,es',hd,hc,hfr⟩
   refine⟨by rw[←hq,e],E++[d],es',clock+1,?_,hc,hfr⟩
   rw[←hD,defD,if_pos e,List.map_append,List.map_cons,List.map_nil,hd]
theorem Change_m {W:World} {cp mp:Nat} {E:List En} {es:List MapEntry} {clock:Nat} (h:CatIs 89 80 W cp mp E es clock) {nm:ByteArray} (hn:nm.size≤maxLen) (K:Option Addr) (cK nc:Nat) (cs:List (Ch×Value)) (hnc:cs.length=nc) (hk:nc≤9223372036854775807) (hw:∀p∈cs,ChW p) (hK:Rd W K (cellsC cs)) (ho:∀p∈cs,ChO W p) (hok:CatOk (E.map (·.y))) (q:Int) (hq:chE (E.map (·.y)) nm (cs.map (·.1))=q) (v:Nat) (hv:chV (E.map (·.y)) nm (cs.map (·.1))=v) (D':List Ty) (hD:chD (E.map (·.y)) nm (cs.map (·.1))=D'):
 Calls Tryz.prog 29 #[.pointer (some ⟨cp,0,none⟩),.string nm,.slice K nc cK] W fun e w'=>e=.returned (.tuple #[.int .i64 (v:Nat),.int .i64 q])∧CatTo cp mp E W D' w':=by
 have stay:∀r:Int,r≠0→chE (E.map (·.y)) nm (cs.map (·.1))=r→v=0∧∀w',Below W.heap.size W w'→CatTo cp mp E W D' w':=fun r h1 h2=>⟨by rw[←hv,chV,if_neg (by omega)],fun w' hb=>⟨E,es,clock,by rw[←hD,chD,if_neg (by omega)],h.below hb,.of hb⟩⟩
 cases hf:findE E nm with
 |none=>
  have e:chE (E.map (·.y)) nm (cs.map (·.1))=90:=by rw[chE,findE_no hf]
  refine(Change_none h hn hf K cK nc).mono ?_
  rintro e1 w' ⟨rfl,hb⟩
  obtain⟨rfl,s⟩:=stay 90 (by decide) e
  exact⟨by rw[←hq,e];rfl,s w' hb⟩
 |some d=>
  have hdE:=(findE_mem hf).1
  have hdo:d.y.Ok:=hok.ok d.y (List.mem_map.2 ⟨d,hdE,rfl⟩)
  obtain⟨i,hi⟩:=findE_at hf
  by_cases h64:64≤d.y.top
  ·have e:chE (E.map (·.y)) nm (cs.map (·.1))=91:=by rw[chE,findE_some hf];simp only;rw[if_pos h64]
   refine(Change_full h hn hf hdo h64 K cK nc).mono ?_
   rintro e1 w' ⟨rfl,hb⟩
   obtain⟨rfl,s⟩:=stay 91 (by decide) e
   exact⟨by rw[←hq,e];rfl,s w' hb⟩
  ·obtain⟨⟨T,c⟩,hT⟩:∃x,allT d.y.last (cs.map (·.1))=x:=⟨_,rfl⟩
   have e:chE (E.map (·.y)) nm (cs.map (·.1))=c:=by rw[chE,findE_some hf];simp only;rw[if_neg h64,hT]
   refine(Change_do h hn K cK nc cs hnc hk hw hK ho i hi hf hdo (by omega) T c hT).mono ?_
   rintro e1 w' (⟨hc,rfl,hb⟩|⟨rfl,rfl,d',hd',hc,hfr⟩)
   ·obtain⟨rfl,s⟩:=stay c hc e
    exact⟨by rw[←hq,e];rfl,s w' hb⟩
   ·refine⟨?_,E.set i d',es,clock,?_,hc,hfr⟩
    ·rw[←hq,e,←hv,chV,if_pos e,findE_some hf]
    ·rw[set_put h.names hi (by rw[hd'];rfl),hd',←hD,chD,if_pos e,findE_some hf]
theorem Retire_m {W:World} {cp mp:Nat} {E:List En} {es:List MapEntry} {clock:Nat} (h:CatIs 89 80 W cp mp E es clock) {nm:ByteArray} (hn:nm.size≤maxLen) (L:Option Addr) (cL nl:Nat) (q:List Int) (hnl:q.length=nl) (hl:nl≤9223372036854775807) (hL:Rd W L (cellsI q)) (hok:CatOk (E.map (·.y))) (qe:Int) (hqe:reE (E.map (·.y)) nm q=qe) (v:Nat) (hv:reV (E.map (·.y)) nm q=v) (D':List Ty) (hD:reD (E.map (·.y)) nm q=D'):
 Calls Tryz.prog 20 #[.pointer (some ⟨cp,0,none⟩),.string nm,.slice L nl cL] W fun e w'=>e=.returned (.tuple #[.int .i64 (v:Nat),.int .i64 qe])∧CatTo cp mp E W D' w':=by
 have stay:∀r:Int,r≠0→reE (E.map (·.y)) nm q=r→v=0∧∀w',Below W.heap.size W w'→CatTo cp mp E W D' w':=fun r h1 h2=>⟨by rw[←hv,reV,if_neg (by omega)],fun w' hb=>⟨E,es,clock,by rw[←hD,reD,if_neg (by omega)],h.below hb,.of hb⟩⟩
 cases hf:findE E nm with
 |none=>
  have e:reE (E.map (·.y)) nm q=90:=by rw[reE,findE_no hf]
  refine(Retire_none h hn hf L cL nl).mono ?_
  rintro e1 w' ⟨rfl,hb⟩
  obtain⟨rfl,s⟩:=stay 90 (by decide) e
  exact⟨by rw[←hqe,e];rfl,s w' hb⟩
 |some d=>
  have hdE:=(findE_mem hf).1
  have hdo:d.y.Ok:=hok.ok d.y (List.mem_map.2 ⟨d,hdE,rfl⟩)
  obtain⟨i,hi⟩:=findE_at hf
  obtain⟨u,hu⟩:∃u,useB d.y q=u:=⟨_,rfl⟩
  refine(Retire_do h hn L cL nl q hnl hl hL i hi hf hdo u hu).mono ?_
  rintro e1 w' (⟨rfl,rfl,hb⟩|⟨rfl,rfl,d',es',hd',hc,hfr⟩)
  ·have e:reE (E.map (·.y)) nm q=93:=by rw[reE,findE_some hf];simp only;rw[if_pos hu]
   obtain⟨rfl,s⟩:=stay 93 (by decide) e
   exact⟨by rw[←hqe,e];rfl,s w' hb⟩
  ·have e:reE (E.map (·.y)) nm q=0:=by rw[reE,findE_some hf];simp only;rw[if_neg (by rw[hu];decide)]
   refine⟨?_,E.set i d',es',clock,?_,hc,hfr⟩
   ·rw[←hqe,e,←hv,reV,if_pos e,findE_some hf]
   ·rw[set_put h.names hi (by rw[hd'];rfl),hd',←hD,reD,if_pos e,findE_some hf]
theorem cat_keep {cp mp:Nat} {E:List En} {D:List Ty} {W1 w2 w3:World} (hc:CatTo cp mp E w2 D w3) {pb:Nat} (hu:pb<W1.heap.size∧Unowned E mp pb) (hb:Below W1.heap.size W1 w2) {a b:Nat} {u v:Option Value} (ht:w2.cell? ⟨pb,a,none⟩=u∧w2.cell? ⟨pb,b,none⟩=v):w3.cell? ⟨pb,a,none⟩=u∧w3.cell? ⟨pb,b,none⟩=v:=by
 obtain⟨E',es',c',_,_,hf⟩:=hc
 have hk:=hf.block pb (Nat.lt_of_lt_of_le hu.1 hb.size) hu.2
 exact⟨(World.cell?_of_block (a:=⟨pb,a,none⟩) hk).trans ht.1,(World.cell?_of_block (a:=⟨pb,b,none⟩) hk).trans ht.2⟩
theorem cat_after {cp mp:Nat} {E:List En} {D:List Ty} {W1 w2 w3:World} (hb:Below W1.heap.size W1 w2) (hc:CatTo cp mp E w2 D w3):CatTo cp mp E W1 D w3:=by
 obtain⟨E',es',c',h1,h2,hf⟩:=hc
 exact⟨E',es',c',h1,h2,CatFr.after hb hf⟩
theorem does_m {W:World} {cp mp:Nat} {E:List En} {es:List MapEntry} {clock:Nat} (h:CatIs 89 80 W cp mp E es clock) (hok:CatOk (E.map (·.y))) (x:OpV) (hG:x.G W) (hS:x.S) (nf nc nl:Nat) (hnf:x.fs.length=nf) (hnc:x.cs.length=nc) (hnl:x.live.length=nl)
 (q:Int) (hq:doE (E.map (·.y)) x.z=q) (v:Nat) (hv:doV (E.map (·.y)) x.z=v) (D':List Ty) (hD:doD (E.map (·.y)) x.z=D'):
 Calls Tryz.prog 13 #[.pointer (some ⟨cp,0,none⟩),.agg #[.int .i64 x.k,.string x.s,.slice x.A nf x.a,.slice x.C nc x.c,.slice x.L nl x.l]] W fun e w'=>e=.returned (.tuple #[.int .i64 (v:Nat),.int .i64 q])∧CatTo cp mp E W D' w':=by
 obtain⟨x1,x2,x3,x4,x5,x6,x7,x8,x9,x10⟩:=hG
 obtain⟨s1,s2,s3,s4,s5,s6⟩:=hS
 have nb:=below_new (w:=W) (.cells #[.int .i64 x.k,.string x.s,.slice x.A nf x.a,.slice x.C nc x.c,.slice x.L nl x.l] 31)
 have P:=OBox.new W [.int .i64 x.k,.string x.s,.slice x.A nf x.a,.slice x.C nc x.c,.slice x.L nl x.l] 31
 obtain⟨p0,p1,p2,p3,p4⟩:=P.f5
 have h1:=h.below nb
 have hfr:CatFr cp mp E E W (W.alloc (.cells #[.int .i64 x.k,.string x.s,.slice x.A nf x.a,.slice x.C nc x.c,.slice x.L nl x.l] 31)):=.of nb
 have hpb:W.heap.size<(W.alloc (.cells #[.int .i64 x.k,.string x.s,.slice x.A nf x.a,.slice x.C nc x.c,.slice x.L nl x.l] 31)).heap.size:=by simp
 have hun:Unowned E mp W.heap.size:=⟨by have:=h.mpLt;omega,fun d hd hh=>by have:=En.lt (h.ents d hd) hh;omega⟩
 have y4:=x4.below nb
 have y6:=x6.below nb
 have y8:∀p∈x.cs,ChO (W.alloc (.cells #[.int .i64 x.k,.string x.s,.slice x.A nf x.a,.slice x.C nc x.c,.slice x.L nl x.l] 31)) p:=fun p hp=>(x8 p hp).2.2.below nb
 have y9:=x9.below nb
 have hw:∀p∈x.cs,ChW p:=fun p hp=>⟨(x8 p hp).1,(x8 p hp).2.1,(s4 p hp).2.2.2,(s4 p hp).2.1⟩
 rw[hnf] at x5 s3;rw[hnc] at x7 s5;rw[hnl] at x10 s6
 have fin:∀w':World,CatTo cp mp E (W.alloc (.cells #[.int .i64 x.k,.string x.s,.slice x.A nf x.a,.slice x.C nc x.c,.slice x.L nl x.l] 31)) D' w'→CatTo cp mp E W D' w':=fun w' ⟨E',es',c',h1,h2,h3⟩=>⟨E',es',c',h1,h2,hfr.trans h3⟩
 have FIN:=Lib.hid fin
 clear nb P hfr x4 x6 x8 x9
 obtain⟨kk,hkk⟩:∃kk,x.k=kk:=⟨_,rfl⟩
 have hz:x.z.k=kk:=hkk
 simp only[hkk] at h1 y4 y6 y8 y9 p0 p1 p2 p3 p4 FIN hpb ⊢
 unfold doE at hq
 unfold doV at hv
 unfold doD at hD
 rw[hz] at hq hv hD
 have hmap:x.z.cs=x.cs.map (·.1):=rfl
 have HOK:=Lib.hid hok;have HNF:=Lib.hid hnf;have HNC:=Lib.hid hnc;have HNL:=Lib.hid hnl
 clear hkk hz hok hnf hnc hnl
 by_cases k0:kk=0
 ·subst k0
  rw[if_pos rfl] at hq hv hD
  subst hv
  have HQ:=Lib.hid hq;have HD:=Lib.hid hD
  clear hq hD h p3 p4
  go_enter Tryz.func13,Tryz.ntmps13
  go_upto_region 1 with fail
  generalize W.alloc (.cells #[.int .i64 0,.string x.s,.slice x.A nf x.a,.slice x.C nc x.c,.slice x.L nl x.l] 31)=W1 at *
  generalize W.heap.size=pb at *
  go_wp2_with (go_at_call 28;refine(Define_m h1 x3 x.A x.a nf x.fs HNF.out (by omega) x5 y4 q HQ.out D' HD.out).mono ?_;rintro e w2 ⟨rfl,hc⟩)
  refine bodyPost_ret (v:=.tuple #[.int .i64 0,.int .i64 q]) (by simp[results,Tryz.results13,go_sem, *];done) rfl ⟨rfl,FIN.out _ hc⟩
 rw[if_neg k0] at hq hv hD
 have e0:(kk == 0)=false:=by simpa using k0
 by_cases k1:kk=1
 ·subst k1
  rw[if_pos rfl] at hq hv hD
  have HQ:=Lib.hid hq;have HD:=Lib.hid hD;have HV:=Lib.hid hv
  clear hq hD hv h p2 p4 k0
  go_enter Tryz.func13,Tryz.ntmps13
  go_upto_region 1 with fail
  generalize W.alloc (.cells #[.int .i64 1,.string x.s,.slice x.A nf x.a,.slice x.C nc x.c,.slice x.L nl x.l] 31)=W1 at *
  generalize W.heap.size=pb at *
  go_upto_region 5 with fail
  have z8:∀p∈x.cs,ChO W1.drew p:=fun p hp=>(y8 p hp).below (Below.refl _ _).drew
  have z6:Rd W1.drew x.C (cellsC x.cs):=y6.below (Below.refl _ _).drew
  have hd1:=h1.drew
  have HU2:pb<W1.heap.size∧Unowned E mp pb:=⟨hpb,hun⟩
  go_region_held3 (fun W'=>W'.cell? ⟨pb,1,none⟩=some (.string x.s)∧W'.cell? ⟨pb,3,none⟩=some (.slice x.C nc x.c)) (first|assumption|exact⟨p1,p3⟩)
   (first
     |(go_at_call 30;refine(own9_m x.C x.c nc x.cs HNC.out (by omega) _ z6 z8).mono ?_;rintro e w2 ⟨B,d,rfl,rB,hb⟩;have hB2:=below_seq (Below.refl _ _).drew hb;have t1:=cell_below (B:=0) hB2 p1;have t3:=cell_below (B:=0) hB2 p3;have tp:w2.cell? ⟨pb,1,none⟩=some (.string x.s)∧w2.cell? ⟨pb,3,none⟩=some (.slice x.C nc x.c):=⟨t1,t3⟩;clear t1 t3)
     |(go_at_call 29;refine(Change_m (hd1.below hb) x3 B d nc x.cs HNC.out (by omega) hw rB (fun p hp=>(z8 p hp).below hb) HOK.out q HQ.out v HV.out D' HD.out).mono ?_;rintro e w3 ⟨rfl,hc⟩;have tq:w3.cell? ⟨pb,1,none⟩=some (.string x.s)∧w3.cell? ⟨pb,3,none⟩=some (.slice x.C nc x.c):=cat_keep hc HU2 hB2 tp))
  all_goals go_wp2_with fail
  all_goals refine bodyPost_ret (v:=.tuple #[.int .i64 (v:Nat),.int .i64 q]) (by simp[results,Tryz.results13,go_sem, *];done) rfl ⟨rfl,FIN.out _ (cat_after hB2 hc)⟩
 rw[if_neg k1] at hq hv hD
 have e1:(kk == 1)=false:=by simpa using k1
 by_cases k2:kk=2
 ·subst k2
  rw[if_pos rfl] at hq hv hD
  have HQ:=Lib.hid hq;have HD:=Lib.hid hD;have HV:=Lib.hid hv
  clear hq hD hv h p2 p3 k0 k1
  go_enter Tryz.func13,Tryz.ntmps13
  go_upto_region 1 with fail
  generalize W.alloc (.cells #[.int .i64 2,.string x.s,.slice x.A nf x.a,.slice x.C nc x.c,.slice x.L nl x.l] 31)=W1 at *
  generalize W.heap.size=pb at *
  go_wp2_with (go_at_call 20;refine(Retire_m h1 x3 x.L x.l nl x.live HNL.out (by omega) y9 HOK.out q HQ.out v HV.out D' HD.out).mono ?_;rintro e w2 ⟨rfl,hc⟩)
  refine bodyPost_ret (v:=.tuple #[.int .i64 (v:Nat),.int .i64 q]) (by simp[results,Tryz.results13,go_sem, *];done) rfl ⟨rfl,FIN.out _ hc⟩
 ·rw[if_neg k2] at hq hv hD
  have e2:(kk == 2)=false:=by simpa using k2
  subst hq hv
  have hc:CatTo cp mp E W D' (W.alloc (.cells #[.int .i64 kk,.string x.s,.slice x.A nf x.a,.slice x.C nc x.c,.slice x.L nl x.l] 31)):=FIN.out _ ⟨E,es,clock,hD,h1,CatFr.refl _ _ _ _⟩
  clear h p1 p2 p3 p4
  go_enter Tryz.func13,Tryz.ntmps13
  go_upto_region 1 with fail
  generalize W.alloc (.cells #[.int .i64 kk,.string x.s,.slice x.A nf x.a,.slice x.C nc x.c,.slice x.L nl x.l] 31)=W1 at *
  generalize W.heap.size=pb at *
  go_wp2
  refine bodyPost_ret (v:=.tuple #[.int .i64 0,.int .i64 0]) (by simp[results,Tryz.results13,go_sem, *];done) rfl ⟨rfl,hc⟩
theorem from_some {W:World} {cp mp:Nat} {E:List En} {es:List MapEntry} {clock:Nat} (h:CatIs 89 80 W cp mp E es clock) {nm:ByteArray} (hn:nm.size≤maxLen) {d:En} (hf:findE E nm=some d) (hok:d.y.Ok) (g c n:Nat) (ev:d.v=.slice (some ⟨g,0,none⟩) n c) (k:Nat) (hk:k<n):
 Calls Tryz.prog 34 #[.pointer (some ⟨cp,0,none⟩),.string nm,.int .i64 ((d.y.old+k:Nat):Int)] W fun e w'=>e=.returned (.tuple #[.slice (some ⟨g,k * 3,none⟩) (n - k) (n - k),.int .i64 0])∧Below W.heap.size W w':=by
 have hlk:=look_sort h hn
 rw[hf] at hlk
 obtain⟨b0,_⟩:=h.box.f1
 have hd:=h.ents d (findE_mem hf).1
 obtain⟨g2,c2,n2,ev2,hnc,hnl,hsum,htop,hpos,_⟩:=En.open hd hok
 rw[ev] at ev2
 obtain⟨rfl,rfl,rfl⟩:g=g2∧n=n2∧c=c2:=by
  injection ev2 with h1 h2 h3
  injection h1 with h1
  injection h1 with h1
  exact⟨h1,h2,h3⟩
 have hbx:=hd.box
 rw[ev] at hbx
 obtain⟨old,ho⟩:∃x,d.y.old=x:=⟨_,rfl⟩
 obtain⟨top,ht⟩:∃x,d.y.top=x:=⟨_,rfl⟩
 rw[ho] at hbx hsum ⊢
 rw[ht] at hsum htop
 obtain⟨p,hp⟩:∃p,d.p=p:=⟨_,rfl⟩
 simp only[hp] at hlk
 rw[hp] at hbx
 have hc0:∀W',Below W.heap.size W W'→W'.cell? ⟨p,0,none⟩=some (.int .i64 (old:Nat))∧W'.cell? ⟨p,1,none⟩=some (.slice (some ⟨g,0,none⟩) n c):=fun W' hb=>⟨(hbx.below hb).cell rfl,(hbx.below hb).cell rfl⟩
 obtain⟨c0,c1⟩:=hc0 W (Below.refl _ _)
 have HS:=Lib.hid hsum;have HC0:=Lib.hid hc0
 obtain⟨v,hv⟩:∃v:Int,((old+k:Nat):Int)=v:=⟨_,rfl⟩
 rw[hv]
 have e1:decide (v<(old:Int))=false:=by simp;omega
 have e2:decide ((top:Int)<v)=false:=by simp;omega
 have hw:IntKind.i64.wrap (v - (old:Int))=(k:Int):=(IntWalk.i64_in _ (by omega)).trans (by omega)
 have k0:(0:Int)≤(k:Int):=by omega
 have k1:(k:Int)≤(n:Int):=by omega
 have k2:(n:Int)≤(c:Int):=by omega
 have k3:k≤n:=by omega
 clear hf hd hnl ho ht hok hsum hp h ev hv ev2 hc0
 have HB:=Below.refl W.heap.size W
 go_enter Tryz.func34,Tryz.ntmps34
 go_upto_region 4 with (go_at_call 33;refine(newest_m p old n _ c top HS.out (by omega) _ hbx).mono ?_;rintro e w1 ⟨rfl,hb⟩;replace HB:=HB.trans (hb.mono HB.size);clear hb c0 c1)
 obtain⟨c0,c1⟩:=HC0.out _ HB
 go_upto_region 5 with fail
 clear c0 c1
 refine RW.start (fun w'=>Below W.heap.size W w') (by kernel_rfl) (by kernel_rfl) HB.drew ?_
 repeat (first
  |(refine' RW.val (by rfl) ?_ ?_;rotate_left;(focus (intro w' hS;have HB5:=hS;obtain⟨c0,c1⟩:=HC0.out _ HB5;clear hS;go_simp;rfl));simp only[Act.put,List.setIfInBounds_toArray,List.set_cons_zero,List.set_cons_succ])
  |(refine RW.off (by rfl) ?_;simp only[Act.put,List.setIfInBounds_toArray,List.set_cons_zero,List.set_cons_succ]))
 refine RW.done (fun w' hS=>?_)
 have HB5:=hS;obtain⟨c0,c1⟩:=HC0.out _ HB5;clear hS
 go_wp2
 refine bodyPost_ret (v:=.tuple #[.slice (some ⟨g,k * 3,none⟩) (n - k) (n - k),.int .i64 0]) (by simp[results,Tryz.results34,go_sem, *];done) rfl ⟨rfl,HB5⟩
theorem Fields_no {W:World} {cp mp:Nat} {E:List En} {es:List MapEntry} {clock:Nat} (h:CatIs 89 80 W cp mp E es clock) {nm:ByteArray} (hn:nm.size≤maxLen) (v:Int) (hbad:findE E nm=none∨∃d,findE E nm=some d∧d.y.Ok∧(v<(d.y.old:Int)∨(d.y.top:Int)<v)):
 Calls Tryz.prog 16 #[.pointer (some ⟨cp,0,none⟩),.string nm,.int .i64 v] W fun e w'=>e=.returned (.tuple #[.slice none 0 0,.int .i64 90])∧Below W.heap.size W w':=by
 have hfr:Calls Tryz.prog 34 #[.pointer (some ⟨cp,0,none⟩),.string nm,.int .i64 v] W fun e w'=>e=.returned (.tuple #[.slice none 0 0,.int .i64 90])∧Below W.heap.size W w':=by
  rcases hbad with h1|⟨d,h1,h2,h3⟩
  ·exact from_none h hn h1 v
  ·exact from_bad h hn h1 h2 v h3
 have HFR:=Lib.hid hfr
 clear hbad hfr h
 go_enter Tryz.func16,Tryz.ntmps16
 go_wp2_with (go_at_call 34;refine HFR.out.mono ?_;rintro e w1 ⟨rfl,HB⟩)
 refine bodyPost_ret (v:=.tuple #[.slice none 0 0,.int .i64 90]) (by simp[results,Tryz.results16,go_sem, *];done) rfl ⟨rfl,HB⟩
theorem Fields_yes {W:World} {cp mp:Nat} {E:List En} {es:List MapEntry} {clock:Nat} (h:CatIs 89 80 W cp mp E es clock) {nm:ByteArray} (hn:nm.size≤maxLen) {d:En} (hf:findE E nm=some d) (hok:d.y.Ok) (k:Nat) {x:TabV} (hx:d.xs[k]?=some x) (m:Nat) (hm:x.t.n.length=m) (hm4:m≤4398046511104) (v:Int) (hv:v=((d.y.old+k:Nat):Int)):
 Calls Tryz.prog 16 #[.pointer (some ⟨cp,0,none⟩),.string nm,.int .i64 v] W fun e w'=>∃B b,e=.returned (.tuple #[.slice B m b,.int .i64 0])∧m≤b∧RdP (fun g=>W.heap.size≤g) w' B (cellsF x.t.n)∧Below W.heap.size W w':=by
 subst hv
 have hdE:=(findE_mem hf).1
 have hd:=h.ents d hdE
 obtain⟨g,c,n,ev,hnc,hnl,_,_,hpos,hrd⟩:=En.open hd hok
 have hkn:k<n:=by rw[←hnl];exact(List.getElem?_eq_some_iff.1 hx).1
 have hfr:=from_some h hn hf hok g c n ev k hkn
 obtain⟨_,t1,_⟩:=Rd.tab hrd hx
 have hxI:=h.tabs d hdE x (List.mem_of_getElem? hx)
 have hcb:=hxI.cb
 rw[hm] at t1 hcb
 have hxn:=hxI.n.rd
 have hidx:(0:Int)<((n - k:Nat):Int):=by omega
 have hidx2:0<n - k:=by omega
 have HFR:=Lib.hid hfr;have HM:=Lib.hid hm
 obtain⟨old,ho⟩:∃o:Int,((d.y.old+k:Nat):Int)=o:=⟨_,rfl⟩
 rw[ho] at HFR ⊢
 obtain⟨j,hj⟩:∃j,n - k=j:=⟨_,rfl⟩
 rw[hj] at HFR hidx hidx2
 clear hfr hf hok hx hd hdE hm ev hnc hnl hrd hxI h ho hj hkn hpos
 go_enter Tryz.func16,Tryz.ntmps16
 go_upto_region 4 with (go_at_call 34;refine HFR.out.mono ?_;rintro e w1 ⟨rfl,HB⟩)
 have t1':=cell_below (B:=0) HB t1
 have hxn':=hxn.below HB
 go_wp2_with (go_at_call 35;refine(CloneF_m x.B x.b m x.t.n HM.out _ hxn' hm4 hcb).mono ?_;rintro e w2 ⟨B,b,rfl,hb4,own,hb2⟩)
 refine bodyPost_ret (v:=.tuple #[.slice B m b,.int .i64 0]) (by simp[results,Tryz.results16,go_sem, *];done) rfl ⟨B,b,rfl,hb4,?_,HB.trans (hb2.mono HB.size)⟩
 exact own_P own (fun g hg=>Nat.le_trans HB.size (own_base own g hg))
end
section
open Go.RowKit
theorem enc_length {vk bits:Int} {tx:ByteArray} {k l:Int} (hr:rightB vk bits tx k l=true):((encL bits tx k l).length:Int)=longZ k l:=by
 obtain⟨hm,rfl,ht,hf⟩:=right_may hr
 unfold encL
 split
 ·rename_i h
  subst h
  rw[long_12 hm,bl_length]
  simpa using ht
 ·rename_i h
  rw[leL_length]
  have:=long_cases hm h
  omega
theorem num_leL (m w:Nat):numN (leL (m:Int) w)=m % 2 ^ (8 * w):=by
 induction w with
 |zero=>simp[leL,numN,Nat.mod_one]
 |succ w ih=>
  rw[leL_succ,numN_append,leL_length,ih,byteZ_nat,Nat.mul_add,Nat.pow_add,Nat.mod_mul]
  have e:numN [UInt8.ofNat ((m / 2 ^ (8 * w) % 256:Nat):Int).toNat]=m / 2 ^ (8 * w) % 256:=by
   have hx:m / 2 ^ (8 * w) % 256<256:=Nat.mod_lt _ (by decide)
   generalize m / 2 ^ (8 * w) % 256=x at hx ⊢
   rw[Int.toNat_natCast]
   simp[numN];omega
  rw[e]
theorem num_enc (n:Int) (w:Nat) (h0:0≤n):numL (leL n w)=n % ((2 ^ (8 * w):Nat):Int):=by
 obtain⟨m,rfl⟩:=Int.eq_ofNat_of_zero_le h0
 rw[numL,num_leL];rfl
theorem sign_mod (n:Int) (w:Nat) (hw:widthB w=true) (h0:0≤n) (h1:n<18446744073709551616):signZ (n % ((2 ^ (8 * w):Nat):Int)) w=signZ n w:=by
 have hc:=width_cases hw
 rcases(by omega:w=1∨w=2∨w=4∨w=8) with rfl|rfl|rfl|rfl
 ·rw[show ((1:Nat):Int)=1 from rfl,show((2 ^ (8 * 1):Nat):Int)=256 by decide,signZ_arith1 n h0 h1,signZ_arith1 _ (by omega) (by omega)]
  simp
 ·rw[show ((2:Nat):Int)=2 from rfl,show((2 ^ (8 * 2):Nat):Int)=65536 by decide,signZ_arith2 n h0 h1,signZ_arith2 _ (by omega) (by omega)]
  simp
 ·rw[show ((4:Nat):Int)=4 from rfl,show((2 ^ (8 * 4):Nat):Int)=4294967296 by decide,signZ_arith4 n h0 h1,signZ_arith4 _ (by omega) (by omega)]
  simp
 ·rw[show ((8:Nat):Int)=8 from rfl,show((2 ^ (8 * 8):Nat):Int)=18446744073709551616 by decide,Int.emod_eq_of_lt h0 h1]
theorem dec_enc {vk bits:Int} {tx:ByteArray} {k l:Int} (h0:0≤bits) (h1:bits<18446744073709551616) (hr:rightB vk bits tx k l=true):
 vk=k∧decZ (encL bits tx k l) k l=bits∧decT (encL bits tx k l) k=tx∧decB (encL bits tx k l) k l=true:=by
 have hlen:=enc_length hr
 obtain⟨hm,rfl,ht,hf⟩:=right_may hr
 have key:decZ (encL bits tx vk l) vk l=bits∧decT (encL bits tx vk l) vk=tx:=by
  by_cases hk:vk=12
  ·subst hk
   have hb:bits=0:=by simpa[fitB] using hf
   subst hb
   refine⟨by simp[decZ,rawZ,btw],?_⟩
   rw[decT,encL,if_pos rfl,if_pos rfl,strL_bl]
  ·have hlc:=long_cases hm hk
   have htx:tx=⟨#[]⟩:=by
    rw[if_neg hk] at ht
    have:tx.size=0:=by omega
    obtain⟨a⟩:=tx
    have:a=#[]:=Array.eq_empty_of_size_eq_zero this
    rw[this]
   refine⟨?_,by rw[decT,if_neg hk,htx]⟩
   have hwb:widthB (longZ vk l)=true:=by simp[widthB];omega
   obtain⟨W,hW⟩:∃W:Nat,longZ vk l=W:=⟨(longZ vk l).toNat,by omega⟩
   rw[hW] at hlc hwb hlen
   have he:encL bits tx vk l=leL bits W:=by rw[encL,if_neg hk,hW];rfl
   rw[he] at hlen ⊢
   have hraw:rawZ (leL bits W) vk l=bits % ((2 ^ (8 * W):Nat):Int):=by
    rw[rawZ,if_neg hk,leL_length,hW,if_pos ⟨rfl,hwb⟩,num_enc _ _ h0]
   rw[decZ,hraw,leL_length]
   rw[fitB,if_neg hk] at hf
   split
   ·rename_i h5
    have h5':=btw_iff.1 h5
    rw[if_neg (by omega),hW,h5] at hf
    rw[sign_mod _ _ hwb h0 h1]
    simpa[fitsB,hwb,show ¬vk=10 by omega,show ¬vk=11 by omega] using hf
   ·rename_i h5
    have h5:btw 5 vk 8=false:=by simpa using h5
    have hlt:bits<((2 ^ (8 * W):Nat):Int):=by
     split at hf
     ·have:bits≤1:=by simpa using hf
      rcases(by omega:W=1∨W=2∨W=4∨W=8) with rfl|rfl|rfl|rfl <;> simp <;> omega
     ·rw[hW,h5] at hf
      have hsz:vk=10∨vk=11→W=8:=fun h=>by
       have hW':=hW
       rw[longZ,if_pos hm,if_neg hk] at hW'
       rcases h with rfl|rfl
       ·have:sizeZ 10=8:=by decide
        omega
       ·have:sizeZ 11=8:=by decide
        omega
      simp only[fitsB,hwb,Bool.true_and,Bool.false_eq_true,if_false,Bool.or_eq_true,decide_eq_true_eq] at hf
      rcases(by omega:W=1∨W=2∨W=4∨W=8) with rfl|rfl|rfl|rfl <;> simp[topZ] at hf ⊢ <;> omega
    exact Int.emod_eq_of_lt h0 hlt
 refine⟨rfl,key.1,key.2,?_⟩
 rw[decB,key.1,key.2,hr,hlen]
 simp
theorem leL_zero (w:Nat):leL 0 w=List.replicate w 0:=by
 induction w with
 |zero=>rfl
 |succ w ih=>rw[leL_succ,ih,List.replicate_succ',show(byteZ 0 w).toNat=0 by simp[byteZ]];rfl
theorem zero_right {k l:Int} (h:mayB k l=true):∃n:Nat,longZ k l=n∧0<n∧n≤64∧rightB k 0 (zeroL k l) k l=true∧encL 0 (zeroL k l) k l=List.replicate n 0:=by
 by_cases hk:k=12
 ·subst hk
  have hb:=btw_iff.1 (mayB_12▸h)
  refine⟨l.toNat,by rw[long_12 h];omega,by omega,by omega,?_,?_⟩
  ·have hs:((zeroL 12 l).size:Int)=l:=by rw[zeroL,if_pos rfl,strL_size,List.length_replicate];omega
   simp only[rightB,h,hs,if_true,decide_true,Bool.and_true,Bool.true_and]
   simp[fitB]
  ·rw[encL,if_pos rfl,zeroL,if_pos rfl,bl_strL]
 ·have hlc:=long_cases h hk
  have hl0:=(mayB_of h hk).1
  subst hl0
  have hw:=long_width h hk
  refine⟨(longZ k 0).toNat,by omega,by omega,by omega,?_,?_⟩
  ·have hz:zeroL k 0=⟨#[]⟩:=by rw[zeroL,if_neg hk]
   have hf:fitB 0 k 0=true:=by
    rw[fitB,if_neg hk]
    split
    ·rfl
    ·rw[bit_fits (by decide) (by decide) hw];rfl
   rw[hz]
   simp only[rightB,h,hf,if_neg hk,decide_true,Bool.and_true,Bool.true_and]
   rfl
  ·rw[encL,if_neg hk,leL_zero]
theorem loc_name {fs:List Fd} (hr:rightF fs=true) {k:Nat} {f:Fd} (hf:fs[k]?=some f) {n:Nat} (hn:n=sizeF fs):∃at_,(layL fs)[k]?=some at_∧locF fs n f.s=.inr (at_,f):=by
 obtain⟨_,_,hz⟩:=rightF_ok hr hf
 have hk:=(List.getElem?_eq_some_iff.1 hf).1
 have hk2:k<(layL fs).length:=by rw[layL_length hr];exact hk
 refine⟨(layL fs)[k],List.getElem?_eq_getElem hk2,?_⟩
 rw[locF,hr,decide_eq_true hn]
 simp only[Bool.and_true,if_true]
 rw[hz,if_neg (by omega)]
 simp only[Int.toNat_natCast,List.getD_eq_getElem?_getD,hf,List.getElem?_eq_getElem hk2,Option.getD_some]
theorem dec_zero {f:Fd} (h:mayB f.k f.l=true):decF (List.replicate f.n 0) f=⟨f.k,0,zeroL f.k f.l⟩∧decE (List.replicate f.n 0) f.k f.l=0:=by
 obtain⟨n,hn,_,_,hr,he⟩:=zero_right h
 have:n=f.n:=by have:=f.n_eq;omega
 subst this
 obtain⟨_,h2,h3,h4⟩:=dec_enc (by omega) (by omega) hr
 rw[he] at h2 h3 h4
 refine⟨?_,by simp[decE,h4]⟩
 rw[decF,if_pos h4,h2,h3]
theorem get_new {fs:List Fd} (hr:rightF fs=true) {k:Nat} {f:Fd} (hf:fs[k]?=some f) {z:Nat} (hz:sizeF fs=z):getV (List.replicate z 0) fs f.s=⟨f.k,0,zeroL f.k f.l⟩∧getE (List.replicate z 0) fs f.s=0:=by
 obtain⟨at_,_,hl⟩:=loc_name hr hf (n:=z) hz.symm
 obtain⟨hm,hin,_,_⟩:=loc_in hl
 have e:((List.replicate z (0:UInt8)).drop at_).take f.n=List.replicate f.n 0:=by
  rw[List.drop_replicate,List.take_replicate];congr 1;omega
 have hl2:locF fs (List.replicate z (0:UInt8)).length f.s=.inr (at_,f):=by rw[List.length_replicate];exact hl
 obtain⟨h1,h2⟩:=dec_zero hm
 refine⟨?_,?_⟩
 ·simp only[getV,hl2,e,h1]
 ·simp only[getE,hl2,e,h2]
theorem over_get {b x:List UInt8} {i:Nat} (h:i+x.length≤b.length) (p:Nat):(overB b i x)[p]?=if i≤p∧p<i+x.length then x[p - i]? else b[p]?:=by
 unfold overB
 have ht:(b.take i).length=i:=by rw[List.length_take];omega
 rcases(by omega:p<i∨(i≤p∧p<i+x.length)∨i+x.length≤p) with hp|hp|hp
 ·rw[if_neg (by omega),List.append_assoc,List.getElem?_append_left (by omega),List.getElem?_take,if_pos hp]
 ·rw[if_pos hp,List.append_assoc,List.getElem?_append_right (by omega),ht,List.getElem?_append_left (by omega)]
 ·rw[if_neg (by omega),List.getElem?_append_right (by rw[List.length_append,ht];omega),List.length_append,ht,List.getElem?_drop]
  congr 1;omega
theorem over_at {b x:List UInt8} {i:Nat} (h:i+x.length≤b.length):((overB b i x).drop i).take x.length=x:=by
 apply List.ext_getElem?
 intro p
 rw[List.getElem?_take,List.getElem?_drop,over_get h]
 by_cases hp:p<x.length
 ·rw[if_pos hp,if_pos (by omega)];congr 1;omega
 ·rw[if_neg hp,List.getElem?_eq_none (by omega)]
theorem over_far {b x:List UInt8} {i j n:Nat} (h:i+x.length≤b.length) (hd:j+n≤i∨i+x.length≤j):((overB b i x).drop j).take n=(b.drop j).take n:=by
 apply List.ext_getElem?
 intro p
 rw[List.getElem?_take,List.getElem?_take,List.getElem?_drop,List.getElem?_drop,over_get h]
 by_cases hp:p<n
 ·rw[if_pos hp,if_pos hp,if_neg (by omega)]
 ·rw[if_neg hp,if_neg hp]
theorem endF_mono {fs:List Fd} (hm:MayF fs) {k l:Nat} (h:k≤l):endF 0 (fs.take k)≤endF 0 (fs.take l):=by
 have e:fs.take l=(fs.take l).take k++(fs.take l).drop k:=(List.take_append_drop _ _).symm
 rw[List.take_take,Nat.min_eq_left h] at e
 rw[e,endF_append]
 exact endF_ge fun g hg=>hm g (List.mem_of_mem_take (List.mem_of_mem_drop hg))
theorem lay_apart {fs:List Fd} (hr:rightF fs=true) {i j:Nat} {f g:Fd} {a b:Nat} (hf:fs[i]?=some f) (hg:fs[j]?=some g) (ha:(layL fs)[i]?=some a) (hb:(layL fs)[j]?=some b) (hij:i<j):a+f.n≤b:=by
 obtain⟨hm,_⟩:=rightF_may hr
 rw[layL,if_pos hr,List.getElem?_map,seqF_get 0 hf] at ha
 rw[layL,if_pos hr,List.getElem?_map,seqF_get 0 hg] at hb
 simp at ha hb
 have h1:=(seqF_take hf).2
 have h2:=endF_mono hm (show i+1≤j by omega)
 have h3:=atF_le (nx:=endF 0 (fs.take j)) (hm g (List.mem_of_getElem? hg))
 omega
theorem set_get {fs:List Fd} (hr:rightF fs=true) {b:List UInt8} (hb:b.length=sizeF fs) {i:Nat} {f:Fd} (hf:fs[i]?=some f) (v:Vl) (h0:0≤v.b) (h1:v.b<18446744073709551616) (he:setE b fs f.s v=0):
 (setB b fs f.s v).length=sizeF fs∧getV (setB b fs f.s v) fs f.s=v∧getE (setB b fs f.s v) fs f.s=0∧
 ∀(j:Nat) (g:Fd),j≠i→fs[j]?=some g→getV (setB b fs f.s v) fs g.s=getV b fs g.s∧getE (setB b fs f.s v) fs g.s=getE b fs g.s:=by
 obtain⟨at_,ha,hl⟩:=loc_name hr hf hb
 obtain⟨hm,hin,_,hn⟩:=loc_in hl
 have hrr:rightB v.k v.b v.t f.k f.l=true:=by
  cases h:rightB v.k v.b v.t f.k f.l
  ·simp[setE,hl,h] at he
  ·rfl
 have hel:=encL_length hrr
 have hs:setB b fs f.s v=overB b at_ (encL v.b v.t f.k f.l):=by simp[setB,hl,hrr]
 have hfit:at_+(encL v.b v.t f.k f.l).length≤b.length:=by rw[hel];exact hin
 have hlen:(setB b fs f.s v).length=sizeF fs:=by rw[hs,overB_length hfit,hb]
 have hl2:locF fs (setB b fs f.s v).length f.s=.inr (at_,f):=by rw[hlen,←hb];exact hl
 have hcut:((setB b fs f.s v).drop at_).take f.n=encL v.b v.t f.k f.l:=by rw[hs,←hel];exact over_at hfit
 have hk:v.k=f.k:=(right_may hrr).2.1
 obtain⟨_,d1,d2,d3⟩:=dec_enc h0 h1 hrr
 refine⟨hlen,?_,?_,fun j g hj hg=>?_⟩
 ·simp only[getV,hl2,hcut,decF]
  rw[if_pos d3,d1,d2,←hk]
 ·simp only[getE,hl2,hcut,decE]
  rw[if_pos d3]
 ·obtain⟨at2,ha2,hlg⟩:=loc_name hr hg hb
  have hlg2:locF fs (setB b fs f.s v).length g.s=.inr (at2,g):=by rw[hlen,←hb];exact hlg
  have hfar:((setB b fs f.s v).drop at2).take g.n=(b.drop at2).take g.n:=by
   rw[hs]
   refine over_far hfit ?_
   rw[hel]
   rcases(by omega:j<i∨i<j) with h|h
   ·exact .inl (lay_apart hr hg hf ha2 ha h)
   ·exact .inr (lay_apart hr hf hg ha ha2 h)
  exact⟨by simp only[getV,hlg,hlg2,hfar],by simp only[getE,hlg,hlg2,hfar]⟩
def InvS (fs:List Fd) (b:List UInt8) (was:List Vl):Prop:=b.length=sizeF fs∧was.length=fs.length∧∀(j:Nat) (f:Fd) (v:Vl),fs[j]?=some f→was[j]?=some v→getV b fs f.s=v∧getE b fs f.s=0
theorem invS_set {fs:List Fd} (hr:rightF fs=true) {b:List UInt8} {was:List Vl} (h:InvS fs b was) {i:Nat} {f:Fd} (hf:fs[i]?=some f) (v:Vl) (h0:0≤v.b) (h1:v.b<18446744073709551616) (he:setE b fs f.s v=0):InvS fs (setB b fs f.s v) (was.set i v):=by
 obtain⟨hb,hw,hall⟩:=h
 obtain⟨s1,s2,s3,s4⟩:=set_get hr hb hf v h0 h1 he
 refine⟨s1,by rw[List.length_set];exact hw,fun j g u hg hu=>?_⟩
 by_cases hij:j=i
 ·subst hij
  rw[hf] at hg;cases hg
  rw[List.getElem?_set_self (by have:=(List.getElem?_eq_some_iff.1 hf).1;omega)] at hu
  cases hu
  exact⟨s2,s3⟩
 ·rw[List.getElem?_set_ne (by omega)] at hu
  obtain⟨g1,g2⟩:=s4 j g hij hg
  obtain⟨a1,a2⟩:=hall j g u hg hu
  exact⟨g1.trans a1,g2.trans a2⟩
def Fd.zv (f:Fd):Vl:=⟨f.k,0,zeroL f.k f.l⟩
theorem invS_new {fs:List Fd} (hr:rightF fs=true) {z:Nat} (hz:sizeF fs=z):InvS fs (List.replicate z 0) (fs.map Fd.zv):=by
 refine⟨by rw[List.length_replicate,hz],by simp,fun j f v hf hv=>?_⟩
 rw[List.getElem?_map,hf] at hv
 cases hv
 exact get_new hr hf hz
def cellsVl (vs:List Vl):List Value:=vs.flatMap fun v=>[.int .i64 v.k,.int .u64 v.b,.string v.t]
theorem cellsVl_get {vs:List Vl} {i:Nat} {v:Vl} (h:vs[i]?=some v):(cellsVl vs)[i * 3]?=some (.int .i64 v.k)∧(cellsVl vs)[i * 3+1]?=some (.int .u64 v.b)∧(cellsVl vs)[i * 3+2]?=some (.string v.t):=by
 induction vs generalizing i with
 |nil=>simp at h
 |cons g r ih=>
  cases i with
  |zero=>simp at h;subst h;exact⟨rfl,rfl,rfl⟩
  |succ i=>
   have:=ih (i:=i) (by simpa using h)
   rw[cellsVl,List.flatMap_cons]
   refine⟨?_,?_,?_⟩
   ·rw[show (i+1) * 3=i * 3+3 by omega,List.getElem?_append_right (by simp)];simpa[cellsVl] using this.1
   ·rw[show (i+1) * 3+1=i * 3+1+3 by omega,List.getElem?_append_right (by simp)];simpa[cellsVl] using this.2.1
   ·rw[show (i+1) * 3+2=i * 3+2+3 by omega,List.getElem?_append_right (by simp)];simpa[cellsVl] using this.2.2
theorem cellsVl_set {vs:List Vl} {i:Nat} (h:i<vs.length) (v:Vl):(((cellsVl vs).set (i * 3) (.int .i64 v.k)).set (i * 3+1) (.int .u64 v.b)).set (i * 3+2) (.string v.t)=cellsVl (vs.set i v):=by
 induction vs generalizing i with
 |nil=>simp at h
 |cons g r ih=>
  cases i with
  |zero=>rfl
  |succ i=>
   have:=ih (i:=i) (by simpa using h)
   simp only[cellsVl,List.flatMap_cons,List.set_cons_succ] at *
   rw[←this]
   rw[show (i+1) * 3=(i * 3)+1+1+1 by omega,show(i * 3)+1+1+1+1=(i * 3+1)+1+1+1 by omega,show(i * 3)+1+1+1+2=(i * 3+2)+1+1+1 by omega]
   simp
theorem OBox.set {w:World} {b:Nat} {cs:List Value} {T:TypeId} (h:OBox w b cs T) (j:Nat) (v:Value):OBox (w.setCell ⟨b,j,none⟩ v) b (cs.set j v) T:=by
 obtain⟨hlt,hk⟩:=Array.getElem?_eq_some_iff.1 h
 show(w.heap.modify b _)[b]?=_
 rw[Array.getElem?_eq_getElem (by rw[Array.size_modify];exact hlt),Array.getElem_modify_self,hk]
 simp
theorem OBox.other {w:World} {b:Nat} {cs:List Value} {T:TypeId} (h:OBox w b cs T) {p:Addr} (hp:p.block≠b) (v:Value):OBox (w.setCell p v) b cs T:=(Below.heap_setCell w p v b (fun e=>hp e.symm)).trans h
theorem OBox.vals {w:World} {b:Nat} {vs:List Vl} {T:TypeId} (h:OBox w b (cellsVl vs) T) {i:Nat} {v:Vl} (hv:vs[i]?=some v):
 w.cell? ⟨b,i * 3,none⟩=some (.int .i64 v.k)∧w.cell? ⟨b,i * 3+1,none⟩=some (.int .u64 v.b)∧w.cell? ⟨b,i * 3+2,none⟩=some (.string v.t):=by
 obtain⟨g0,g1,g2⟩:=cellsVl_get hv
 exact⟨h.cell g0,h.cell g1,h.cell g2⟩
def VRow (w:World) (bd:Addr) (vs:List Vl):Prop:=bd=⟨bd.block,0,none⟩∧OBox w bd.block (cellsVl vs) 71
theorem VRow.below {w w1:World} {bd:Addr} {vs:List Vl} (h:VRow w bd vs) (hb:Below w.heap.size w w1):VRow w1 bd vs:=⟨h.1,h.2.below hb⟩
theorem add_at {bd:Addr} (h:bd=⟨bd.block,0,none⟩) (n:Nat):bd.add n=⟨bd.block,n,none⟩:=by
 obtain⟨b,o,s⟩:=bd
 have h:(⟨b,o,s⟩:Addr)=⟨b,0,none⟩:=h
 cases h
 unfold Addr.add;split <;> simp_all
theorem VRow.at {w:World} {bd:Addr} {vs:List Vl} (h:VRow w bd vs) {i:Nat} {v:Vl} (hv:vs[i]?=some v):
 (w.cell? (bd.add (i * 3))=some (.int .i64 v.k)∧w.cell? ⟨(bd.add (i * 3)).block,(bd.add (i * 3)).off+(0+1),none⟩=some (.int .u64 v.b)∧w.cell? ⟨(bd.add (i * 3)).block,(bd.add (i * 3)).off+(1+1),none⟩=some (.string v.t))∧
 w.frozen? (bd.add (i * 3))=false∧w.frozen? ⟨(bd.add (i * 3)).block,(bd.add (i * 3)).off+(0+1),none⟩=false∧w.frozen? ⟨(bd.add (i * 3)).block,(bd.add (i * 3)).off+(1+1),none⟩=false:=by
 obtain⟨h0,h1,h2⟩:=h.2.vals hv
 rw[add_at h.1]
 exact⟨⟨h0,h1,h2⟩,h.2.frz _,h.2.frz _,h.2.frz _⟩
theorem VRow.at2 {w:World} {bd:Addr} {vs:List Vl} (h:VRow w bd vs) {i:Nat} {v:Vl} (hv:vs[i]?=some v):
 (w.cell? ⟨(bd.add (i * 3)).block,(bd.add (i * 3)).off+1,none⟩=some (.int .u64 v.b)∧w.cell? ⟨(bd.add (i * 3)).block,(bd.add (i * 3)).off+2,none⟩=some (.string v.t))∧
 w.frozen? ⟨(bd.add (i * 3)).block,(bd.add (i * 3)).off+1,none⟩=false∧w.frozen? ⟨(bd.add (i * 3)).block,(bd.add (i * 3)).off+2,none⟩=false:=by
 obtain⟨⟨_,h1,h2⟩,_,z1,z2⟩:=h.at hv
 exact⟨⟨h1,h2⟩,z1,z2⟩
def put3 (w:World) (p:Addr) (v:Vl):World:=((w.setCell p (.int .i64 v.k)).setCell ⟨p.block,p.off+(0+1),none⟩ (.int .u64 v.b)).setCell ⟨p.block,p.off+(1+1),none⟩ (.string v.t)
theorem VRow.set {w:World} {bd:Addr} {vs:List Vl} (h:VRow w bd vs) {i:Nat} (hi:i<vs.length) (v:Vl):VRow (put3 w (bd.add (i * 3)) v) bd (vs.set i v):=by
 refine⟨h.1,?_⟩
 rw[put3,add_at h.1,←cellsVl_set hi]
 exact((h.2.set _ _).set _ _).set _ _
theorem Rd.vl {w:World} {A:Option Addr} {vs:List Vl} (h:Rd w A (cellsVl vs)) {k:Nat} {v:Vl} (hv:vs[k]?=some v):∃ad,A=some ad∧w.cell? (ad.add (k * 3))=some (.int .i64 v.k)∧w.cell? ⟨(ad.add (k * 3)).block,(ad.add (k * 3)).off+(0+1),none⟩=some (.int .u64 v.b)∧w.cell? ⟨(ad.add (k * 3)).block,(ad.add (k * 3)).off+(1+1),none⟩=some (.string v.t):=by
 obtain⟨g0,g1,g2⟩:=cellsVl_get hv
 obtain⟨ad,rfl,h0⟩:=h.at g0
 obtain⟨_,e1,h1⟩:=h.at g1
 obtain⟨_,e2,h2⟩:=h.at g2
 cases e1;cases e2
 rw[add_part _ _ 0] at h1
 rw[add_part _ _ 1] at h2
 exact⟨ad,rfl,h0,h1,h2⟩
end
section
open Go.RowKit Go.Lib
theorem castL_right {v:Vl} {f g:Fd} (b0:0≤v.b) (b1:v.b<18446744073709551616) (h:rightB v.k v.b v.t f.k f.l=true) (hc:castsB f.k f.l g.k g.l=true):rightB (castL v f g).k (castL v f g).b (castL v f g).t g.k g.l=true:=by
 rw[castL,if_pos ⟨h,hc⟩]
 exact(cast_right (tx:=v.t) b0 b1 h hc).1
theorem setE_right {fs:List Fd} (hr:rightF fs=true) {b:List UInt8} (hb:b.length=sizeF fs) {i:Nat} {f:Fd} (hf:fs[i]?=some f) {v:Vl} (h:rightB v.k v.b v.t f.k f.l=true):setE b fs f.s v=0:=by
 obtain⟨at_,_,hl⟩:=loc_name hr hf hb
 simp only[setE,hl]
 rw[if_pos h]
def FitV (l:List Fd) (vs:List Vl):Prop:=∀(k:Nat) (f:Fd) (v:Vl),l[k]?=some f→vs[k]?=some v→rightB v.k v.b v.t f.k f.l=true∧0≤v.b∧v.b<18446744073709551616
end
end Go.Proofs.YteembinfgbapgaaGreat
