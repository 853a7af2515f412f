/- Merged out of: Ts Uc Sn Tn. -/
import Derived.Test.YteembinfgbapgaaGreatC00
import Derived.Test.YteembinfgbapgaaGreatC35
import Derived.Test.YteembinfgbapgaaGreatC36
import Derived.Test.YteembinfgbapgaaGreatC37
import Derived.Test.YteembinfgbapgaaGreatC34
import Derived.Shelf.SlGeneric
import Derived.Shelf.SlIter.Nil
import Derived.Shelf.SortM.Plain
import Derived.Shelf.SortM.SortNone
import Derived.Ground.GgzProg
import Derived.Ground.SlgmProg
import Derived.Test.YteembinfgbapgaaGreatProg
import Derived.Test.YteembinfgbapgaaGreatC33
set_option linter.unusedSimpArgs false
set_option linter.unusedVariables false
set_option maxRecDepth 100000
set_option maxHeartbeats 8000000
namespace Go.Proofs.YteembinfgbapgaaGreat
section
open Go.RowKit Go.Lib Go.Maps
def CatTo (cp mp:Nat) (E:List En) (W:World) (D:List Ty) (w':World):Prop:=∃E' es' clock',E'.map (·.y)=D∧CatIs 89 80 w' cp mp E' es' clock'∧CatFr cp mp E E' W w'
theorem findE_some {E:List En} {nm:ByteArray} {d:En} (h:findE E nm=some d):findY (E.map (·.y)) nm=some d.y:=by rw[←findE_y,h];rfl
theorem findE_no {E:List En} {nm:ByteArray} (h:findE E nm=none):findY (E.map (·.y)) nm=none:=by rw[←findE_y,h];rfl
theorem findE_at {E:List En} {nm:ByteArray} {d:En} (h:findE E nm=some d):∃i:Nat,E[i]?=some d:=Qq.1 (findE_mem h).1
theorem set_put {E:List En} (hn:(E.map (·.y.s)).Nodup) {i:Nat} {d d':En} (hi:E[i]?=some d) (hs:d'.y.s=d.y.s):(E.set i d').map (·.y)=putY (E.map (·.y)) d'.y:=by
 have hil:=(J6.1 hi).1
 unfold putY
 rw[List.map_map,List.map_set]
 apply Xv
 intro j
 by_cases hj:j=i
 ·subst hj
  rw[List.getElem?_set_self (by simpa using hil),Kv,hi]
  simp[hs]
 ·rw[X6 (by omega),Kv,Kv]
  cases he:E[j]? with
  |none=>rfl
  |some e=>
   have hne:e.y.s≠d'.y.s:=by
    intro hc
    have a1:(E.map (·.y.s))[j]?=some d.y.s:=by rw[Kv,he];exact congrArg some (hc.trans hs)
    have a2:(E.map (·.y.s))[i]?=some d.y.s:=by rw[Kv,hi];rfl
    have b1:=(J6.1 a1).1
    exact hj ((List.getElem?_inj b1 hn).1 (a1.trans a2.symm))
   simp[hne]
theorem Define_m {W:World} {cp mp:Nat} {E:List En} {es:List MapEntry} {clock:Nat} (h:CatIs 89 80 W cp mp E es clock) {nm:ByteArray} (hn:nm.size≤maxLen) (A:Option Addr) (cA m:Nat) (fs:List Fd) (hm:fs.length=m) (hl:m≤9223372036854775807) (hcA:m≤cA) (hA:Rd W A (cellsF fs)) (q:Int) (hq:defE (E.map (·.y)) nm fs=q) (D':List Ty) (hD:defD (E.map (·.y)) nm fs=D'):
 Calls Tryz.prog 28 #[.pointer (some ⟨cp,0,none⟩),.string nm,.slice A m cA] W fun e w'=>e=.returned (.int .i64 q)∧CatTo cp mp E W D' w':=by
 have stay:∀r:Int,r≠0→defE (E.map (·.y)) nm fs=r→∀w',Below W.heap.size W w'→CatTo cp mp E W D' w':=fun r h1 h2 w' hb=>⟨E,es,clock,by rw[←hD,defD,if_neg (by omega)],h.below hb,.of hb⟩
 by_cases hbad:nameB nm=false∨rightF fs=false
 ·have e:defE (E.map (·.y)) nm fs=60:=by rw[defE,if_pos hbad]
  refine(Define_form h hn A cA m fs hm hl hcA hA hbad).mono ?_
  rintro e1 w' ⟨rfl,hb⟩
  exact⟨by rw[←hq,e],stay 60 (by decide) e w' hb⟩
 ·have hx:nameB nm=true:=by cases hx:nameB nm with|true=>rfl|false=>exact absurd (.inl hx) hbad
  have hy:rightF fs=true:=by cases hx:rightF fs with|true=>rfl|false=>exact absurd (.inr hx) hbad
  by_cases h2:findE E nm≠none∨16≤E.length
  ·have e:defE (E.map (·.y)) nm fs=91:=by
    rw[defE,if_neg hbad,if_pos]
    rcases h2 with h3|h3
    ·left
     cases hf:findE E nm with
     |none=>exact absurd hf h3
     |some d=>rw[findE_some hf];simp
    ·right;simpa using h3
   refine(Define_there h hn A cA m fs hm hl hcA hA hx hy h2).mono ?_
   rintro e1 w' ⟨rfl,hb⟩
   exact⟨by rw[←hq,e],stay 91 (by decide) e w' hb⟩
  ·have hf:findE E nm=none:=Classical.byContradiction fun hc=>h2 (.inl hc)
   have hlt:E.length<16:=by have:¬16≤E.length:=fun hc=>h2 (.inr hc);omega
   have e:defE (E.map (·.y)) nm fs=0:=by
    rw[defE,if_neg hbad,if_neg]
    rintro (h3|h3)
    ·exact h3 (findE_no hf)
    ·simp at h3;omega
   refine(Define_ok h hn A cA m fs hm hl hcA hA hx hy hf hlt).mono ?_
   rintro e1 w' ⟨rfl,d,es',hd,hc,hfr⟩
   refine⟨by rw[←hq,e],E++[d],es',clock+1,?_,hc,hfr⟩
   rw[←hD,defD,if_pos e,List.map_append,List.map_cons,List.map_nil,hd]
theorem Change_m {W:World} {cp mp:Nat} {E:List En} {es:List MapEntry} {clock:Nat} (h:CatIs 89 80 W cp mp E es clock) {nm:ByteArray} (hn:nm.size≤maxLen) (K:Option Addr) (cK nc:Nat) (cs:List (Ch×Value)) (hnc:cs.length=nc) (hk:nc≤9223372036854775807) (hw:∀p∈cs,ChW p) (hK:Rd W K (cellsC cs)) (ho:∀p∈cs,ChO W p) (hok:CatOk (E.map (·.y))) (q:Int) (hq:chE (E.map (·.y)) nm (cs.map (·.1))=q) (v:Nat) (hv:chV (E.map (·.y)) nm (cs.map (·.1))=v) (D':List Ty) (hD:chD (E.map (·.y)) nm (cs.map (·.1))=D'):
 Calls Tryz.prog 29 #[.pointer (some ⟨cp,0,none⟩),.string nm,.slice K nc cK] W fun e w'=>e=.returned (.tuple #[.int .i64 (v:Nat),.int .i64 q])∧CatTo cp mp E W D' w':=by
 have stay:∀r:Int,r≠0→chE (E.map (·.y)) nm (cs.map (·.1))=r→v=0∧∀w',Below W.heap.size W w'→CatTo cp mp E W D' w':=fun r h1 h2=>⟨by rw[←hv,chV,if_neg (by omega)],fun w' hb=>⟨E,es,clock,by rw[←hD,chD,if_neg (by omega)],h.below hb,.of hb⟩⟩
 cases hf:findE E nm with
 |none=>
  have e:chE (E.map (·.y)) nm (cs.map (·.1))=90:=by rw[chE,findE_no hf]
  refine(Change_none h hn hf K cK nc).mono ?_
  rintro e1 w' ⟨rfl,hb⟩
  obtain⟨rfl,s⟩:=stay 90 (by decide) e
  exact⟨by rw[←hq,e];rfl,s w' hb⟩
 |some d=>
  have hdE:=(findE_mem hf).1
  have hdo:d.y.Ok:=hok.ok d.y (X5.2 ⟨d,hdE,rfl⟩)
  obtain⟨i,hi⟩:=findE_at hf
  by_cases h64:64≤d.y.top
  ·have e:chE (E.map (·.y)) nm (cs.map (·.1))=91:=by rw[chE,findE_some hf];simp only;rw[if_pos h64]
   refine(Change_full h hn hf hdo h64 K cK nc).mono ?_
   rintro e1 w' ⟨rfl,hb⟩
   obtain⟨rfl,s⟩:=stay 91 (by decide) e
   exact⟨by rw[←hq,e];rfl,s w' hb⟩
  ·obtain⟨⟨T,c⟩,hT⟩:∃x,allT d.y.last (cs.map (·.1))=x:=⟨_,rfl⟩
   have e:chE (E.map (·.y)) nm (cs.map (·.1))=c:=by rw[chE,findE_some hf];simp only;rw[if_neg h64,hT]
   refine(Change_do h hn K cK nc cs hnc hk hw hK ho i hi hf hdo (by omega) T c hT).mono ?_
   rintro e1 w' (⟨hc,rfl,hb⟩|⟨rfl,rfl,d',hd',hc,hfr⟩)
   ·obtain⟨rfl,s⟩:=stay c hc e
    exact⟨by rw[←hq,e];rfl,s w' hb⟩
   ·refine⟨?_,E.set i d',es,clock,?_,hc,hfr⟩
    ·rw[←hq,e,←hv,chV,if_pos e,findE_some hf]
    ·rw[set_put h.names hi (by rw[hd'];rfl),hd',←hD,chD,if_pos e,findE_some hf]
theorem Retire_m {W:World} {cp mp:Nat} {E:List En} {es:List MapEntry} {clock:Nat} (h:CatIs 89 80 W cp mp E es clock) {nm:ByteArray} (hn:nm.size≤maxLen) (L:Option Addr) (cL nl:Nat) (q:List Int) (hnl:q.length=nl) (hl:nl≤9223372036854775807) (hL:Rd W L (cellsI q)) (hok:CatOk (E.map (·.y))) (qe:Int) (hqe:reE (E.map (·.y)) nm q=qe) (v:Nat) (hv:reV (E.map (·.y)) nm q=v) (D':List Ty) (hD:reD (E.map (·.y)) nm q=D'):
 Calls Tryz.prog 20 #[.pointer (some ⟨cp,0,none⟩),.string nm,.slice L nl cL] W fun e w'=>e=.returned (.tuple #[.int .i64 (v:Nat),.int .i64 qe])∧CatTo cp mp E W D' w':=by
 have stay:∀r:Int,r≠0→reE (E.map (·.y)) nm q=r→v=0∧∀w',Below W.heap.size W w'→CatTo cp mp E W D' w':=fun r h1 h2=>⟨by rw[←hv,reV,if_neg (by omega)],fun w' hb=>⟨E,es,clock,by rw[←hD,reD,if_neg (by omega)],h.below hb,.of hb⟩⟩
 cases hf:findE E nm with
 |none=>
  have e:reE (E.map (·.y)) nm q=90:=by rw[reE,findE_no hf]
  refine(Retire_none h hn hf L cL nl).mono ?_
  rintro e1 w' ⟨rfl,hb⟩
  obtain⟨rfl,s⟩:=stay 90 (by decide) e
  exact⟨by rw[←hqe,e];rfl,s w' hb⟩
 |some d=>
  have hdE:=(findE_mem hf).1
  have hdo:d.y.Ok:=hok.ok d.y (X5.2 ⟨d,hdE,rfl⟩)
  obtain⟨i,hi⟩:=findE_at hf
  obtain⟨u,hu⟩:∃u,useB d.y q=u:=⟨_,rfl⟩
  refine(Retire_do h hn L cL nl q hnl hl hL i hi hf hdo u hu).mono ?_
  rintro e1 w' (⟨rfl,rfl,hb⟩|⟨rfl,rfl,d',es',hd',hc,hfr⟩)
  ·have e:reE (E.map (·.y)) nm q=93:=by rw[reE,findE_some hf];simp only;rw[if_pos hu]
   obtain⟨rfl,s⟩:=stay 93 (by decide) e
   exact⟨by rw[←hqe,e];rfl,s w' hb⟩
  ·have e:reE (E.map (·.y)) nm q=0:=by rw[reE,findE_some hf];simp only;rw[if_neg (by rw[hu];decide)]
   refine⟨?_,E.set i d',es',clock,?_,hc,hfr⟩
   ·rw[←hqe,e,←hv,reV,if_pos e,findE_some hf]
   ·rw[set_put h.names hi (by rw[hd'];rfl),hd',←hD,reD,if_pos e,findE_some hf]
theorem cat_keep {cp mp:Nat} {E:List En} {D:List Ty} {W1 w2 w3:World} (hc:CatTo cp mp E w2 D w3) {pb:Nat} (hu:pb<W1.heap.size∧Unowned E mp pb) (hb:Below W1.heap.size W1 w2) {a b:Nat} {u v:Option Value} (ht:w2.cell? ⟨pb,a,none⟩=u∧w2.cell? ⟨pb,b,none⟩=v):w3.cell? ⟨pb,a,none⟩=u∧w3.cell? ⟨pb,b,none⟩=v:=by
 obtain⟨E',es',c',_,_,hf⟩:=hc
 have hk:=hf.block pb (Nat.lt_of_lt_of_le hu.1 hb.size) hu.2
 exact⟨(World.cell?_of_block (a:=⟨pb,a,none⟩) hk).trans ht.1,(World.cell?_of_block (a:=⟨pb,b,none⟩) hk).trans ht.2⟩
theorem cat_after {cp mp:Nat} {E:List En} {D:List Ty} {W1 w2 w3:World} (hb:Below W1.heap.size W1 w2) (hc:CatTo cp mp E w2 D w3):CatTo cp mp E W1 D w3:=by
 obtain⟨E',es',c',h1,h2,hf⟩:=hc
 exact⟨E',es',c',h1,h2,CatFr.after hb hf⟩
theorem does_m {W:World} {cp mp:Nat} {E:List En} {es:List MapEntry} {clock:Nat} (h:CatIs 89 80 W cp mp E es clock) (hok:CatOk (E.map (·.y))) (x:OpV) (hG:x.G W) (hS:x.S) (nf nc nl:Nat) (hnf:x.fs.length=nf) (hnc:x.cs.length=nc) (hnl:x.live.length=nl)
 (q:Int) (hq:doE (E.map (·.y)) x.z=q) (v:Nat) (hv:doV (E.map (·.y)) x.z=v) (D':List Ty) (hD:doD (E.map (·.y)) x.z=D'):
 Calls Tryz.prog 13 #[.pointer (some ⟨cp,0,none⟩),.agg #[.int .i64 x.k,.string x.s,.slice x.A nf x.a,.slice x.C nc x.c,.slice x.L nl x.l]] W fun e w'=>e=.returned (.tuple #[.int .i64 (v:Nat),.int .i64 q])∧CatTo cp mp E W D' w':=by
 obtain⟨x1,x2,x3,x4,x5,x6,x7,x8,x9,x10⟩:=hG
 obtain⟨s1,s2,s3,s4,s5,s6⟩:=hS
 have nb:=below_new (w:=W) (.cells #[.int .i64 x.k,.string x.s,.slice x.A nf x.a,.slice x.C nc x.c,.slice x.L nl x.l] 31)
 have P:=OBox.new W [.int .i64 x.k,.string x.s,.slice x.A nf x.a,.slice x.C nc x.c,.slice x.L nl x.l] 31
 obtain⟨p0,p1,p2,p3,p4⟩:=P.f5
 have h1:=h.below nb
 have hfr:CatFr cp mp E E W (W.alloc (.cells #[.int .i64 x.k,.string x.s,.slice x.A nf x.a,.slice x.C nc x.c,.slice x.L nl x.l] 31)):=.of nb
 have hpb:W.heap.size<(W.alloc (.cells #[.int .i64 x.k,.string x.s,.slice x.A nf x.a,.slice x.C nc x.c,.slice x.L nl x.l] 31)).heap.size:=by simp
 have hun:Unowned E mp W.heap.size:=⟨by have:=h.mpLt;omega,fun d hd hh=>by have:=En.lt (h.ents d hd) hh;omega⟩
 have y4:=x4.below nb
 have y6:=x6.below nb
 have y8:∀p∈x.cs,ChO (W.alloc (.cells #[.int .i64 x.k,.string x.s,.slice x.A nf x.a,.slice x.C nc x.c,.slice x.L nl x.l] 31)) p:=fun p hp=>(x8 p hp).2.2.below nb
 have y9:=x9.below nb
 have hw:∀p∈x.cs,ChW p:=fun p hp=>⟨(x8 p hp).1,(x8 p hp).2.1,(s4 p hp).2.2.2,(s4 p hp).2.1⟩
 rw[hnf] at x5 s3;rw[hnc] at x7 s5;rw[hnl] at x10 s6
 have fin:∀w':World,CatTo cp mp E (W.alloc (.cells #[.int .i64 x.k,.string x.s,.slice x.A nf x.a,.slice x.C nc x.c,.slice x.L nl x.l] 31)) D' w'→CatTo cp mp E W D' w':=fun w' ⟨E',es',c',h1,h2,h3⟩=>⟨E',es',c',h1,h2,hfr.trans h3⟩
 have FIN:=J0 fin
 clear nb P hfr x4 x6 x8 x9
 obtain⟨kk,hkk⟩:∃kk,x.k=kk:=⟨_,rfl⟩
 have hz:x.z.k=kk:=hkk
 simp only[hkk] at h1 y4 y6 y8 y9 p0 p1 p2 p3 p4 FIN hpb ⊢
 unfold doE at hq
 unfold doV at hv
 unfold doD at hD
 rw[hz] at hq hv hD
 have hmap:x.z.cs=x.cs.map (·.1):=rfl
 have HOK:=J0 hok;have HNF:=J0 hnf;have HNC:=J0 hnc;have HNL:=J0 hnl
 clear hkk hz hok hnf hnc hnl
 by_cases k0:kk=0
 ·subst k0
  rw[if_pos rfl] at hq hv hD
  subst hv
  have HQ:=J0 hq;have HD:=J0 hD
  clear hq hD h p3 p4
  go_enter Tryz.func13,Tryz.ntmps13
  go_upto_region 1 with fail
  generalize W.alloc (.cells #[.int .i64 0,.string x.s,.slice x.A nf x.a,.slice x.C nc x.c,.slice x.L nl x.l] 31)=W1 at *
  generalize W.heap.size=pb at *
  go_wp2_with (go_at_call 28;refine(Define_m h1 x3 x.A x.a nf x.fs HNF.out (by omega) x5 y4 q HQ.out D' HD.out).mono ?_;rintro e w2 ⟨rfl,hc⟩)
  refine bodyPost_ret (v:=.tuple #[.int .i64 0,.int .i64 q]) (by simp[results,Tryz.results13,go_sem, *];done) rfl ⟨rfl,FIN.out _ hc⟩
 rw[if_neg k0] at hq hv hD
 have e0:(kk == 0)=false:=by simpa using k0
 by_cases k1:kk=1
 ·subst k1
  rw[if_pos rfl] at hq hv hD
  have HQ:=J0 hq;have HD:=J0 hD;have HV:=J0 hv
  clear hq hD hv h p2 p4 k0
  go_enter Tryz.func13,Tryz.ntmps13
  go_upto_region 1 with fail
  generalize W.alloc (.cells #[.int .i64 1,.string x.s,.slice x.A nf x.a,.slice x.C nc x.c,.slice x.L nl x.l] 31)=W1 at *
  generalize W.heap.size=pb at *
  go_upto_region 5 with fail
  have z8:∀p∈x.cs,ChO W1.drew p:=fun p hp=>(y8 p hp).below (Jy _ _).drew
  have z6:Rd W1.drew x.C (cellsC x.cs):=y6.below (Jy _ _).drew
  have hd1:=h1.drew
  have HU2:pb<W1.heap.size∧Unowned E mp pb:=⟨hpb,hun⟩
  go_region_held3 (fun W'=>W'.cell? ⟨pb,1,none⟩=some (.string x.s)∧W'.cell? ⟨pb,3,none⟩=some (.slice x.C nc x.c)) (first|assumption|exact⟨p1,p3⟩)
   (first
     |(go_at_call 30;refine(own9_m x.C x.c nc x.cs HNC.out (by omega) _ z6 z8).mono ?_;rintro e w2 ⟨B,d,rfl,rB,hb⟩;have hB2:=below_seq (Jy _ _).drew hb;have t1:=cell_below (B:=0) hB2 p1;have t3:=cell_below (B:=0) hB2 p3;have tp:w2.cell? ⟨pb,1,none⟩=some (.string x.s)∧w2.cell? ⟨pb,3,none⟩=some (.slice x.C nc x.c):=⟨t1,t3⟩;clear t1 t3)
     |(go_at_call 29;refine(Change_m (hd1.below hb) x3 B d nc x.cs HNC.out (by omega) hw rB (fun p hp=>(z8 p hp).below hb) HOK.out q HQ.out v HV.out D' HD.out).mono ?_;rintro e w3 ⟨rfl,hc⟩;have tq:w3.cell? ⟨pb,1,none⟩=some (.string x.s)∧w3.cell? ⟨pb,3,none⟩=some (.slice x.C nc x.c):=cat_keep hc HU2 hB2 tp))
  all_goals go_wp2_with fail
  all_goals refine bodyPost_ret (v:=.tuple #[.int .i64 (v:Nat),.int .i64 q]) (by simp[results,Tryz.results13,go_sem, *];done) rfl ⟨rfl,FIN.out _ (cat_after hB2 hc)⟩
 rw[if_neg k1] at hq hv hD
 have e1:(kk == 1)=false:=by simpa using k1
 by_cases k2:kk=2
 ·subst k2
  rw[if_pos rfl] at hq hv hD
  have HQ:=J0 hq;have HD:=J0 hD;have HV:=J0 hv
  clear hq hD hv h p2 p3 k0 k1
  go_enter Tryz.func13,Tryz.ntmps13
  go_upto_region 1 with fail
  generalize W.alloc (.cells #[.int .i64 2,.string x.s,.slice x.A nf x.a,.slice x.C nc x.c,.slice x.L nl x.l] 31)=W1 at *
  generalize W.heap.size=pb at *
  go_wp2_with (go_at_call 20;refine(Retire_m h1 x3 x.L x.l nl x.live HNL.out (by omega) y9 HOK.out q HQ.out v HV.out D' HD.out).mono ?_;rintro e w2 ⟨rfl,hc⟩)
  refine bodyPost_ret (v:=.tuple #[.int .i64 (v:Nat),.int .i64 q]) (by simp[results,Tryz.results13,go_sem, *];done) rfl ⟨rfl,FIN.out _ hc⟩
 ·rw[if_neg k2] at hq hv hD
  have e2:(kk == 2)=false:=by simpa using k2
  subst hq hv
  have hc:CatTo cp mp E W D' (W.alloc (.cells #[.int .i64 kk,.string x.s,.slice x.A nf x.a,.slice x.C nc x.c,.slice x.L nl x.l] 31)):=FIN.out _ ⟨E,es,clock,hD,h1,CatFr.refl _ _ _ _⟩
  clear h p1 p2 p3 p4
  go_enter Tryz.func13,Tryz.ntmps13
  go_upto_region 1 with fail
  generalize W.alloc (.cells #[.int .i64 kk,.string x.s,.slice x.A nf x.a,.slice x.C nc x.c,.slice x.L nl x.l] 31)=W1 at *
  generalize W.heap.size=pb at *
  go_wp2
  refine bodyPost_ret (v:=.tuple #[.int .i64 0,.int .i64 0]) (by simp[results,Tryz.results13,go_sem, *];done) rfl ⟨rfl,hc⟩
def verE (D:List Ty) (nm:ByteArray):Int:=match findY D nm with|none=>90|some _=>0
def verO (D:List Ty) (nm:ByteArray):Nat:=match findY D nm with|none=>0|some t=>t.old
def verT (D:List Ty) (nm:ByteArray):Nat:=match findY D nm with|none=>0|some t=>t.top
def tabAt (t:Ty) (v:Int):Option Tb:=if v<(t.old:Int) then none else t.ts[(v - t.old).toNat]?
def verTab (D:List Ty) (nm:ByteArray) (v:Int):Option Tb:=(findY D nm).bind fun t=>tabAt t v
def fldE (D:List Ty) (nm:ByteArray) (v:Int):Int:=match verTab D nm v with|none=>90|some _=>0
def fldL (D:List Ty) (nm:ByteArray) (v:Int):List Fd:=match verTab D nm v with|none=>[]|some x=>x.n
def upgE (D:List Ty) (nm:ByteArray) (v:Int) (b:List UInt8):Int:=match verTab D nm v with|none=>90|some x=>if checkB x.n b=true then 0 else 70
def upgV (D:List Ty) (nm:ByteArray) (v:Int) (b:List UInt8):List UInt8:=if upgE D nm v b=0 then(match findY D nm with|none=>[]|some t=>upgL (t.ts.drop ((v - t.old).toNat+1)) b) else[]
theorem tabAt_none {t:Ty} (ht:t.Ok) {v:Int}:tabAt t v=none↔v<(t.old:Int)∨(t.top:Int)<v:=by
 have hlen:0<t.ts.length:=by cases hx:t.ts with|nil=>exact absurd hx ht.ne|cons a r=>simp
 have h2:t.top=t.old+t.ts.length - 1:=rfl
 unfold tabAt
 split
 ·simp;omega
 ·rw[List.getElem?_eq_none_iff]
  omega
theorem tabAt_some {t:Ty} {v:Int} {x:Tb} (h:tabAt t v=some x):∃k:Nat,v=((t.old+k:Nat):Int)∧t.ts[k]?=some x∧(v - t.old).toNat=k:=by
 unfold tabAt at h
 split at h
 ·cases h
 ·exact⟨(v - t.old).toNat,by omega,h,rfl⟩
theorem findE_of {E:List En} {nm:ByteArray} {t:Ty} (h:findY (E.map (·.y)) nm=some t):∃d,findE E nm=some d∧d.y=t:=by
 rw[←findE_y] at h
 cases hf:findE E nm with
 |none=>rw[hf] at h;cases h
 |some d=>rw[hf] at h;exact⟨d,rfl,Jj h⟩
theorem findE_no' {E:List En} {nm:ByteArray} (h:findY (E.map (·.y)) nm=none):findE E nm=none:=by
 rw[←findE_y] at h
 cases hf:findE E nm with
 |none=>rfl
 |some d=>rw[hf] at h;cases h
theorem Versions_m {W:World} {cp mp:Nat} {E:List En} {es:List MapEntry} {clock:Nat} (h:CatIs 89 80 W cp mp E es clock) {nm:ByteArray} (hn:nm.size≤maxLen) (hok:CatOk (E.map (·.y))) (D:List Ty) (hD:E.map (·.y)=D) (o t:Nat) (q:Int) (ho:verO D nm=o) (ht:verT D nm=t) (hq:verE D nm=q):
 Calls Tryz.prog 15 #[.pointer (some ⟨cp,0,none⟩),.string nm] W fun e w'=>e=.returned (.tuple #[.int .i64 (o:Nat),.int .i64 (t:Nat),.int .i64 q])∧Below W.heap.size W w':=by
 subst hD
 cases hf:findY (E.map (·.y)) nm with
 |none=>
  rw[verO,hf] at ho;rw[verT,hf] at ht;rw[verE,hf] at hq
  subst ho ht hq
  exact Versions_none h hn (findE_no' hf)
 |some y=>
  rw[verO,hf] at ho;rw[verT,hf] at ht;rw[verE,hf] at hq
  subst hq
  obtain⟨d,hd,hy⟩:=findE_of hf
  subst hy
  exact Versions_some h hn hd (hok.ok _ (findY_mem hf).1) o t ho ht
theorem verTab_no {E:List En} (hok:CatOk (E.map (·.y))) {nm:ByteArray} {v:Int} (h:verTab (E.map (·.y)) nm v=none):findE E nm=none∨∃d,findE E nm=some d∧d.y.Ok∧(v<(d.y.old:Int)∨(d.y.top:Int)<v):=by
 cases hf:findY (E.map (·.y)) nm with
 |none=>exact .inl (findE_no' hf)
 |some y=>
  obtain⟨d,hd,rfl⟩:=findE_of hf
  have ho:=hok.ok _ (findY_mem hf).1
  rw[verTab,hf] at h
  exact .inr ⟨d,hd,ho,(tabAt_none ho).1 h⟩
theorem verTab_yes {ST CT:TypeId} {W:World} {cp mp:Nat} {E:List En} {es:List MapEntry} {clock:Nat} (hc:CatIs ST CT W cp mp E es clock) (hok:CatOk (E.map (·.y))) {nm:ByteArray} {v:Int} {x:Tb} (h:verTab (E.map (·.y)) nm v=some x):∃d,findE E nm=some d∧d.y.Ok∧findY (E.map (·.y)) nm=some d.y∧∃(k:Nat) (X:TabV),d.xs[k]?=some X∧X.t=x∧v=((d.y.old+k:Nat):Int)∧(v - d.y.old).toNat=k:=by
 cases hf:findY (E.map (·.y)) nm with
 |none=>rw[verTab,hf] at h;cases h
 |some y=>
  obtain⟨d,hd,rfl⟩:=findE_of hf
  have ho:=hok.ok _ (findY_mem hf).1
  rw[verTab,hf] at h
  obtain⟨k,hv,hk,hkk⟩:=tabAt_some h
  have hI:=hc.ents d (findE_mem hd).1
  rw[←hI.tabs,Kv] at hk
  cases hX:d.xs[k]? with
  |none=>rw[hX] at hk;cases hk
  |some X=>
   rw[hX] at hk
   exact⟨d,hd,ho,rfl,k,X,hX,Jj hk,hv,hkk⟩
theorem Fields_m {W:World} {cp mp:Nat} {E:List En} {es:List MapEntry} {clock:Nat} (h:CatIs 89 80 W cp mp E es clock) {nm:ByteArray} (hn:nm.size≤maxLen) (hok:CatOk (E.map (·.y))) (D:List Ty) (hD:E.map (·.y)=D) (v:Int) (q:Int) (hq:fldE D nm v=q) (l:List Fd) (hl:fldL D nm v=l) (m:Nat) (hm:l.length=m):
 Calls Tryz.prog 16 #[.pointer (some ⟨cp,0,none⟩),.string nm,.int .i64 v] W fun e w'=>∃B b,e=.returned (.tuple #[.slice B m b,.int .i64 q])∧m≤b∧RdP (fun g=>W.heap.size≤g) w' B (cellsF l)∧Below W.heap.size W w':=by
 subst hD
 cases hf:verTab (E.map (·.y)) nm v with
 |none=>
  rw[fldE,hf] at hq;rw[fldL,hf] at hl
  subst hq hl hm
  refine(Fields_no h hn v (verTab_no hok hf)).mono ?_
  rintro e w' ⟨rfl,hb⟩
  exact⟨none,0,rfl,J9 _,fun hne=>absurd rfl hne,hb⟩
 |some x=>
  rw[fldE,hf] at hq;rw[fldL,hf] at hl
  dsimp only at hq hl
  subst hq hl
  obtain⟨d,hd,ho,hfy,k,X,hX,rfl,hv,_⟩:=verTab_yes h hok hf
  have hI:=h.ents d (findE_mem hd).1
  have h16:X.t.n.length≤16:=(rightF_may (rightT_iff.1 (ho.ok X.t (by rw[←hI.tabs];exact X5.2 ⟨X,J7 hX,rfl⟩)).r).2.1).2
  exact Fields_yes h hn hd ho k hX m hm (by omega) v hv
theorem Upgrade_m {W:World} {cp mp:Nat} {E:List En} {es:List MapEntry} {clock:Nat} (h:CatIs 89 80 W cp mp E es clock) {nm:ByteArray} (hn:nm.size≤maxLen) (hok:CatOk (E.map (·.y))) (D:List Ty) (hD:E.map (·.y)=D) (v:Int) (b:List UInt8) (nb:Nat) (hb0:b.length=nb) (hnb:nb≤9223372036854775807) (Ab:Option Addr) (cb:Nat) (hcb:nb≤cb) (hb:Rd W Ab (bytesV b)) (q:Int) (hq:upgE D nm v b=q) (r:List UInt8) (hr:upgV D nm v b=r) (z:Nat) (hz:r.length=z):
 Calls Tryz.prog 18 #[.pointer (some ⟨cp,0,none⟩),.string nm,.int .i64 v,.slice Ab nb cb] W fun e w'=>∃B c',e=.returned (.tuple #[.slice B z c',.int .i64 q])∧z≤c'∧Rd w' B (bytesV r)∧Below W.heap.size W w':=by
 subst hD
 cases hf:verTab (E.map (·.y)) nm v with
 |none=>
  have e1:upgE (E.map (·.y)) nm v b=90:=by rw[upgE,hf]
  rw[upgV,if_neg (by rw[e1];decide)] at hr
  rw[e1] at hq
  subst hq hr hz
  refine(Upgrade_no h hn v (verTab_no hok hf) Ab nb cb).mono ?_
  rintro e w' ⟨rfl,hb⟩
  exact⟨none,0,rfl,J9 _,Rd.nil _ _,hb⟩
 |some x=>
  obtain⟨d,hd,ho,hfy,k,X,hX,rfl,hv,hk⟩:=verTab_yes h hok hf
  cases hc:checkB X.t.n b with
  |false=>
   have e1:upgE (E.map (·.y)) nm v b=70:=by rw[upgE,hf];simp only;rw[if_neg (by rw[hc];decide)]
   rw[upgV,if_neg (by rw[e1];decide)] at hr
   rw[e1] at hq
   subst hq hr hz
   refine(Upgrade_form h hn hd ho k hX v hv b nb hb0 hnb Ab cb hcb hb hc).mono ?_
   rintro e w' ⟨rfl,hb⟩
   exact⟨none,0,rfl,J9 _,Rd.nil _ _,hb⟩
  |true=>
   have e1:upgE (E.map (·.y)) nm v b=0:=by rw[upgE,hf];simp only;rw[if_pos hc]
   rw[upgV,if_pos e1,hfy] at hr
   simp only[hk] at hr
   rw[e1] at hq
   subst hq
   exact Upgrade_yes h hn hd ho k hX v hv b nb hb0 Ab cb hcb hb hc r hr z hz
end
end Go.Proofs.YteembinfgbapgaaGreat
namespace Go.Proofs
open Go.Shelf
def Tryz.keys32_ren:Go.Shelf.Ren:=⟨fun|7=>32|10=>66|n=>n,fun|23=>78|26=>9|3=>86|28=>84|0=>0|27=>83|33=>120|4=>4|n=>n,fun|n=>n⟩
theorem Tryz.keys32:Go.Proofs.SlLaysZ.n7 Tryz.prog Tryz.keys32_ren:={
 mixed:=by kernel_rfl
 f7:=⟨Tryz.f32.name,by decide,Tryz.func32.trans (congrArg some (by kernel_rfl))⟩
 f10:=⟨Tryz.f66.name,by decide,Tryz.func66.trans (congrArg some (by kernel_rfl))⟩
 t0:=Tryz.underlying0
 a0:=Tryz.isAgg0
 z0:=Tryz.sizeOf0
 v0:=Tryz.zeroValue0
 t4:=Tryz.underlying4
 a4:=Tryz.isAgg4
 z4:=Tryz.sizeOf4
 v4:=Tryz.zeroValue4
 t23:=Tryz.underlying78
 a23:=Tryz.isAgg78
 z23:=Tryz.sizeOf78
 v23:=Tryz.zeroValue78
 t26:=Tryz.underlying9
 a26:=Tryz.isAgg9
 z26:=Tryz.sizeOf9
 v26:=Tryz.zeroValue9
 t27:=Tryz.underlying83
 a27:=Tryz.isAgg83
 z27:=Tryz.sizeOf83
 v27:=Tryz.zeroValue83
 t28:=Tryz.underlying84
 a28:=Tryz.isAgg84
 z28:=Tryz.sizeOf84
 v28:=Tryz.zeroValue84
 t33:=Tryz.underlying120
 a33:=Tryz.isAgg120
 z33:=Tryz.sizeOf120
 v33:=Tryz.zeroValue120 }
def Tryz.sorted31_ren:Go.Shelf.Ren:=⟨fun|6=>31|8=>64|9=>65|11=>99|13=>101|12=>100|23=>151|24=>152|14=>142|15=>143|16=>144|17=>145|18=>146|19=>147|20=>148|21=>149|22=>150|25=>166|26=>167|27=>168|28=>169|29=>170|30=>171|31=>176|n=>n,fun|26=>9|28=>84|24=>35|0=>0|3=>3|37=>180|48=>218|50=>69|4=>4|40=>210|39=>209|45=>215|5=>5|9=>9|51=>231|55=>235|57=>238|58=>239|33=>120|n=>n,fun|n=>n⟩
theorem Tryz.sorted31:Go.Proofs.SlLaysZ.n6 Tryz.prog Tryz.sorted31_ren:={
 mixed:=by kernel_rfl
 f6:=⟨Tryz.f31.name,by decide,Tryz.func31.trans (congrArg some (by kernel_rfl))⟩
 f8:=⟨Tryz.f64.name,by decide,Tryz.func64.trans (congrArg some (by kernel_rfl))⟩
 f11:=⟨Tryz.f99.name,by decide,Tryz.func99.trans (congrArg some (by kernel_rfl))⟩
 t0:=Tryz.underlying0
 a0:=Tryz.isAgg0
 z0:=Tryz.sizeOf0
 v0:=Tryz.zeroValue0
 t24:=Tryz.underlying35
 a24:=Tryz.isAgg35
 z24:=Tryz.sizeOf35
 v24:=Tryz.zeroValue35
 t26:=Tryz.underlying9
 a26:=Tryz.isAgg9
 z26:=Tryz.sizeOf9
 v26:=Tryz.zeroValue9
 t28:=Tryz.underlying84
 a28:=Tryz.isAgg84
 z28:=Tryz.sizeOf84
 v28:=Tryz.zeroValue84
 i26:=by kernel_rfl }
def Tryz.sort65_ren:Go.Shelf.Ren:=⟨fun|6=>65|8=>101|9=>100|19=>151|20=>152|21=>142|22=>143|23=>144|24=>145|25=>146|26=>147|27=>148|28=>149|29=>150|36=>166|31=>167|32=>168|37=>169|38=>170|39=>171|41=>176|n=>n,fun|27=>35|29=>9|3=>3|32=>180|26=>35|0=>0|44=>218|46=>69|4=>4|36=>210|35=>209|41=>215|5=>5|9=>9|53=>231|57=>235|63=>238|64=>239|n=>n,fun|n=>n⟩
theorem Tryz.sort65:Go.Proofs.SlLaysM.n6 Tryz.prog Tryz.sort65_ren:={
 mixed:=by kernel_rfl
 f6:=⟨Tryz.f65.name,by decide,Tryz.func65.trans (congrArg some (by kernel_rfl))⟩
 f8:=Tryz.func101.trans (congrArg some (by kernel_rfl))
 f9:=⟨Tryz.f100.name,by decide,Tryz.func100.trans (congrArg some (by kernel_rfl))⟩
 f19:=Tryz.func151.trans (congrArg some (by kernel_rfl))
 f20:=Tryz.func152.trans (congrArg some (by kernel_rfl))
 f21:=⟨Tryz.f142.name,by decide,Tryz.func142.trans (congrArg some (by kernel_rfl))⟩
 f22:=⟨Tryz.f143.name,by decide,Tryz.func143.trans (congrArg some (by kernel_rfl))⟩
 f23:=⟨Tryz.f144.name,by decide,Tryz.func144.trans (congrArg some (by kernel_rfl))⟩
 f24:=⟨Tryz.f145.name,by decide,Tryz.func145.trans (congrArg some (by kernel_rfl))⟩
 f25:=⟨Tryz.f146.name,by decide,Tryz.func146.trans (congrArg some (by kernel_rfl))⟩
 f26:=⟨Tryz.f147.name,by decide,Tryz.func147.trans (congrArg some (by kernel_rfl))⟩
 f27:=⟨Tryz.f148.name,by decide,Tryz.func148.trans (congrArg some (by kernel_rfl))⟩
 f28:=⟨Tryz.f149.name,by decide,Tryz.func149.trans (congrArg some (by kernel_rfl))⟩
 f29:=⟨Tryz.f150.name,by decide,Tryz.func150.trans (congrArg some (by kernel_rfl))⟩
 f31:=Tryz.func167.trans (congrArg some (by kernel_rfl))
 f32:=Tryz.func168.trans (congrArg some (by kernel_rfl))
 f36:=⟨Tryz.f166.name,by decide,Tryz.func166.trans (congrArg some (by kernel_rfl))⟩
 f37:=⟨Tryz.f169.name,by decide,Tryz.func169.trans (congrArg some (by kernel_rfl))⟩
 f38:=⟨Tryz.f170.name,by decide,Tryz.func170.trans (congrArg some (by kernel_rfl))⟩
 f39:=⟨Tryz.f171.name,by decide,Tryz.func171.trans (congrArg some (by kernel_rfl))⟩
 f41:=⟨Tryz.f176.name,by decide,Tryz.func176.trans (congrArg some (by kernel_rfl))⟩
 t0:=Tryz.underlying0
 a0:=Tryz.isAgg0
 z0:=Tryz.sizeOf0
 v0:=Tryz.zeroValue0
 t3:=Tryz.underlying3
 a3:=Tryz.isAgg3
 z3:=Tryz.sizeOf3
 v3:=Tryz.zeroValue3
 t4:=Tryz.underlying4
 a4:=Tryz.isAgg4
 z4:=Tryz.sizeOf4
 v4:=Tryz.zeroValue4
 t5:=Tryz.underlying5
 a5:=Tryz.isAgg5
 z5:=Tryz.sizeOf5
 v5:=Tryz.zeroValue5
 t9:=Tryz.underlying9
 a9:=Tryz.isAgg9
 z9:=Tryz.sizeOf9
 v9:=Tryz.zeroValue9
 t26:=Tryz.underlying35
 a26:=Tryz.isAgg35
 z26:=Tryz.sizeOf35
 v26:=Tryz.zeroValue35
 t27:=Tryz.underlying35
 a27:=Tryz.isAgg35
 z27:=Tryz.sizeOf35
 v27:=Tryz.zeroValue35
 t29:=Tryz.underlying9
 a29:=Tryz.isAgg9
 z29:=Tryz.sizeOf9
 v29:=Tryz.zeroValue9
 t32:=Tryz.underlying180
 a32:=Tryz.isAgg180
 z32:=Tryz.sizeOf180
 v32:=Tryz.zeroValue180
 t35:=Tryz.underlying209
 a35:=Tryz.isAgg209
 z35:=Tryz.sizeOf209
 v35:=Tryz.zeroValue209
 t36:=Tryz.underlying210
 a36:=Tryz.isAgg210
 z36:=Tryz.sizeOf210
 v36:=Tryz.zeroValue210
 t41:=Tryz.underlying215
 a41:=Tryz.isAgg215
 z41:=Tryz.sizeOf215
 v41:=Tryz.zeroValue215
 t44:=Tryz.underlying218
 a44:=Tryz.isAgg218
 z44:=Tryz.sizeOf218
 v44:=Tryz.zeroValue218
 t46:=Tryz.underlying69
 a46:=Tryz.isAgg69
 z46:=Tryz.sizeOf69
 v46:=Tryz.zeroValue69
 t53:=Tryz.underlying231
 a53:=Tryz.isAgg231
 z53:=Tryz.sizeOf231
 v53:=Tryz.zeroValue231
 t57:=Tryz.underlying235
 a57:=Tryz.isAgg235
 z57:=Tryz.sizeOf235
 v57:=Tryz.zeroValue235
 t63:=Tryz.underlying238
 a63:=Tryz.isAgg238
 z63:=Tryz.sizeOf238
 v63:=Tryz.zeroValue238
 t64:=Tryz.underlying239
 a64:=Tryz.isAgg239
 z64:=Tryz.sizeOf239
 v64:=Tryz.zeroValue239 }
section
open Go.RowKit Go.Maps Go.Sort Go.Shelf
theorem Tryz.sorts31 (m:Nat):AnyZ.SortsIn Tryz.prog Tryz.sorted31_ren Fence.wide m:=
 ⟨fun blk off cap ss W hH hblk hsz=>callsIn_wide.2 (AnyM.slices_Sort_string Tryz.sort65 blk off cap ss W hH hblk hsz),
  fun p cap W=>callsIn_wide.2 (AnyM.slices_Sort_string_none Tryz.sort65 p cap W)⟩
theorem Tryz.maps_Keys_32 (mb:Option Nat) (W:World):CallsIn Fence.wide 5 Tryz.prog 32 #[.map mb] W fun e w'=>e=.returned (.func (.func 66) #[] #[.pointer (some ⟨W.heap.size,0,none⟩)])∧w'=W.alloc (.cells #[.map mb] 78):=
 AnyZ.keys_in Tryz.keys32 Fence.wide 5 trivial rfl mb W
theorem Tryz.slices_Sorted_keys_31_32 {H:Type} (b nn:Nat) (D0:DataW H) (R:Value→Option (DataW H×List MemPlace)) (w:World) (hown:w.ownsMap Tryz.prog 9 R b nn D0) (hmax:Maps.size D0≤maxLen) (hbytes:Maps.size D0 * 16≤140737488355328):
 CallsIn Fence.wide 5 Tryz.prog 31 #[.func (.func 66) #[] #[.pointer (some ⟨w.heap.size,0,none⟩)]] (w.alloc (.cells #[.map (some b)] 78)) fun e w'=>∃(v:Value) (ss:List (List UInt8)),e=.returned v∧ss.Perm (strKeys D0)∧
  w'.ownsRow (w.alloc (.cells #[.map (some b)] 78)).heap.size 9 1 v ss.length ((ss.mergeSort (fun x y=>decide (x≤y))).map encStr)∧(v=.slice none 0 0↔ss=[])∧Below (w.alloc (.cells #[.map (some b)] 78)).heap.size (w.alloc (.cells #[.map (some b)] 78)) w':=by
 have hbl:=hown.lt
 have hseq:SeqGives Fence.wide 2 Tryz.prog 66 #[.pointer (some ⟨w.heap.size,0,none⟩)] encStr (fun ss=>ss.Perm (strKeys D0)) (Maps.size D0) (w.alloc (.cells #[.map (some b)] 78)):=
  AnyZ.keys_gives (ρ:=Tryz.keys32_ren) { Tryz.keys32 with } Fence.wide _ trivial rfl (by omega) w.heap.size b nn D0 _ (by simp) (by simp) (by
   obtain⟨es,clock,hb,Ft,hs,hD⟩:=hown
   exact⟨es,clock,(Below.heap_alloc _ _ b hbl).trans hb,Ft,hs,hD⟩)
 exact AnyZ.sorted_in Tryz.sorted31 Fence.wide 5 trivial trivial trivial trivial rfl (by omega) (Tryz.sorts31 _) (enters_of Tryz.func65 (by kernel_rfl) rfl) 66 #[.pointer (some ⟨w.heap.size,0,none⟩)] trivial (enters_of Tryz.func66 (by kernel_rfl) rfl) _ _ hmax hbytes _ hseq
end
end Go.Proofs
namespace Go.Proofs.YteembinfgbapgaaGreat
section
open Go.RowKit Go.Lib Go.Maps Go.WideElems Go.MapKept Go.Sort
def noRead (_:Value):Option (DataW Unit×List MemPlace):=some (.nil,[])
theorem key_str {P:Program} {k:TypeId} (hk:P.underlying k=some .string) {s:ByteArray} (h:s.size≤maxLen):keyOf P k (.string s)=some (.string s.data.toList):=by
 simp[keyOf,hk,mapKey,h]
theorem rg_ent {P:Program} {k:TypeId} (hk:P.underlying k=some .string) {x:MapEntry} {s:ByteArray} (hx:x.key=.string s) (h:s.size≤maxLen):Go.WideElems.rd P k noRead x=some (.string s.data.toList,.nil):=by
 unfold Go.WideElems.rd
 rw[hx,key_str hk h]
 rfl
theorem CatIs.ownsMap {ST CT:TypeId} {W:World} {cp mp:Nat} {E:List En} {es:List MapEntry} {clock:Nat} (h:CatIs ST CT W cp mp E es clock) {P:Program} {k:TypeId} (hk:P.underlying k=some .string) (hlen:E.length≤1000):
 ∃D0:DataW Unit,W.ownsMap P k noRead mp es.length D0∧(strKeys D0).Perm (E.map fun d=>d.y.s.data.toList)∧Maps.size D0=E.length:=by
 have hel:es.length=E.length:=by have:=congrArg List.length h.prs;rw[prs_len,Kz] at this;exact this
 have hkeys:es.map (·.key)=E.map fun d=>Value.string d.y.s:=by
  have:=congrArg (List.map Prod.fst) h.prs
  rw[Go.Proofs.YteembinfgbapgaaGreat.prs,List.map_map,List.map_map] at this
  exact this
 have hread:∀x∈es,∃d∈E,Go.WideElems.rd P k noRead x=some (.string d.y.s.data.toList,.nil):=fun x hx=>by
  obtain⟨i,hi⟩:=Qq.1 hx
  obtain⟨d,hd,e1,_⟩:=nodup_of_prs h.prs hi
  exact⟨d,J7 hd,rg_ent hk e1 (h.small d (J7 hd))⟩
 have hrg:es.map (rg P k noRead)=E.map fun d=>((.string d.y.s.data.toList,.nil):Lit×DataW Unit):=by
  apply Xv
  intro n
  rw[Kv,Kv]
  cases hx:es[n]? with
  |none=>
   have:E[n]?=none:=by rw[List.getElem?_eq_none_iff] at hx ⊢;omega
   rw[this];rfl
  |some x=>
   obtain⟨d,hd,e1,_⟩:=nodup_of_prs h.prs hx
   rw[hd]
   show some (rg P k noRead x)=some _
   rw[rg_of (rg_ent hk e1 (h.small d (J7 hd)))]
 refine⟨.map ((es.toArray.toList.map (rg P k noRead)).foldr DataW.insert []),⟨es.toArray,clock,h.map,⟨by simp[maxLen];omega,⟨by simpa using h.b1,by simpa using h.b2,?_⟩,?_⟩,by simp,rfl⟩,?_,?_⟩
 ·show(es.map (·.key)).Nodup
  rw[hkeys]
  have h1:=h.names
  rw[List.nodup_iff_pairwise_ne,List.pairwise_map] at h1 ⊢
  exact h1.imp (fun hne e=>hne (by injection e))
 ·intro x hx
  obtain⟨d,_,e⟩:=hread x (by simpa using hx)
  exact⟨_,e⟩
 ·show(List.map (fun p=>strOf p.1) ((es.map (rg P k noRead)).foldr DataW.insert [])).Perm _
  refine((Go.WideShapes.sorted_perm _).map _).trans ?_
  rw[hrg,List.map_map]
  exact List.Perm.of_eq rfl
 ·show((es.map (rg P k noRead)).foldr DataW.insert []).length=_
  rw[(Go.WideShapes.sorted_perm _).length_eq,Kz,hel]
def cellsS (l:List ByteArray):List Value:=l.map Value.string
end
end Go.Proofs.YteembinfgbapgaaGreat
