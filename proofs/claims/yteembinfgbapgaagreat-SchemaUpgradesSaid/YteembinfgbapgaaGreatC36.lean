/- Merged out of: Tr. -/
import Derived.Test.YteembinfgbapgaaGreatC00
import Derived.Test.YteembinfgbapgaaGreatC35
set_option linter.unusedSimpArgs false
set_option linter.unusedVariables false
set_option maxRecDepth 100000
set_option maxHeartbeats 8000000
namespace Go.Proofs.YteembinfgbapgaaGreat
section
open Go.RowKit Go.Lib Go.Maps
theorem key_at {ST CT:TypeId} {W:World} {cp mp:Nat} {E:List En} {es:List MapEntry} {clock:Nat} (h:CatIs ST CT W cp mp E es clock) {i:Nat} {d:En} (hi:E[i]?=some d) {nm:ByteArray} (hn:d.y.s=nm) {j:Nat} {y:MapEntry} (hj:es[j]?=some y) (he:y.key=.string nm):j=i:=by
 obtain⟨e,hE,e1,_⟩:=nodup_of_prs h.prs hj
 rw[e1] at he
 have hs:e.y.s=d.y.s:=by injection he with h1;rw[h1,hn]
 have a1:(E.map (·.y.s))[j]?=some d.y.s:=by rw[Kv,hE];exact congrArg some hs
 have a2:(E.map (·.y.s))[i]?=some d.y.s:=by rw[Kv,hi];rfl
 exact(List.getElem?_inj (J6.1 a1).1 h.names).1 (a1.trans a2.symm)
theorem retire_fin {W2 W3 W5:World} {cp mp:Nat} {E:List En} {es es':List MapEntry} {clock:Nat} (h2:CatIs 89 80 W2 cp mp E es clock) {d:En} {i:Nat} (hi:E[i]?=some d) (hb3:Below W2.heap.size W2 W3) {l:List Fd} {m top:Nat} (hm:l.length=m) (hr:rightF l=true) {X0 X1 X2:Option Addr} {z0 z1 z2 b1 b2:Nat}
 (hd0:m≤z0) (u1:m≤z1) (hb1:W2.heap.size≤b1) (hb12:b1≤b2) (hb2:b2≤W3.heap.size) (R1:Rd W3 X0 (cellsF l)) (hBl:∀ad,X0=some ad→W2.heap.size≤ad.block∧ad.block<b1) (own2:W3.ownsRow b1 68 3 (.slice X1 m z1) m (cellsF l)) (own3:W3.ownsRow b2 137 4 (.slice X2 m z2) m (cellsM (kM m)))
 (hM5:MBk W5 mp es' clock) (hP5:prs es'=(prs es).set i (.string d.y.s,.pointer (some ⟨W3.heap.size+1,0,none⟩))) (hB5:es'.map (·.born)=es.map (·.born)) (hG5:((W3.alloc (.cells #[.slice X0 m z0,.slice X1 m z1,.slice X2 m z2] 96)).alloc (.cells #[.int .i64 (top:Nat),.slice (some ⟨W3.heap.size,0,none⟩) 1 1] 89)).grownBy W5 (some mp)):
 ∃d',d'.y=⟨d.y.s,top,[keepT l]⟩∧CatIs 89 80 W5 cp mp (E.set i d') es' clock∧CatFr cp mp E (E.set i d') W2 W5:=by
 have hk:=keepT_right hr
 have hW3:=hb3.size
 have hdE:=J7 hi
 obtain⟨x,hxd⟩:∃x:TabV,x=⟨keepT l,X0,z0,X1,z1,X2,z2⟩:=⟨_,rfl⟩
 have hcx:x.cells=[.slice X0 m z0,.slice X1 m z1,.slice X2 m z2]:=by
  rw[hxd,hk]
  show[Value.slice X0 l.length z0,Value.slice X1 l.length z1,Value.slice X2 (kM l.length).length z2]=_
  rw[kM_length,hm]
 have hrow0:(W3.alloc (.cells #[.slice X0 m z0,.slice X1 m z1,.slice X2 m z2] 96)).ownsRow 0 96 3 (.slice (some ⟨W3.heap.size,0,none⟩) 1 1) 1 [.slice X0 m z0,.slice X1 m z1,.slice X2 m z2]:=
  ⟨rfl,.inr ⟨_,1,#[.slice X0 m z0,.slice X1 m z1,.slice X2 m z2],rfl,X8 _,World.alloc_heap_new _ _,J9 _,by decide,rfl,rfl⟩⟩
 have hrow:=own_below hrow0 (below_new (.cells #[.int .i64 (top:Nat),.slice (some ⟨W3.heap.size,0,none⟩) 1 1] 89))
 have hbox:=OBox.new (W3.alloc (.cells #[.slice X0 m z0,.slice X1 m z1,.slice X2 m z2] 96)) [.int .i64 (top:Nat),.slice (some ⟨W3.heap.size,0,none⟩) 1 1] 89
 rw[Jq] at hbox
 obtain⟨d',hdd⟩:∃d':En,d'=⟨⟨d.y.s,top,[keepT l]⟩,W3.heap.size+1,.slice (some ⟨W3.heap.size,0,none⟩) 1 1,[x]⟩:=⟨_,rfl⟩
 have hhas:∀g,d'.has g→g=W3.heap.size+1∨g=W3.heap.size:=fun g hg=>by
  rw[hdd] at hg
  rcases hg with h1|h1
  ·exact .inl h1
  ·have h2:some W3.heap.size=some g:=h1
   exact .inr (Jj h2).symm
 have b2':Below W3.heap.size W3 ((W3.alloc (.cells #[.slice X0 m z0,.slice X1 m z1,.slice X2 m z2] 96)).alloc (.cells #[.int .i64 (top:Nat),.slice (some ⟨W3.heap.size,0,none⟩) 1 1] 89)):=below_seq (below_new _) (below_new _)
 have hz4:((W3.alloc (.cells #[.slice X0 m z0,.slice X1 m z1,.slice X2 m z2] 96)).alloc (.cells #[.int .i64 (top:Nat),.slice (some ⟨W3.heap.size,0,none⟩) 1 1] 89)).heap.size=W3.heap.size+2:=by simp
 have hmlt:=h2.mpLt
 have k5:∀g,g<W3.heap.size+2→g≠mp→W5.heap[g]?=((W3.alloc (.cells #[.slice X0 m z0,.slice X1 m z1,.slice X2 m z2] 96)).alloc (.cells #[.int .i64 (top:Nat),.slice (some ⟨W3.heap.size,0,none⟩) 1 1] 89)).heap[g]?:=fun g hg hn=>hG5.block g (by omega) (by intro e;exact hn (Jj e))
 have hdI4:d'.Is 89 ((W3.alloc (.cells #[.slice X0 m z0,.slice X1 m z1,.slice X2 m z2] 96)).alloc (.cells #[.int .i64 (top:Nat),.slice (some ⟨W3.heap.size,0,none⟩) 1 1] 89)):=by
  rw[hdd]
  refine⟨hbox,?_,by rw[hxd];rfl,fun g hg=>?_⟩
  rotate_left
  ·have h2:some W3.heap.size=some g:=hg
   cases h2
   exact AllC.of (((below_new (.cells #[.int .i64 (top:Nat),.slice (some ⟨W3.heap.size,0,none⟩) 1 1] 89)).block _ (by simp)).trans (World.alloc_heap_new _ _)) (by intro u hu;simp at hu;rcases hu with rfl|rfl|rfl <;> exact⟨_,_,_,rfl⟩)
  show World.ownsRow _ 0 _ 3 (.slice (some ⟨W3.heap.size,0,none⟩) 1 1) 1 (cellsT [x])
  have e:cellsT [x]=x.cells:=by simp[cellsT]
  rw[e,hcx]
  exact hrow
 have hdI:d'.Is 89 W5:=hdI4.keep fun g hg=>k5 g (by have:=hhas g hg;omega) (by have:=hhas g hg;omega)
 have hno:∀g,W2.heap.size≤g∧g<W3.heap.size→W2.heap.size≤g∧¬d'.has g:=fun g hg=>⟨hg.1,fun hc=>by have:=hhas g hc;omega⟩
 have kx:∀g,W2.heap.size≤g∧g<W3.heap.size→W5.heap[g]?=W3.heap[g]?:=fun g hg=>(k5 g (by omega) (by omega)).trans (b2'.block g hg.2)
 have q0:RdP (fun g=>W2.heap.size≤g∧g<W3.heap.size) W3 X0 (cellsF l):=RdP.mk R1 (fun ad e=>by have:=hBl ad e;exact⟨this.1,by omega⟩)
 have q1:RdP (fun g=>W2.heap.size≤g∧g<W3.heap.size) W3 X1 (cellsF l):=own_P own2 (fun g hg=>⟨by have:=own_base own2 g hg;omega,own_lt own2 g hg⟩)
 have q2:RdP (fun g=>W2.heap.size≤g∧g<W3.heap.size) W3 X2 (cellsM (kM m)):=own_P own3 (fun g hg=>⟨by have:=own_base own3 g hg;omega,own_lt own3 g hg⟩)
 have hxI:x.Is (fun g=>W2.heap.size≤g∧¬d'.has g) W5:=by
  rw[hxd]
  refine⟨?_,?_,?_,?_,?_⟩
  ·show RdP _ _ X0 (cellsF (keepT l).o);rw[hk];exact(q0.keep kx).mono hno
  ·show RdP _ _ X1 (cellsF (keepT l).n);rw[hk];exact(q1.keep kx).mono hno
  ·show RdP _ _ X2 (cellsM (keepT l).m);rw[hk];show RdP _ _ X2 (cellsM (kM l.length));rw[hm];exact(q2.keep kx).mono hno
  ·show(keepT l).o.length≤z0;rw[hk];show l.length≤z0;rw[hm];exact hd0
  ·show(keepT l).n.length≤z1;rw[hk];show l.length≤z1;rw[hm];exact u1
 have hnew:∀g,d'.has g→W2.heap.size≤g:=fun g hg=>by have:=hhas g hg;omega
 have hdy:d'.y=⟨d.y.s,top,[keepT l]⟩:=by rw[hdd]
 have hdp:d'.p=W3.heap.size+1:=by rw[hdd]
 have hdx:∀y∈d'.xs,y=x:=fun y hy=>by rw[hdd] at hy;simpa using hy
 have hblk:∀g,g<W2.heap.size→g≠mp→W5.heap[g]?=W2.heap[g]?:=fun g hg hn=>(k5 g (by omega) hn).trans ((b2'.block g (by omega)).trans (hb3.block g hg))
 refine⟨d',hdy,?_,?_⟩
 ·refine h2.turn hi (by rw[hdy]) hdI (fun g hg=>.inr (hnew g hg)) (fun y hy=>.inr (by rw[hdx y hy];exact hxI)) hM5 (fun y hy=>?_) (by rw[hB5];exact h2.b2) ?_ (fun g h3 _ h4=>hblk g h3 h4)
  ·have h3:y.born∈es'.map (·.born):=X5.2 ⟨y,hy,rfl⟩
   rw[hB5] at h3
   obtain⟨y',hy',e⟩:=X5.1 h3
   rw[←e]
   exact h2.b1 y' hy'
  ·rw[hP5,h2.prs,List.map_set,hdy,hdp]
 ·refine⟨hG5.os.trans (b2'.os.trans hb3.os),hG5.tape.trans (b2'.tape.trans hb3.tape),hG5.output.trans (b2'.output.trans hb3.output),by have:=hG5.size;omega,fun g h3 hu=>hblk g h3 hu.1,fun g h3 hu=>⟨hu.1,fun e he hh=>?_⟩⟩
  obtain⟨j,hj⟩:=Qq.1 he
  by_cases hji:j=i
  ·subst hji
   rw[List.getElem?_set_self (by have:=(J6.1 hi).1;omega)] at hj
   obtain rfl:=Jj hj
   have:=hnew g hh
   omega
  ·rw[X6 (by omega)] at hj
   exact hu.2 e (J7 hj) hh
theorem Retire_none {W:World} {cp mp:Nat} {E:List En} {es:List MapEntry} {clock:Nat} (h:CatIs 89 80 W cp mp E es clock) {nm:ByteArray} (hn:nm.size≤maxLen) (hf:findE E nm=none) (L:Option Addr) (cL nl:Nat):
 Calls Tryz.prog 20 #[.pointer (some ⟨cp,0,none⟩),.string nm,.slice L nl cL] W fun e w'=>e=.returned (.tuple #[.int .i64 0,.int .i64 90])∧Below W.heap.size W w':=by
 have hlk:=look_sort h hn
 rw[hf] at hlk
 obtain⟨b0,_⟩:=h.box.f1
 go_enter Tryz.func20,Tryz.ntmps20
 go_wp2
 refine bodyPost_ret (v:=.tuple #[.int .i64 0,.int .i64 90]) (by simp[results,Tryz.results20,go_sem, *];done) rfl ⟨rfl,Jy _ _⟩
theorem Retire_do {W:World} {cp mp:Nat} {E:List En} {es:List MapEntry} {clock:Nat} (h:CatIs 89 80 W cp mp E es clock) {nm:ByteArray} (hn:nm.size≤maxLen) (L:Option Addr) (cL nl:Nat) (q:List Int) (hnl:q.length=nl) (hl:nl≤9223372036854775807) (hL:Rd W L (cellsI q)) {d:En} (i:Nat) (hi:E[i]?=some d) (hf:findE E nm=some d) (hok:d.y.Ok) (u:Bool) (hu:useB d.y q=u):
 Calls Tryz.prog 20 #[.pointer (some ⟨cp,0,none⟩),.string nm,.slice L nl cL] W fun e w'=>
  (u=true∧e=.returned (.tuple #[.int .i64 0,.int .i64 93])∧Below W.heap.size W w')∨
  (u=false∧e=.returned (.tuple #[.int .i64 ((d.y.ts.length - 1:Nat):Int),.int .i64 0])∧∃d' es',d'.y=reY d.y∧CatIs 89 80 w' cp mp (E.set i d') es' clock∧CatFr cp mp E (E.set i d') W w'):=by
 have hlk0:=look_sort h hn
 rw[hf] at hlk0
 obtain⟨b0,_⟩:=h.box.f1
 have hdE:=(findE_mem hf).1
 have hnm:=(findE_mem hf).2
 have hd:=h.ents d hdE
 have hfree:=h.free d hdE
 obtain⟨g,c,n,ev,hnc2,hnl2,hsum,htop,hpos,hrd⟩:=En.open hd hok
 have hlen:d.y.ts.length=n:=by rw[←hd.tabs,Kz];exact hnl2
 have hbx:=hd.box
 rw[ev] at hbx
 obtain⟨k,hkn⟩:∃k,n=k+1:=⟨n - 1,by omega⟩
 obtain⟨x,hx⟩:∃x,d.xs[k]?=some x:=⟨_,J4 (by omega)⟩
 have hlast:d.y.last=x.t.n:=by
  have h1:d.y.ts.getLast?=some x.t:=by
   rw[←hd.tabs,List.getLast?_map,List.getLast?_eq_getElem?,hnl2,hkn,Nat.add_sub_cancel,hx]
   rfl
  rw[Ty.last,h1];rfl
 have hxI:=h.tabs d hdE x (J7 hx)
 have hrt:=(last_right hok).1
 rw[hlast] at hrt
 obtain⟨m,hm⟩:∃m,x.t.n.length=m:=⟨_,rfl⟩
 have hm16:m≤16:=by rw[←hm];exact(rightF_may hrt).2
 have hcb:=hxI.cb
 rw[hm] at hcb
 have hxn:=hxI.n
 have hkk:d.y.ts.length - 1=k:=by omega
 rw[hkk]
 obtain⟨old,hold⟩:∃y,d.y.old=y:=⟨_,rfl⟩
 obtain⟨top,ht⟩:∃y,d.y.top=y:=⟨_,rfl⟩
 rw[hold] at hbx hsum
 rw[ht] at hsum htop
 obtain⟨bp,hp⟩:∃p,d.p=p:=⟨_,rfl⟩
 simp only[hp] at hlk0
 rw[hp] at hbx
 have hbm:bp≠mp:=by rintro rfl;exact hfree.2 (.inl hp.symm)
 have hwr:IntKind.i64.wrap ((n:Int) - 1)=(k:Int):=(Xq _ (by omega)).trans (by omega)
 have k0:(0:Int)≤(k:Int):=by omega
 have k1:(k:Int)<(n:Int):=by omega
 have HB:=Jy W.heap.size W
 have huse:∀v:Int,(old:Int)≤v→v<(top:Int)→v∈q→u=true:=fun v h1 h2 h3=>by
  rw[←hu,useB,List.any_eq_true]
  exact⟨v,h3,by simp[hold,ht];omega⟩
 have hnouse:(∀v:Int,(old:Int)≤v→v<(top:Int)→v ∉ q)→u=false:=fun hh=>by
  rw[←hu,useB,List.any_eq_false]
  intro v hv hc
  simp[hold,ht] at hc
  exact hh v (by omega) (by omega) hv
 have hlow:old≤top:=by omega
 have hcc:=Rd.tab hrd hx
 rw[hm] at hcc
 have hcell:∀W',Below W.heap.size W W'→W'.cell? ⟨bp,1,none⟩=some (.slice (some ⟨g,0,none⟩) n c)∧W'.cell? ⟨bp,0,none⟩=some (.int .i64 (old:Nat))∧W'.cell? ⟨g,k * 3,none⟩=some (.slice x.A x.t.o.length x.a)∧W'.cell? ⟨g,k * 3+1,none⟩=some (.slice x.B m x.b)∧W'.cell? ⟨g,k * 3+2,none⟩=some (.slice x.C x.t.m.length x.c):=fun W' hb=>⟨(hbx.below hb).cell rfl,(hbx.below hb).cell rfl,cell_below (B:=0) hb hcc.1,cell_below (B:=0) hb hcc.2.1,cell_below (B:=0) hb hcc.2.2⟩
 obtain⟨c1,c0,c2,c3,c4⟩:=hcell W (Jy _ _)
 obtain⟨ao,hao⟩:∃y,x.t.o.length=y:=⟨_,rfl⟩
 obtain⟨am,ham⟩:∃y,x.t.m.length=y:=⟨_,rfl⟩
 rw[hao,ham] at hcell
 have HS:=J0 hsum;have HH:=J0 h;have HI:=J0 hi;have HOK:=J0 hok;have HM:=J0 hm;have HR:=J0 hrt;have HLA:=J0 hlast;have HOD:=J0 hold;have HTP:=J0 ht;have HP:=J0 hp;have HEV:=J0 ev;have HNL:=J0 hnl;have HKN:=J0 hkn;have HDE:=J0 hdE;have HUSE:=J0 huse;have HNO:=J0 hnouse;have HX:=J0 hx;have HC:=J0 hcell;have HNMQ:=J0 hnm;have HLEN:=J0 hlen;have HXN:=J0 hxn;have HXM:=J0 (J7 hx)
 clear hf hd hnl2 hold ht hok hsum hp h ev hm hlast hi hx hxI hrd hnl hu hkn hdE hrt huse hnouse hcell hnm hlen hxn hcc c2 c3 c4 hao ham hkk
 go_enter Tryz.func20,Tryz.ntmps20
 go_wp2_with fail
 have HB0:=HB
 clear HB c0 c1
 go_loopw [9] (fun i wr=>∃(v:Nat),old≤v∧v≤top∧i=.int .i64 (v:Nat)∧Below W.heap.size W wr∧Hid (∀y:Int,(old:Int)≤y→y<(v:Int)→y ∉ q)) (fun i _=>top - (intOf i).toNat)
 case atStart=>exact⟨old,J9 _,hlow,rfl,HB0,J0 (fun y h1 h2=>by omega)⟩
 case round=>
  obtain⟨v,hv0,hv1,rfl,HB,hno⟩:=hrel
  clear HB0
  by_cases hlt:v<top
  ·obtain⟨r,hr⟩:∃r,(q.any fun y=>decide (y=(v:Int)))=r:=⟨_,rfl⟩
   have HRR:=J0 hr
   have hv64:IntKind.i64.wrap ((v:Int)+1)=((v+1:Nat):Int):=(Xq _ (by omega)).trans (by omega)
   have hL2:=hL.below HB
   clear hr
   have HBr:=HB
   clear HB
   have HB:=HBr
   cases r
   ·go_wp2_with (first|(go_at_call 33;refine(newest_m bp old n _ c top HS.out (by omega) _ (hbx.below HB)).mono ?_;rintro e w1 ⟨rfl,hb⟩;replace HB:=HB.trans (hb.mono HB.size);clear hb)|(go_at_call 44;refine(ContainsI_m L cL nl q HNL.out (v:Int) _ (hL.below HB) hl).mono ?_;rw[HRR.out];rintro e w2 ⟨rfl,hb⟩;replace HB:=HB.trans (hb.mono HB.size);clear hb))
    go_roundw
    case rel=>
     refine⟨v+1,by omega,by omega,by go_num,HB,J0 (fun y h1 h2 hm=>?_)⟩
     rcases(by omega:y<(v:Int)∨y=(v:Int)) with h3|rfl
     ·exact hno.out y h1 h3 hm
     ·have:=List.any_eq_false.1 HRR.out _ hm
      simp at this
    case measure=>simp[intOf];omega
   ·have hut:u=true:=by
     obtain⟨y,hy,e⟩:=List.any_eq_true.1 HRR.out
     simp at e
     subst e
     exact HUSE.out _ (by omega) (by omega) hy
    go_wp2_with (first|(go_at_call 33;refine(newest_m bp old n _ c top HS.out (by omega) _ (hbx.below HB)).mono ?_;rintro e w1 ⟨rfl,hb⟩;replace HB:=HB.trans (hb.mono HB.size);clear hb)|(go_at_call 44;refine(ContainsI_m L cL nl q HNL.out (v:Int) _ (hL.below HB) hl).mono ?_;rw[HRR.out];rintro e w2 ⟨rfl,hb⟩;replace HB:=HB.trans (hb.mono HB.size);clear hb))
    refine bodyPost_ret (v:=.tuple #[.int .i64 0,.int .i64 93]) (by simp[results,Tryz.results20,go_sem, *];done) rfl (.inl ⟨hut,rfl,HB⟩)
  ·obtain rfl:top=v:=by omega
   have huf:u=false:=HNO.out hno.out
   clear hno hlow hv0 hv1 hlt
   go_upto_region 9 with (go_at_call 33;refine(newest_m bp old n _ c top HS.out (by omega) _ (hbx.below HB)).mono ?_;rintro e w1 ⟨rfl,hb⟩;replace HB:=HB.trans (hb.mono HB.size);clear hb)
   rename World=>W1
   obtain⟨c1,c0,c2,c3,c4⟩:=HC.out _ HB
   have nb:=below_new (w:=W1) (.cells #[.slice x.A ao x.a,.slice x.B m x.b,.slice x.C am x.c] 96)
   have P:=OBox.new W1 [.slice x.A ao x.a,.slice x.B m x.b,.slice x.C am x.c] 96
   go_upto_region 11 with fail
   generalize W1.alloc (.cells #[.slice x.A ao x.a,.slice x.B m x.b,.slice x.C am x.c] 96)=W2 at *
   have HB2:=HB.trans (nb.mono HB.size)
   clear c0 c1 c2 c3 c4
   generalize W1.heap.size=q0 at *
   have h2:=HH.out.below HB2
   have hcm:=h2.cpmp
   have hq0:q0≠mp:=by
    rintro rfl
    have hm2:=h2.map
    unfold MBk at hm2
    unfold OBox at P
    rw[P] at hm2
    cases hm2
   have hbx2:=hbx.below HB2
   have hbO:∀W',Only (some mp) none W2 W'→OBox W' bp [.int .i64 (old:Nat),.slice (some ⟨g,0,none⟩) n c] 89:=fun W' hO=>hbx2.only hO (by intro e;exact hbm (Jj e)) (by simp)
   have hall:∀W',Only (some mp) none W2 W'→W'.cell? ⟨cp,0,none⟩=some (.map (some mp))∧W'.cell? ⟨q0,1,none⟩=some (.slice x.B m x.b)∧Only (some mp) none W2 W':=fun W' hO=>⟨(h2.box.only hO (by simpa using hcm) (by simp)).f1.1,(P.only hO (by simpa using hq0) (by simp)).cell rfl,hO⟩
   have hxI2:=h2.tabs d HDE.out x HXM.out
   have hxO:∀W',Only (some mp) none W2 W'→Rd W' x.B (cellsF x.t.n):=fun W' hO=>(hxI2.n.lt.keep (fun g hg=>hO.block g hg.2 (by intro e;exact hg.1.2.2 (Jj e)) (by simp))).rd
   have H2:=J0 h2
   have HPI:Hid ((prs es)[i]?=some (.string nm,.pointer (some ⟨bp,0,none⟩))):=J0 (by rw[h2.prs,Kv,HI.out,←HNMQ.out,←HP.out];rfl)
   have HU:Hid (∀(j:Nat) (y:MapEntry),es[j]?=some y→y.key=.string nm→j=i):=J0 (fun j y hj he=>key_at h2 HI.out HNMQ.out hj he)
   clear h2 hxI2
   obtain⟨lk,hlk⟩:=key_string (P:=Tryz.prog) Tryz.underlying9 hn
   refine wp_region_noPanic ?_
   refine wp_region_held_drew (S:=(fun W'=>W'.cell? ⟨cp,0,none⟩=some (.map (some mp))∧W'.cell? ⟨q0,1,none⟩=some (.slice x.B m x.b)∧Only (some mp) none W2 W')) (by kernel_rfl) ?_ (fun hHeld=>?_)
   ·(refine hall _ ?_;repeat (first|assumption|exact Only.refl _ _ _|apply Only.drew|refine Only.seq ?_ (below_new _)))
   refine wpAnyH_take (i:=0) (oi:=_) (v:=?_) rfl (by kernel_rfl) (by kernel_rfl) (by kernel_rfl) (fun _ _ _ h=>h) (Or.inl ⟨by rfl,?_⟩) hHeld ?_
   rotate_left
   ·(intro w hSw;(try dsimp only at hSw);go_simp;first|done|with_reducible rfl)
   try simp only[Act.put,J1,J3,J2,Ky,K9,Jz]
   refine wpAnyH_take (i:=1) (oi:=_) (v:=?_) rfl (by kernel_rfl) (by kernel_rfl) (by kernel_rfl) (fun _ _ _ h=>h) (Or.inl ⟨by rfl,?_⟩) hHeld ?_
   rotate_left
   ·(intro w hSw;(try dsimp only at hSw);go_simp;first|done|with_reducible rfl)
   try simp only[Act.put,J1,J3,J2,Ky,K9,Jz]
   refine wpAnyH_take (i:=2) (oi:=_) (v:=?_) rfl (by kernel_rfl) (by kernel_rfl) (by kernel_rfl) (fun _ _ _ h=>h) (Or.inl ⟨by rfl,?_⟩) hHeld ?_
   rotate_left
   ·(intro w hSw;(try dsimp only at hSw);go_simp;first|done|with_reducible rfl)
   try simp only[Act.put,J1,J3,J2,Ky,K9,Jz]
   refine wpAnyH_take (i:=3) (oi:=_) (v:=?_) rfl (by kernel_rfl) (by kernel_rfl) (by kernel_rfl) (fun _ _ _ h=>h) (Or.inl ⟨by rfl,?_⟩) hHeld ?_
   rotate_left
   ·(intro w hSw;(try dsimp only at hSw);go_simp;first|done|with_reducible rfl)
   try simp only[Act.put,J1,J3,J2,Ky,K9,Jz]
   refine wpAnyH_take (i:=4) (oi:=_) (v:=?_) rfl (by kernel_rfl) (by kernel_rfl) (by kernel_rfl) (fun _ _ _ h=>h) (Or.inl ⟨by rfl,?_⟩) hHeld ?_
   rotate_left
   ·(intro w hSw;(try dsimp only at hSw);go_simp;first|done|with_reducible rfl)
   try simp only[Act.put,J1,J3,J2,Ky,K9,Jz]
   refine wpAnyH_take (i:=5) (oi:=_) (v:=?_) rfl (by kernel_rfl) (by kernel_rfl) (by kernel_rfl) (fun _ _ _ h=>h) (Or.inl ⟨by rfl,?_⟩) hHeld ?_
   rotate_left
   ·(intro w hSw;(try dsimp only at hSw);go_simp;first|done|with_reducible rfl)
   try simp only[Act.put,J1,J3,J2,Ky,K9,Jz]
   refine wpAnyH_take (i:=7) (oi:=_) (v:=?_) rfl (by kernel_rfl) (by kernel_rfl) (by kernel_rfl) (fun _ _ _ h=>h) (Or.inl ⟨by rfl,?_⟩) hHeld ?_
   rotate_left
   ·(intro w hSw;(try dsimp only at hSw);go_simp;first|done|with_reducible rfl)
   try simp only[Act.put,J1,J3,J2,Ky,K9,Jz]
   refine wpAnyH_take (i:=8) (oi:=_) (v:=?_) rfl (by kernel_rfl) (by kernel_rfl) (by kernel_rfl) (fun _ _ _ h=>h) (Or.inl ⟨by rfl,?_⟩) hHeld ?_
   rotate_left
   ·(intro w hSw;(try dsimp only at hSw);go_simp;first|done|with_reducible rfl)
   try simp only[Act.put,J1,J3,J2,Ky,K9,Jz]
   refine wpAnyH_ready (rs:=[6]) (by kernel_rfl) (by simp) ?_
   refine AllReadyH.cons (o:=_) rfl (fun K hK=>?_) AllReadyH.nil
   go_simp
   (go_at_call 33;obtain⟨_,_,HOx⟩:=hHeld;refine(newest_m bp old n _ c top HS.out (by omega) _ (hbO _ HOx)).mono ?_;rintro e wN ⟨rfl,hbN⟩;replace HOx:=Only.seq HOx hbN;have hbA:=Below.undrewS hbN)
   try (go_wp2_with fail)
   refine hK.out _ _ ?_ (fun hHeld=>?_)
   ·(try dsimp only);(refine hall _ ?_;repeat (first|assumption|exact Only.refl _ _ _|apply Only.drew|refine Only.seq ?_ (below_new _)))
   clear hK K
   try simp only[Act.put,J1,J3,J2,Ky,K9,Jz]
   refine wpAnyH_ready (rs:=[9]) (by kernel_rfl) (by simp) ?_
   refine AllReadyH.cons (o:=_) rfl (fun K hK=>?_) AllReadyH.nil
   go_simp
   (go_at_call 45;obtain⟨_,_,HOy⟩:=hHeld;refine(TSame_cap x.B x.b m x.t.n HM.out HR.out _ (hxO _ HOy) (by omega) hcb).mono ?_;rintro e W3 ⟨X0,z0,v2,v3,b1,b2,rfl,hd0,hb1,hb12,hb2,R1,hBl,own2,lt2,own3,hbS⟩;have HO3:=Only.seq HOy hbS;have hbB:=below_seq hbA hbS;have hb1A:=Q7 hbA.size hb1;have hBlA:=fun ad (e:X0=some ad)=>(⟨Q7 hbA.size (hBl ad e).1,(hBl ad e).2⟩:W2.heap.size≤ad.block∧ad.block<b1);obtain⟨X1,z1,rfl,u1,u2,r1⟩:=own_rd own2;obtain⟨X2,z2,rfl,u4,u5,r2⟩:=own_rd own3)
   try (go_wp2_with fail)
   refine hK.out _ _ ?_ (fun hHeld=>?_)
   ·(try dsimp only);(refine hall _ ?_;repeat (first|assumption|exact Only.refl _ _ _|apply Only.drew|refine Only.seq ?_ (below_new _)))
   clear hK K
   try simp only[Act.put,J1,J3,J2,Ky,K9,Jz]
   refine wpAnyH_ready (rs:=[10]) (by kernel_rfl) (by simp) ?_
   refine AllReadyH.cons (o:=_) rfl (fun K hK=>?_) AllReadyH.nil
   go_simp
   refine hK.out _ _ ?_ (fun hHeld=>?_)
   ·(try dsimp only);(refine hall _ ?_;repeat (first|assumption|exact Only.refl _ _ _|apply Only.drew|refine Only.seq ?_ (below_new _)))
   clear hK K
   try simp only[Act.put,J1,J3,J2,Ky,K9,Jz]
   refine wpAnyH_take (i:=11) (oi:=_) (v:=?_) rfl (by kernel_rfl) (by kernel_rfl) (by kernel_rfl) (fun _ _ _ h=>h) (Or.inl ⟨by rfl,?_⟩) hHeld ?_
   rotate_left
   ·(intro w hSw;(try dsimp only at hSw);go_simp;first|done|with_reducible rfl)
   try simp only[Act.put,J1,J3,J2,Ky,K9,Jz]
   refine wpAnyH_ready (rs:=[12]) (by kernel_rfl) (by simp) ?_
   refine AllReadyH.cons (o:=_) rfl (fun K hK=>?_) AllReadyH.nil
   go_simp
   refine hK.out _ _ ?_ (fun hHeld=>?_)
   ·(try dsimp only);(refine hall _ ?_;repeat (first|assumption|exact Only.refl _ _ _|apply Only.drew|refine Only.seq ?_ (below_new _)))
   clear hK K
   try simp only[Act.put,J1,J3,J2,Ky,K9,Jz]
   refine wpAnyH_ready (rs:=[13]) (by kernel_rfl) (by simp) ?_
   refine AllReadyH.cons (o:=_) rfl (fun K hK=>?_) AllReadyH.nil
   have HZ3:=HO3.size
   obtain⟨W4,hW4⟩:∃W4,W4=(W3.alloc (.cells #[.slice X0 m z0,.slice X1 m z1,.slice X2 m z2] 96)).alloc (.cells #[.int .i64 (top:Nat),.slice (some ⟨W3.heap.size,0,none⟩) 1 1] 89):=⟨_,rfl⟩
   have hb4:Below W3.heap.size W3 W4:=by rw[hW4];exact below_seq (below_new _) (below_new _)
   have HO4:Only (some mp) none W2 W4:=Only.seq HO3 hb4
   have hb24:=below_seq hbB hb4
   have hmap4:MBk W4 mp es clock:=H2.out.map.below hb24
   obtain⟨W5,es',hrun,hM5,hP5,hB5,hG5,hZ5⟩:=map_replace (e:=86) (string_keyed Tryz.underlying9) Tryz.underlying78 hmap4 (H2.out.keys Tryz.underlying9) (val:=.pointer (some ⟨W3.heap.size+1,0,none⟩)) hlk HPI.out HU.out
   have HO5:=Only.grown HO4 hG5 (.inl rfl)
   rw[hW4] at hrun
   go_simp
   refine hK.out _ _ ?_ (fun hHeld=>?_)
   ·(try dsimp only);(refine hall _ ?_;repeat (first|assumption|exact Only.refl _ _ _|apply Only.drew|refine Only.seq ?_ (below_new _)))
   clear hK K
   try simp only[Act.put,J1,J3,J2,Ky,K9,Jz]
   refine wpAnyH_done (by kernel_rfl) ?_ _
   refine NoPanic.normal ?_
   go_wp2_with fail
   obtain⟨d',hdy,hcat,hfr⟩:=retire_fin (top:=top) H2.out HI.out hbB HM.out HR.out hd0 u1 hb1A hb12 hb2 R1.rd hBlA own2 own3 hM5 (by rw[HNMQ.out];exact hP5) hB5 (by rw[hW4] at hG5;exact hG5)
   refine bodyPost_ret (v:=.tuple #[.int .i64 (k:Int),.int .i64 0]) (by simp[results,Tryz.results20,go_sem, *];done) rfl ?_
   have hdz:d'.y=reY d.y:=by rw[hdy,reY,HLA.out,HTP.out]
   first
    |exact⟨rfl,d',hdz,⟨es',hcat⟩,CatFr.after HB2 hfr⟩
    |exact .inr ⟨huf,rfl,d',es',hdz,hcat,CatFr.after HB2 hfr⟩
end
end Go.Proofs.YteembinfgbapgaaGreat
