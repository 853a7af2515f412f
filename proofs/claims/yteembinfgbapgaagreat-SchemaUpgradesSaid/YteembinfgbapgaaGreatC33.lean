/- Merged out of: Tg Th Ti Tl. -/
import Derived.Test.YteembinfgbapgaaGreatC00
import Derived.Test.YteembinfgbapgaaGreatC32
import Derived.Test.YteembinfgbapgaaGreatC28
import Derived.Deep.RegionHeld3
set_option linter.unusedSimpArgs false
set_option linter.unusedVariables false
set_option maxRecDepth 100000
set_option maxHeartbeats 8000000
namespace Go.Proofs.YteembinfgbapgaaGreat
section
open Go.RowKit Go.Lib Go.Maps
theorem CatIs.mpLt {ST CT:TypeId} {W:World} {cp mp:Nat} {E:List En} {es:List MapEntry} {clock:Nat} (h:CatIs ST CT W cp mp E es clock):mp<W.heap.size:=(Qk.1 h.map).1
theorem CatIs.cpmp {ST CT:TypeId} {W:World} {cp mp:Nat} {E:List En} {es:List MapEntry} {clock:Nat} (h:CatIs ST CT W cp mp E es clock):cp≠mp:=by
 rintro rfl
 have h1:=h.box
 have h2:=h.map
 unfold OBox at h1
 unfold MBk at h2
 rw[h1] at h2
 cases h2
theorem CatIs.ins {ST CT:TypeId} {W W1 W2:World} {cp mp:Nat} {E:List En} {es:List MapEntry} {clock:Nat} (h:CatIs ST CT W cp mp E es clock) (hb:Below W.heap.size W W1) {d:En} (hd:d.Is ST W1) (hnew:∀g,d.has g→W.heap.size≤g) (hx:∀x∈d.xs,x.Is (fun g=>((∀d'∈E,¬d'.has g)∧g≠cp∧g≠mp)∧¬d.has g) W1)
 (hm:MBk W2 mp (es++[ent (.string d.y.s) (.pointer (some ⟨d.p,0,none⟩)) clock]) (clock+1)) (hg:∀g,g<W1.heap.size→g≠mp→W2.heap[g]?=W1.heap[g]?) (hn:∀e∈E,e.y.s≠d.y.s) (hsm:d.y.s.size≤maxLen):CatIs ST CT W2 cp mp (E++[d]) (es++[ent (.string d.y.s) (.pointer (some ⟨d.p,0,none⟩)) clock]) (clock+1):=by
 have hmp:=h.mpLt
 have hcp:=h.box.lt
 have hne:=h.cpmp
 have hz:=hb.size
 have kp:∀g,g<W.heap.size→g≠mp→W2.heap[g]?=W.heap[g]?:=fun g h1 h2=>(hg g (by omega) h2).trans (hb.block g h1)
 refine⟨(kp cp hcp hne).trans h.box,hm,?_,?_,?_,?_,?_,?_,?_,?_,?_⟩
 ·intro x hx
  rcases X7.1 hx with h1|h1
  ·have:=h.b1 x h1;omega
  ·simp at h1;subst h1;show clock<clock+1;omega
 ·rw[List.map_append,List.nodup_append]
  refine⟨h.b2,by simp,fun a ha b hb2=>?_⟩
  simp[ent] at hb2;subst hb2
  obtain⟨x,hx,rfl⟩:=X5.1 ha
  have:=h.b1 x hx
  show x.born≠_
  omega
 ·have:=h.prs
  simp only[Go.Proofs.YteembinfgbapgaaGreat.prs,List.map_append] at this ⊢
  rw[this]
  rfl
 ·intro e he
  rcases X7.1 he with h1|h1
  ·exact(h.ents e h1).keep (fun g hgg=>kp g (En.lt (h.ents e h1) hgg) (by rintro rfl;exact(h.free e h1).2 hgg))
  ·simp at h1;subst h1
   exact hd.keep (fun g hgg=>hg g (En.lt hd hgg) (by have:=hnew g hgg;omega))
 ·rw[List.map_append,List.nodup_append]
  refine⟨h.names,by simp,fun a ha b hb2=>?_⟩
  simp at hb2;subst hb2
  obtain⟨e,he,rfl⟩:=X5.1 ha
  exact hn e he
 ·intro e he
  rcases X7.1 he with h1|h1
  ·exact h.small e h1
  ·simp at h1;subst h1;exact hsm
 ·rw[List.pairwise_append]
  refine⟨h.apart,by simp,fun a ha b hb2 g h1 h2=>?_⟩
  simp at hb2;subst hb2
  have:=En.lt (h.ents a ha) h1
  have:=hnew g h2
  omega
 ·intro e he
  rcases X7.1 he with h1|h1
  ·exact h.free e h1
  ·simp at h1;subst h1
   exact⟨fun hc=>by have:=hnew _ hc;omega,fun hc=>by have:=hnew _ hc;omega⟩
 ·intro e he x hxe
  rcases X7.1 he with h1|h1
  ·refine((h.tabs e h1 x hxe).lt.keep (fun g hgg=>kp g hgg.2 hgg.1.2.2)).mono (fun g hgg=>⟨fun d' hd'=>?_,hgg.1.2⟩)
   rcases X7.1 hd' with h2|h2
   ·exact hgg.1.1 d' h2
   ·simp at h2;subst h2
    intro hc
    have:=hnew g hc
    omega
  ·simp at h1;subst h1
   refine((hx x hxe).lt.keep (fun g hgg=>hg g hgg.2 hgg.1.1.2.2)).mono (fun g hgg=>⟨fun d' hd'=>?_,hgg.1.1.2⟩)
   rcases X7.1 hd' with h2|h2
   ·exact hgg.1.1.1 d' h2
   ·simp at h2;subst h2;exact hgg.1.2
theorem CatIs.insert {ST CT:TypeId} {W W1 W2:World} {cp mp:Nat} {E:List En} {es:List MapEntry} {clock:Nat} (h:CatIs ST CT W cp mp E es clock) (hb:Below W.heap.size W W1) {d:En} (hd:d.Is ST W1) (hnew:∀g,d.has g→W.heap.size≤g) (hx:∀x∈d.xs,x.Is (fun g=>W.heap.size≤g∧¬d.has g) W1)
 (hm:MBk W2 mp (es++[ent (.string d.y.s) (.pointer (some ⟨d.p,0,none⟩)) clock]) (clock+1)) (hg:∀g,g<W1.heap.size→g≠mp→W2.heap[g]?=W1.heap[g]?) (hn:∀e∈E,e.y.s≠d.y.s) (hsm:d.y.s.size≤maxLen):CatIs ST CT W2 cp mp (E++[d]) (es++[ent (.string d.y.s) (.pointer (some ⟨d.p,0,none⟩)) clock]) (clock+1):=
 h.ins hb hd hnew (fun x hxm=>(hx x hxm).mono fun g hg=>⟨⟨fun e he hc=>by have:=En.lt (h.ents e he) hc;omega,by have:=h.box.lt;omega,by have:=h.mpLt;omega⟩,hg.2⟩) hm hg hn hsm
theorem CatIs.turn {ST CT:TypeId} {W W2:World} {cp mp:Nat} {E:List En} {es es':List MapEntry} {clock clock':Nat} (h:CatIs ST CT W cp mp E es clock) {i:Nat} {d d':En} (hi:E[i]?=some d) (hs:d'.y.s=d.y.s) (hd:d'.Is ST W2) (hnew:∀g,d'.has g→d.has g∨W.heap.size≤g) (hx:∀x∈d'.xs,x∈d.xs∨x.Is (fun g=>W.heap.size≤g∧¬d'.has g) W2)
 (hm:MBk W2 mp es' clock') (hb1:∀x∈es',x.born<clock') (hb2:(es'.map (·.born)).Nodup) (hp:Go.Proofs.YteembinfgbapgaaGreat.prs es'=(E.set i d').map fun d=>(Value.string d.y.s,Value.pointer (some ⟨d.p,0,none⟩))) (hg:∀g,g<W.heap.size→¬d.has g→g≠mp→W2.heap[g]?=W.heap[g]?):CatIs ST CT W2 cp mp (E.set i d') es' clock':=by
 have hmp:=h.mpLt
 have hcp:=h.box.lt
 have hne:=h.cpmp
 have hdE:d∈E:=J7 hi
 have hil:i<E.length:=(J6.1 hi).1
 have hother:∀j e,E[j]?=some e→j≠i→∀g,e.has g→¬d.has g:=fun j e hj hji g h1 h2=>by
  have hjl:=(J6.1 hj).1
  have ej:E[j]'hjl=e:=(J6.1 hj).2
  have ei:E[i]'hil=d:=(J6.1 hi).2
  have hpw:=List.pairwise_iff_getElem.1 h.apart
  rcases(by omega:j<i∨i<j) with hlt|hlt
  ·have:=hpw j i hjl hil hlt g
   rw[ej,ei] at this
   exact this h1 h2
  ·have:=hpw i j hil hjl hlt g
   rw[ej,ei] at this
   exact this h2 h1
 have mem:∀e,e∈E.set i d'→e=d'∨∃j,j≠i∧E[j]?=some e:=fun e he=>by
  obtain⟨j,hj⟩:=Qq.1 he
  by_cases hji:j=i
  ·subst hji
   rw[List.getElem?_set_self hil] at hj
   exact .inl (Jj hj).symm
  ·rw[X6 (by omega)] at hj
   exact .inr ⟨j,hji,hj⟩
 refine⟨(hg cp hcp (h.free d hdE).1 hne).trans h.box,hm,hb1,hb2,hp,?_,?_,?_,?_,?_,?_⟩
 ·intro e he
  rcases mem e he with rfl|⟨j,hji,hj⟩
  ·exact hd
  ·have heE:=J7 hj
   exact(h.ents e heE).keep (fun g hgg=>hg g (En.lt (h.ents e heE) hgg) (hother j e hj hji g hgg) (by rintro rfl;exact(h.free e heE).2 hgg))
 ·rw[List.map_set]
  have:(E.map (·.y.s)).set i d'.y.s=E.map (·.y.s):=by
   rw[hs]
   apply Xv
   intro n
   by_cases hn:i=n
   ·subst hn
    rw[List.getElem?_set_self (by simpa using hil),Kv,hi];rfl
   ·rw[X6 hn]
  rw[this]
  exact h.names
 ·intro e he
  rcases mem e he with rfl|⟨j,hji,hj⟩
  ·rw[hs];exact h.small d hdE
  ·exact h.small e (J7 hj)
 ·rw[List.pairwise_iff_getElem]
  intro a b ha hb hab g h1 h2
  have ha':a<E.length:=by simpa using ha
  have hb':b<E.length:=by simpa using hb
  have hpw:=List.pairwise_iff_getElem.1 h.apart
  by_cases hai:a=i
  ·subst hai
   rw[List.getElem_set_self] at h1
   rw[List.getElem_set_ne (by omega)] at h2
   rcases hnew g h1 with h3|h3
   ·exact hother b _ (J4 hb') (by omega) g h2 h3
   ·have:=En.lt (h.ents _ (List.getElem_mem hb')) h2
    omega
  ·rw[List.getElem_set_ne (by omega)] at h1
   by_cases hbi:b=i
   ·subst hbi
    rw[List.getElem_set_self] at h2
    rcases hnew g h2 with h3|h3
    ·exact hother a _ (J4 ha') (by omega) g h1 h3
    ·have:=En.lt (h.ents _ (List.getElem_mem ha')) h1
     omega
   ·rw[List.getElem_set_ne (by omega)] at h2
    exact hpw a b ha' hb' hab g h1 h2
 ·intro e he
  rcases mem e he with rfl|⟨j,hji,hj⟩
  ·refine⟨fun hc=>?_,fun hc=>?_⟩
   ·rcases hnew _ hc with h3|h3
    ·exact(h.free d hdE).1 h3
    ·omega
   ·rcases hnew _ hc with h3|h3
    ·exact(h.free d hdE).2 h3
    ·omega
  ·exact h.free e (J7 hj)
 ·have old:∀e∈E,∀x∈e.xs,x.Is (fun g=>(∀d''∈E.set i d',¬d''.has g)∧g≠cp∧g≠mp) W2:=fun e he x hxe=>by
   refine((h.tabs e he x hxe).lt.keep (fun g hgg=>hg g hgg.2 (hgg.1.1 d hdE) hgg.1.2.2)).mono (fun g hgg=>⟨fun d'' hd''=>?_,hgg.1.2⟩)
   rcases mem d'' hd'' with rfl|⟨j,hji,hj⟩
   ·intro hc
    rcases hnew g hc with h3|h3
    ·exact hgg.1.1 d hdE h3
    ·omega
   ·exact hgg.1.1 d'' (J7 hj)
  intro e he x hxe
  rcases mem e he with rfl|⟨j,hji,hj⟩
  ·rcases hx x hxe with h1|h1
   ·exact old d hdE x h1
   ·refine h1.mono (fun g hgg=>⟨fun d'' hd''=>?_,by have:=hgg.1;omega,by have:=hgg.1;omega⟩)
    rcases mem d'' hd'' with rfl|⟨j,hji,hj⟩
    ·exact hgg.2
    ·intro hc
     have:=En.lt (h.ents d'' (J7 hj)) hc
     have:=hgg.1
     omega
  ·exact old e (J7 hj) x hxe
theorem set_prs {E:List En} {i:Nat} {d d':En} (hi:E[i]?=some d) (hs:d'.y.s=d.y.s) (hp:d'.p=d.p):((E.set i d').map fun d=>(Value.string d.y.s,Value.pointer (some ⟨d.p,0,none⟩)))=E.map fun d=>(Value.string d.y.s,Value.pointer (some ⟨d.p,0,none⟩)):=by
 rw[List.map_set,hs,hp]
 apply Xv
 intro n
 by_cases hn:i=n
 ·subst hn
  rw[List.getElem?_set_self (by simpa using(J6.1 hi).1),Kv,hi];rfl
 ·rw[X6 hn]
def Solid (cs:List Value):Prop:=cs=[]∨(∃s r,cs=Value.string s :: r)∨∃k i l j r,cs=Value.int k i :: Value.int l j :: r
def Unowned (E:List En) (mp g:Nat):Prop:=g≠mp∧∀d∈E,¬d.has g
theorem CatIs.solid {ST CT:TypeId} {W:World} {cp mp:Nat} {E:List En} {es:List MapEntry} {clock:Nat} (h:CatIs ST CT W cp mp E es clock) {A:Option Addr} {cs:List Value} (hA:Rd W A cs) (hs:Solid cs):RdP (Unowned E mp) W A cs:=by
 intro hn
 obtain⟨ad,e,hc⟩:=hA hn
 refine⟨ad,e,?_,hc⟩
 have hadd:∀j,(ad.add j).block=ad.block:=fun j=>by unfold Addr.add;split <;> rfl
 have h0:∃u,cs[0]?=some u:=by cases cs with|nil=>exact absurd rfl hn|cons u r=>exact⟨u,rfl⟩
 obtain⟨u0,hu0⟩:=h0
 have c0:=hc 0 u0 hu0
 have sl0:¬SlV u0:=by
  rintro ⟨a,b,c,rfl⟩
  rcases hs with rfl|⟨s,r,rfl⟩|⟨k,i,l,j,r,rfl⟩
  ·exact hn rfl
  ·simp at hu0
  ·simp at hu0
 refine⟨fun hm=>?_,fun d hd hh=>?_⟩
 ·have hb:W.heap[(ad.add 0).block]?=some (.map es.toArray clock):=by rw[hadd,hm];exact h.map
  simp[World.cell?,hb] at c0
 ·have hI:=h.ents d hd
  rcases hh with hp|hv
  ·have hbx:=hI.box
   unfold OBox at hbx
   have hb:∀j,W.heap[(ad.add j).block]?=some (.cells #[.int .i64 (d.y.old:Nat),d.v] ST):=fun j=>by rw[hadd,hp];exact hbx
   have get:∀j u,cs[j]?=some u→(ad.add j).spot=none∧(#[Value.int .i64 (d.y.old:Nat),d.v]:Array Value)[(ad.add j).off]?=some u:=fun j u hj=>by
    have:=hc j u hj
    simp only[World.cell?,hb j] at this
    split at this
    ·cases this
    ·rename_i h2
     exact⟨by simpa using h2,this⟩
   have hv2:SlV d.v:=by
    rcases hI.row.2 with ⟨e2,_⟩|⟨g,cap,cur,e2,_⟩ <;> exact⟨_,_,_,e2⟩
   obtain⟨g0,g1⟩:=get 0 u0 hu0
   have off0:(ad.add 0).off=0:=by
    rcases Nat.lt_or_ge (ad.add 0).off 1 with h1|h1
    ·omega
    ·have hlt:=(Qk.1 g1).1
     simp at hlt
     have h2:(ad.add 0).off=1:=by omega
     rw[h2] at g1
     have h3:d.v=u0:=by simpa using g1
     exact absurd (h3▸hv2) sl0
   rw[off0] at g1
   have hu:u0=.int .i64 (d.y.old:Nat):=by simpa using g1.symm
   rcases hs with rfl|⟨s,r,rfl⟩|⟨k,i,l,j,r,rfl⟩
   ·exact hn rfl
   ·simp at hu0;rw[←hu0] at hu;cases hu
   ·obtain⟨_,q1⟩:=get 1 (.int l j) rfl
    have o1:(ad.add 1).off=1:=by
     have:(ad.add 1).off=(ad.add 0).off+1:=by unfold Addr.add;simp
     omega
    rw[o1] at q1
    have:d.v=.int l j:=by simpa using q1
    obtain⟨a,b,c,e3⟩:=hv2
    rw[e3] at this
    cases this
  ·have hall:=hI.sl _ hv
   have hspot:(ad.add 0).spot=none:=by
    cases hx:(ad.add 0).spot with
    |none=>rfl
    |some q=>
     unfold World.cell? at c0
     rw[hx] at c0
     split at c0 <;> simp at c0
   refine sl0 (hall (ad.add 0).off u0 ?_)
   have e4:(ad.add 0)=⟨ad.block,(ad.add 0).off,none⟩:=by
    cases hx:ad.add 0 with
    |mk b o s=>
     rw[hx] at hspot
     have:=hadd 0
     rw[hx] at this
     simp at hspot this ⊢
     exact⟨this,hspot⟩
   rw[←e4]
   exact c0
structure CatFr (cp mp:Nat) (E E':List En) (W W':World):Prop where
 os:W'.os=W.os
 tape:W'.tape=W.tape
 output:W'.output=W.output
 size:W.heap.size≤W'.heap.size
 block:∀g,g<W.heap.size→Unowned E mp g→W'.heap[g]?=W.heap[g]?
 new:∀g,g<W.heap.size→Unowned E mp g→Unowned E' mp g
theorem CatFr.refl (cp mp:Nat) (E:List En) (W:World):CatFr cp mp E E W W:=⟨rfl,rfl,rfl,J9 _,fun _ _ _=>rfl,fun _ _ h=>h⟩
theorem CatFr.of {cp mp:Nat} {E:List En} {W W':World} (h:Below W.heap.size W W'):CatFr cp mp E E W W':=⟨h.os,h.tape,h.output,h.size,fun g hg _=>h.block g hg,fun _ _ h=>h⟩
theorem CatFr.low {cp mp:Nat} {E E':List En} {W W':World} (h:CatFr cp mp E E' W W') {B:Nat} (hB:B≤W.heap.size) (hm:B≤mp) (ho:∀d∈E,∀g,d.has g→B≤g):Below B W W':=
 ⟨h.os,h.tape,h.output,h.size,fun g hg=>h.block g (by omega) ⟨by omega,fun d hd hh=>by have:=ho d hd g hh;omega⟩⟩
theorem CatFr.rdP {cp mp:Nat} {E E':List En} {W W':World} (h:CatFr cp mp E E' W W') {A:Option Addr} {cs:List Value} (hA:RdP (Unowned E mp) W A cs):RdP (Unowned E' mp) W' A cs:=
 (hA.lt.keep (fun g hg=>h.block g hg.2 hg.1)).mono (fun g hg=>h.new g hg.2 hg.1)
theorem CatFr.solid {ST CT:TypeId} {W W':World} {cp mp:Nat} {E E':List En} {es:List MapEntry} {clock:Nat} (hc:CatIs ST CT W cp mp E es clock) (h:CatFr cp mp E E' W W') {A:Option Addr} {cs:List Value} (hA:Rd W A cs) (hs:Solid cs):Rd W' A cs:=(h.rdP (hc.solid hA hs)).rd
theorem CatFr.trans {cp mp:Nat} {E E' E'':List En} {W W' W'':World} (h:CatFr cp mp E E' W W') (h':CatFr cp mp E' E'' W' W''):CatFr cp mp E E'' W W'':=
 ⟨h'.os.trans h.os,h'.tape.trans h.tape,h'.output.trans h.output,Q7 h.size h'.size,fun g hg hu=>(h'.block g (Nat.lt_of_lt_of_le hg h.size) (h.new g hg hu)).trans (h.block g hg hu),fun g hg hu=>h'.new g (Nat.lt_of_lt_of_le hg h.size) (h.new g hg hu)⟩
theorem CatFr.then {cp mp:Nat} {E E':List En} {W W' W'':World} (h:CatFr cp mp E E' W W') (h':Below W'.heap.size W' W''):CatFr cp mp E E' W W'':=h.trans (.of h')
theorem CatFr.after {cp mp:Nat} {E E':List En} {W W' W'':World} (h:Below W.heap.size W W') (h':CatFr cp mp E E' W' W''):CatFr cp mp E E' W W'':=(CatFr.of (cp:=cp) h).trans h'
theorem Solid.flds (l:List Fd):Solid (cellsF l):=by
 cases l with
 |nil=>exact .inl rfl
 |cons f r=>exact .inr (.inl ⟨f.s,_,rfl⟩)
theorem Solid.moves (l:List Mv):Solid (cellsM l):=by
 cases l with
 |nil=>exact .inl rfl
 |cons f r=>exact .inr (.inr ⟨_,_,_,_,_,rfl⟩)
theorem zero_sort (w:World):(zeroValue 86).run Tryz.prog w=.ok (.pointer none) w:=by rfl
theorem look_sort {W:World} {cp mp:Nat} {E:List En} {es:List MapEntry} {clock:Nat} (h:CatIs 89 80 W cp mp E es clock) {nm:ByteArray} (hn:nm.size≤maxLen):
 (Instr.lookup 78 (.map (some mp)) (.string nm) false).run Tryz.prog W=.ok (match findE E nm with|some d=>.pointer (some ⟨d.p,0,none⟩)|none=>.pointer none) W:=
 h.look Tryz.underlying78 Tryz.underlying9 zero_sort hn
theorem New_cat (w:World):Calls Tryz.prog 12 #[] w fun e w'=>e=.returned (.pointer (some ⟨w.heap.size+1,0,none⟩))∧CatIs 89 80 w' (w.heap.size+1) w.heap.size [] [] 0∧Below w.heap.size w w':=by
 have hmk:∀W:World,(Instr.makeMap 78 none).run Tryz.prog W=.ok (.map (some W.heap.size)) (W.alloc (.map #[] 0)):=fun W=>run_makeMap _ _
 go_enter Tryz.func12,Tryz.ntmps12
 go_wp2
 go_ret
 have B0:=OBox.new (w.alloc (.map #[] 0)) [.map (some w.heap.size)] 80
 rw[Jq] at B0
 have M0:MBk (w.alloc (.map #[] 0)) w.heap.size [] 0:=World.alloc_heap_new w _
 refine⟨by simp,⟨B0,M0.below (below_new _),fun x hx=>(by cases hx),List.nodup_nil,rfl,fun d hd=>(by cases hd),List.nodup_nil,fun d hd=>(by cases hd),List.Pairwise.nil,fun d hd=>(by cases hd),fun d hd=>(by cases hd)⟩,below_seq (below_new _) (below_new _)⟩
theorem newest_m (p old n:Nat) (X:Option Addr) (c r:Nat) (hr:old+n=r+1) (hs:r≤1000) (w:World) (hb:OBox w p [.int .i64 (old:Nat),.slice X n c] 89):
 Calls Tryz.prog 33 #[.pointer (some ⟨p,0,none⟩)] w fun e w'=>e=.returned (.int .i64 (r:Nat))∧Below w.heap.size w w':=by
 have hw1:IntKind.i64.wrap ((old:Int)+(n:Int))=(r:Int)+1:=(Xq _ (by omega)).trans (by omega)
 have hw2:IntKind.i64.wrap (r:Int)=(r:Int):=Xq _ (by omega)
 have b0:∀W,Below w.heap.size w W→W.cell? ⟨p,0,none⟩=some (.int .i64 (old:Nat))∧W.cell? ⟨p,1,none⟩=some (.slice X n c):=fun W h=>⟨(hb.below h).cell rfl,(hb.below h).cell rfl⟩
 go_enter Tryz.func33,Tryz.ntmps33
 go_upto_region 1 with fail
 refine RW.start (fun w'=>Below w.heap.size w w') (by kernel_rfl) (by kernel_rfl) (Jy _ _).drew ?_
 repeat (first
  |(refine' RW.val (by rfl) ?_ ?_;rotate_left;(focus (intro w' hS;have HB5:=hS;obtain⟨c0,c1⟩:=b0 _ HB5;clear hS;go_simp;rfl));simp only[Act.put,J1,J3,J2])
  |(refine RW.off (by rfl) ?_;simp only[Act.put,J1,J3,J2]))
 refine RW.done (fun w' hS=>?_)
 have HB5:=hS;obtain⟨c0,c1⟩:=b0 _ HB5;clear hS
 go_wp2
 go_ret
 exact⟨by rfl,HB5⟩
theorem Versions_none {W:World} {cp mp:Nat} {E:List En} {es:List MapEntry} {clock:Nat} (h:CatIs 89 80 W cp mp E es clock) {nm:ByteArray} (hn:nm.size≤maxLen) (hf:findE E nm=none):
 Calls Tryz.prog 15 #[.pointer (some ⟨cp,0,none⟩),.string nm] W fun e w'=>e=.returned (.tuple #[.int .i64 0,.int .i64 0,.int .i64 90])∧Below W.heap.size W w':=by
 have hlk:=look_sort h hn
 rw[hf] at hlk
 obtain⟨b0,_⟩:=h.box.f1
 go_enter Tryz.func15,Tryz.ntmps15
 go_wp2
 refine bodyPost_ret (v:=.tuple #[.int .i64 0,.int .i64 0,.int .i64 90]) (by simp[results,Tryz.results15,go_sem, *];done) rfl ⟨rfl,Jy _ _⟩
theorem Versions_some {W:World} {cp mp:Nat} {E:List En} {es:List MapEntry} {clock:Nat} (h:CatIs 89 80 W cp mp E es clock) {nm:ByteArray} (hn:nm.size≤maxLen) {d:En} (hf:findE E nm=some d) (hok:d.y.Ok) (old top:Nat) (ho:d.y.old=old) (ht:d.y.top=top):
 Calls Tryz.prog 15 #[.pointer (some ⟨cp,0,none⟩),.string nm] W fun e w'=>e=.returned (.tuple #[.int .i64 (old:Nat),.int .i64 (top:Nat),.int .i64 0])∧Below W.heap.size W w':=by
 have hlk:=look_sort h hn
 rw[hf] at hlk
 obtain⟨b0,_⟩:=h.box.f1
 have hd:=h.ents d (findE_mem hf).1
 obtain⟨X,c,ev,_,_,_⟩:=own_rd hd.row
 have hbx:=hd.box
 rw[ev,ho] at hbx
 have hlen:d.xs.length=d.y.ts.length:=by rw[←hd.tabs,Kz]
 obtain⟨n,hnl⟩:∃n,d.xs.length=n:=⟨_,rfl⟩
 rw[hnl] at hbx
 have hsum:old+n=top+1:=by
  have h1:d.y.top=d.y.old+d.y.ts.length - 1:=rfl
  have h2:=hok.ne
  have h3:0<d.y.ts.length:=by cases hx:d.y.ts with|nil=>exact absurd hx h2|cons a r=>simp
  omega
 have htop:top≤64:=by rw[←ht];exact hok.hi
 obtain⟨p,hp⟩:∃p,d.p=p:=⟨_,rfl⟩
 simp only[hp] at hlk
 rw[hp] at hbx
 have c0:∀W',Below W.heap.size W W'→W'.cell? ⟨p,0,none⟩=some (.int .i64 (old:Nat)):=fun W' hb=>(hbx.below hb).cell rfl
 have HS:=J0 hsum
 clear hf hd hlen hnl ho ht hok hsum hp h ev
 go_enter Tryz.func15,Tryz.ntmps15
 go_upto_region 4 with fail
 refine RW.start (fun w'=>Below W.heap.size W w') (by kernel_rfl) (by kernel_rfl) (Jy _ _).drew ?_
 repeat (first
  |(refine' RW.val (by rfl) ?_ ?_;rotate_left;(focus (intro w' hS;have HB5:=hS;have c1:=c0 _ HB5;clear hS;go_simp;rfl));simp only[Act.put,J1,J3,J2])
  |(refine RW.off (by rfl) ?_;simp only[Act.put,J1,J3,J2])
  |(refine' RW.call (by rfl) ?_ ?_ ?_
    rotate_left 3
    (focus (intro w' hS;have HB5:=hS;have c1:=c0 _ HB5;clear hS;go_simp;exact⟨rfl,rfl⟩))
    (focus
      intro w' hS
      have HB5:=hS;have c1:=c0 _ HB5;clear hS
      first
       |(refine(newest_m p old n X c top HS.out (by omega) _ (hbx.below HB5)).mono ?_;rintro e w1 ⟨rfl,hb⟩;exact⟨rfl,(below_seq HB5 hb)⟩))
    simp only[Act.put,J1,J3,J2]))
 refine RW.done (fun w' hS=>?_)
 have HB5:=hS;have c1:=c0 _ HB5;clear hS
 go_wp2
 refine bodyPost_ret (v:=.tuple #[.int .i64 (old:Nat),.int .i64 (top:Nat),.int .i64 0]) (by simp[results,Tryz.results15,go_sem, *];done) rfl ⟨rfl,HB5⟩
theorem own_row3 {w:World} {base:Nat} {e:TypeId} {K n:Nat} {v:Value} {xs:List Value} (h:w.ownsRow base e K v n xs) (hn:0<n) (hK:0<K):∃g cap,v=.slice (some ⟨g,0,none⟩) n cap∧n≤cap:=by
 obtain⟨h1,h2⟩:=h
 rcases h2 with ⟨rfl,rfl⟩|⟨g,cap,cur,rfl,_,_,hle,_⟩
 ·simp at h1
  omega
 ·exact⟨g,cap,rfl,hle⟩
theorem En.open {W:World} {d:En} (hd:d.Is 89 W) (hok:d.y.Ok):∃g c n,d.v=.slice (some ⟨g,0,none⟩) n c∧n≤c∧d.xs.length=n∧d.y.old+n=d.y.top+1∧d.y.top≤64∧0<n∧Rd W (some ⟨g,0,none⟩) (cellsT d.xs):=by
 have hlen:d.xs.length=d.y.ts.length:=by rw[←hd.tabs,Kz]
 have h3:0<d.y.ts.length:=by cases hx:d.y.ts with|nil=>exact absurd hx hok.ne|cons a r=>simp
 obtain⟨g,c,e,hc⟩:=own_row3 hd.row (by omega) (by omega)
 refine⟨g,c,d.xs.length,e,hc,rfl,?_,hok.hi,by omega,?_⟩
 ·have h1:d.y.top=d.y.old+d.y.ts.length - 1:=rfl
  omega
 ·have:=hd.row
  rw[e] at this
  exact own_rd_blk this
theorem Rd.tab {W:World} {g:Nat} {xs:List TabV} (h:Rd W (some ⟨g,0,none⟩) (cellsT xs)) {i:Nat} {x:TabV} (hx:xs[i]?=some x):W.cell? ⟨g,i * 3,none⟩=some (.slice x.A x.t.o.length x.a)∧W.cell? ⟨g,i * 3+1,none⟩=some (.slice x.B x.t.n.length x.b)∧W.cell? ⟨g,i * 3+2,none⟩=some (.slice x.C x.t.m.length x.c):=by
 obtain⟨h0,h1,h2⟩:=cellsT_get hx
 obtain⟨_,e,hc⟩:=h (by intro e;rw[e] at h0;simp at h0)
 cases e
 have key:∀j u,(cellsT xs)[j]?=some u→W.cell? ⟨g,j,none⟩=some u:=fun j u hj=>by
  have:=hc j u hj
  unfold Addr.add at this
  split at this
  ·rename_i hz;subst hz;exact this
  ·simpa using this
 exact⟨key _ _ h0,key _ _ h1,key _ _ h2⟩
theorem from_none {W:World} {cp mp:Nat} {E:List En} {es:List MapEntry} {clock:Nat} (h:CatIs 89 80 W cp mp E es clock) {nm:ByteArray} (hn:nm.size≤maxLen) (hf:findE E nm=none) (v:Int):
 Calls Tryz.prog 34 #[.pointer (some ⟨cp,0,none⟩),.string nm,.int .i64 v] W fun e w'=>e=.returned (.tuple #[.slice none 0 0,.int .i64 90])∧Below W.heap.size W w':=by
 have hlk:=look_sort h hn
 rw[hf] at hlk
 obtain⟨b0,_⟩:=h.box.f1
 go_enter Tryz.func34,Tryz.ntmps34
 go_wp2
 refine bodyPost_ret (v:=.tuple #[.slice none 0 0,.int .i64 90]) (by simp[results,Tryz.results34,go_sem, *];done) rfl ⟨rfl,Jy _ _⟩
theorem from_bad {W:World} {cp mp:Nat} {E:List En} {es:List MapEntry} {clock:Nat} (h:CatIs 89 80 W cp mp E es clock) {nm:ByteArray} (hn:nm.size≤maxLen) {d:En} (hf:findE E nm=some d) (hok:d.y.Ok) (v:Int) (hv:v<(d.y.old:Int)∨(d.y.top:Int)<v):
 Calls Tryz.prog 34 #[.pointer (some ⟨cp,0,none⟩),.string nm,.int .i64 v] W fun e w'=>e=.returned (.tuple #[.slice none 0 0,.int .i64 90])∧Below W.heap.size W w':=by
 have hlk:=look_sort h hn
 rw[hf] at hlk
 obtain⟨b0,_⟩:=h.box.f1
 have hd:=h.ents d (findE_mem hf).1
 obtain⟨g,c,n,ev,_,hnl,hsum,htop,hpos,_⟩:=En.open hd hok
 have hbx:=hd.box
 rw[ev] at hbx
 obtain⟨old,ho⟩:∃x,d.y.old=x:=⟨_,rfl⟩
 obtain⟨top,ht⟩:∃x,d.y.top=x:=⟨_,rfl⟩
 rw[ho] at hbx hsum hv
 rw[ht] at hsum htop hv
 obtain⟨p,hp⟩:∃p,d.p=p:=⟨_,rfl⟩
 simp only[hp] at hlk
 rw[hp] at hbx
 obtain⟨c0,c1⟩:W.cell? ⟨p,0,none⟩=some (.int .i64 (old:Nat))∧W.cell? ⟨p,1,none⟩=some (.slice (some ⟨g,0,none⟩) n c):=⟨hbx.cell rfl,hbx.cell rfl⟩
 have HS:=J0 hsum
 clear hf hd hnl ho ht hok hsum hp h ev
 by_cases hlo:v<(old:Int)
 ·have e1:decide (v<(old:Int))=true:=by simpa using hlo
  clear hv
  go_enter Tryz.func34,Tryz.ntmps34
  go_wp2
  refine bodyPost_ret (v:=.tuple #[.slice none 0 0,.int .i64 90]) (by simp[results,Tryz.results34,go_sem, *];done) rfl ⟨rfl,Jy _ _⟩
 ·have e1:decide (v<(old:Int))=false:=by simpa using hlo
  have e2:decide ((top:Int)<v)=true:=by
   rcases hv with h1|h1
   ·exact absurd h1 hlo
   ·simpa using h1
  clear hv
  have HB:=Jy W.heap.size W
  go_enter Tryz.func34,Tryz.ntmps34
  go_wp2_with (go_at_call 33;refine(newest_m p old n _ c top HS.out (by omega) _ hbx).mono ?_;rintro e w1 ⟨rfl,hb⟩;replace HB:=HB.trans (hb.mono HB.size);clear hb)
  refine bodyPost_ret (v:=.tuple #[.slice none 0 0,.int .i64 90]) (by simp[results,Tryz.results34,go_sem, *];done) rfl ⟨rfl,HB⟩
theorem from_some {W:World} {cp mp:Nat} {E:List En} {es:List MapEntry} {clock:Nat} (h:CatIs 89 80 W cp mp E es clock) {nm:ByteArray} (hn:nm.size≤maxLen) {d:En} (hf:findE E nm=some d) (hok:d.y.Ok) (g c n:Nat) (ev:d.v=.slice (some ⟨g,0,none⟩) n c) (k:Nat) (hk:k<n):
 Calls Tryz.prog 34 #[.pointer (some ⟨cp,0,none⟩),.string nm,.int .i64 ((d.y.old+k:Nat):Int)] W fun e w'=>e=.returned (.tuple #[.slice (some ⟨g,k * 3,none⟩) (n - k) (n - k),.int .i64 0])∧Below W.heap.size W w':=by
 have hlk:=look_sort h hn
 rw[hf] at hlk
 obtain⟨b0,_⟩:=h.box.f1
 have hd:=h.ents d (findE_mem hf).1
 obtain⟨g2,c2,n2,ev2,hnc,hnl,hsum,htop,hpos,_⟩:=En.open hd hok
 rw[ev] at ev2
 obtain⟨rfl,rfl,rfl⟩:g=g2∧n=n2∧c=c2:=by
  injection ev2 with h1 h2 h3
  injection h1 with h1
  injection h1 with h1
  exact⟨h1,h2,h3⟩
 have hbx:=hd.box
 rw[ev] at hbx
 obtain⟨old,ho⟩:∃x,d.y.old=x:=⟨_,rfl⟩
 obtain⟨top,ht⟩:∃x,d.y.top=x:=⟨_,rfl⟩
 rw[ho] at hbx hsum ⊢
 rw[ht] at hsum htop
 obtain⟨p,hp⟩:∃p,d.p=p:=⟨_,rfl⟩
 simp only[hp] at hlk
 rw[hp] at hbx
 have hc0:∀W',Below W.heap.size W W'→W'.cell? ⟨p,0,none⟩=some (.int .i64 (old:Nat))∧W'.cell? ⟨p,1,none⟩=some (.slice (some ⟨g,0,none⟩) n c):=fun W' hb=>⟨(hbx.below hb).cell rfl,(hbx.below hb).cell rfl⟩
 obtain⟨c0,c1⟩:=hc0 W (Jy _ _)
 have HS:=J0 hsum;have HC0:=J0 hc0
 obtain⟨v,hv⟩:∃v:Int,((old+k:Nat):Int)=v:=⟨_,rfl⟩
 rw[hv]
 have e1:decide (v<(old:Int))=false:=by simp;omega
 have e2:decide ((top:Int)<v)=false:=by simp;omega
 have hw:IntKind.i64.wrap (v - (old:Int))=(k:Int):=(Xq _ (by omega)).trans (by omega)
 have k0:(0:Int)≤(k:Int):=by omega
 have k1:(k:Int)≤(n:Int):=by omega
 have k2:(n:Int)≤(c:Int):=by omega
 have k3:k≤n:=by omega
 clear hf hd hnl ho ht hok hsum hp h ev hv ev2 hc0
 have HB:=Jy W.heap.size W
 go_enter Tryz.func34,Tryz.ntmps34
 go_upto_region 4 with (go_at_call 33;refine(newest_m p old n _ c top HS.out (by omega) _ hbx).mono ?_;rintro e w1 ⟨rfl,hb⟩;replace HB:=HB.trans (hb.mono HB.size);clear hb c0 c1)
 obtain⟨c0,c1⟩:=HC0.out _ HB
 go_upto_region 5 with fail
 clear c0 c1
 refine RW.start (fun w'=>Below W.heap.size W w') (by kernel_rfl) (by kernel_rfl) HB.drew ?_
 repeat (first
  |(refine' RW.val (by rfl) ?_ ?_;rotate_left;(focus (intro w' hS;have HB5:=hS;obtain⟨c0,c1⟩:=HC0.out _ HB5;clear hS;go_simp;rfl));simp only[Act.put,J1,J3,J2])
  |(refine RW.off (by rfl) ?_;simp only[Act.put,J1,J3,J2]))
 refine RW.done (fun w' hS=>?_)
 have HB5:=hS;obtain⟨c0,c1⟩:=HC0.out _ HB5;clear hS
 go_wp2
 refine bodyPost_ret (v:=.tuple #[.slice (some ⟨g,k * 3,none⟩) (n - k) (n - k),.int .i64 0]) (by simp[results,Tryz.results34,go_sem, *];done) rfl ⟨rfl,HB5⟩
theorem Fields_no {W:World} {cp mp:Nat} {E:List En} {es:List MapEntry} {clock:Nat} (h:CatIs 89 80 W cp mp E es clock) {nm:ByteArray} (hn:nm.size≤maxLen) (v:Int) (hbad:findE E nm=none∨∃d,findE E nm=some d∧d.y.Ok∧(v<(d.y.old:Int)∨(d.y.top:Int)<v)):
 Calls Tryz.prog 16 #[.pointer (some ⟨cp,0,none⟩),.string nm,.int .i64 v] W fun e w'=>e=.returned (.tuple #[.slice none 0 0,.int .i64 90])∧Below W.heap.size W w':=by
 have hfr:Calls Tryz.prog 34 #[.pointer (some ⟨cp,0,none⟩),.string nm,.int .i64 v] W fun e w'=>e=.returned (.tuple #[.slice none 0 0,.int .i64 90])∧Below W.heap.size W w':=by
  rcases hbad with h1|⟨d,h1,h2,h3⟩
  ·exact from_none h hn h1 v
  ·exact from_bad h hn h1 h2 v h3
 have HFR:=J0 hfr
 clear hbad hfr h
 go_enter Tryz.func16,Tryz.ntmps16
 go_wp2_with (go_at_call 34;refine HFR.out.mono ?_;rintro e w1 ⟨rfl,HB⟩)
 refine bodyPost_ret (v:=.tuple #[.slice none 0 0,.int .i64 90]) (by simp[results,Tryz.results16,go_sem, *];done) rfl ⟨rfl,HB⟩
theorem Fields_yes {W:World} {cp mp:Nat} {E:List En} {es:List MapEntry} {clock:Nat} (h:CatIs 89 80 W cp mp E es clock) {nm:ByteArray} (hn:nm.size≤maxLen) {d:En} (hf:findE E nm=some d) (hok:d.y.Ok) (k:Nat) {x:TabV} (hx:d.xs[k]?=some x) (m:Nat) (hm:x.t.n.length=m) (hm4:m≤4398046511104) (v:Int) (hv:v=((d.y.old+k:Nat):Int)):
 Calls Tryz.prog 16 #[.pointer (some ⟨cp,0,none⟩),.string nm,.int .i64 v] W fun e w'=>∃B b,e=.returned (.tuple #[.slice B m b,.int .i64 0])∧m≤b∧RdP (fun g=>W.heap.size≤g) w' B (cellsF x.t.n)∧Below W.heap.size W w':=by
 subst hv
 have hdE:=(findE_mem hf).1
 have hd:=h.ents d hdE
 obtain⟨g,c,n,ev,hnc,hnl,_,_,hpos,hrd⟩:=En.open hd hok
 have hkn:k<n:=by rw[←hnl];exact(J6.1 hx).1
 have hfr:=from_some h hn hf hok g c n ev k hkn
 obtain⟨_,t1,_⟩:=Rd.tab hrd hx
 have hxI:=h.tabs d hdE x (J7 hx)
 have hcb:=hxI.cb
 rw[hm] at t1 hcb
 have hxn:=hxI.n.rd
 have hidx:(0:Int)<((n - k:Nat):Int):=by omega
 have hidx2:0<n - k:=by omega
 have HFR:=J0 hfr;have HM:=J0 hm
 obtain⟨old,ho⟩:∃o:Int,((d.y.old+k:Nat):Int)=o:=⟨_,rfl⟩
 rw[ho] at HFR ⊢
 obtain⟨j,hj⟩:∃j,n - k=j:=⟨_,rfl⟩
 rw[hj] at HFR hidx hidx2
 clear hfr hf hok hx hd hdE hm ev hnc hnl hrd hxI h ho hj hkn hpos
 go_enter Tryz.func16,Tryz.ntmps16
 go_upto_region 4 with (go_at_call 34;refine HFR.out.mono ?_;rintro e w1 ⟨rfl,HB⟩)
 have t1':=cell_below (B:=0) HB t1
 have hxn':=hxn.below HB
 go_wp2_with (go_at_call 35;refine(CloneF_m x.B x.b m x.t.n HM.out _ hxn' hm4 hcb).mono ?_;rintro e w2 ⟨B,b,rfl,hb4,own,hb2⟩)
 refine bodyPost_ret (v:=.tuple #[.slice B m b,.int .i64 0]) (by simp[results,Tryz.results16,go_sem, *];done) rfl ⟨B,b,rfl,hb4,?_,HB.trans (hb2.mono HB.size)⟩
 exact own_P own (fun g hg=>Q7 HB.size (own_base own g hg))
end
end Go.Proofs.YteembinfgbapgaaGreat
