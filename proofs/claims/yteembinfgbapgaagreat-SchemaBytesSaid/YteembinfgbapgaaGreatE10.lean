/- Merged out of: Tb Tp Tf Tg Th Ti Tk Tm To Tr. -/
import Derived.Test.YteembinfgbapgaaGreatE00
import Derived.Test.YteembinfgbapgaaGreatE09
import Derived.Test.YteembinfgbapgaaGreatE01
import Derived.Maps.AppendAt
import Derived.Deep.RegionLawGrows
import Derived.Deep.RegionHeld3
import Derived.Test.YteembinfgbapgaaGreatE06
set_option linter.unusedSimpArgs false
set_option linter.unusedVariables false
set_option maxRecDepth 100000
set_option maxHeartbeats 8000000
namespace Go.Proofs.YteembinfgbapgaaGreat
section
open Go.RowKit Go.Lib Go.Maps
section
variable {P:Program} {t k e:ES}
def prs (es:List MapEntry):List (ER×ER):=es.map fun x=>(x.key,x.val)
theorem mH (K:Keyed P k) (ht:P.underlying t=some (.map k e)) {w:EQ} {b:Nat} {es:List MapEntry} {clock:Nat} (hb:jb w b es clock) (hes:∀x∈es,∃l,keyOf P k x.key=some l) {key val:ER} {l:Lit} (hk:keyOf P k key=some l) {i:Nat} {old:ER} (hi:(prs es)[i]?=some (key,old)) (hu:∀(j:Nat) (x:MapEntry),es[j]?=some x->x.key=key->j=i):
 ∃w' es',(Instr.mapUpdate t (.map (some b)) key val).run P w=.ok () w'/\jb w' b es' clock/\prs es'=(prs es).set i (key,val)/\es'.map (·.born)=es.map (·.born)/\w.grownBy w' (some b)/\w'.heap.size=w.heap.size:=by
 have hlt:b<w.heap.size:=(Qq.1 hb).1
 obtain⟨x0,hx0,hx1⟩:∃x,es[i]?=some x/\x.key=key:=by
  rw[prs,Kv] at hi
  cases hx:es[i]? with
  |none=>rw[hx] at hi;cases hi
  |some x=>rw[hx] at hi;exact⟨x,rfl,congrArg Prod.fst (Jj hi)⟩
 obtain⟨j,x,hfind,h2,h3⟩:∃j x,(Instr.findKey k key es).run P w=.ok (some (j,x.val)) w/\es[j]?=some x/\x.key=key:=by
  rcases K.find w hk es hes with ⟨_,h⟩|h
  ·exact absurd hx1 (h x0 (J7 hx0))
  ·exact h
 obtain rfl:j=i:=hu j x h2 h3
 refine⟨{ w with heap:=w.heap.setIfInBounds b (.map (es.toArray.modify j fun e=>{ e with key:=key,val:=val }) clock) },(es.toArray.modify j fun e=>{ e with key:=key,val:=val }).toList,?_,?_,?_,?_,?_,by simp⟩
 ·have hst:=K.stays w hk
  have hkey:((es.toArray[j]?).map (·.key)).getD key=key:=by
   have:es.toArray[j]?=some x:=by simpa using h2
   rw[this];exact h3
  have hkey2:((es[j]?).map (·.key)).getD key=key:=by rw[h2];exact h3
  simp[Instr.mapUpdate,run_underlying ht,MapKept.run_getObj_map hb,K.check w false hk,hfind,hkey,hkey2,hst,MapKept.run_setObj_map _ hb,Result.andThen]
 ·simp[jb,hlt]
 ·unfold prs
  apply Xk
  intro n
  by_cases hn:j=n
  ·subst hn
   have hjl:j<es.length:=(J6.1 h2).1
   simp[List.getElem?_set,hjl]
  ·simp[List.getElem?_set,hn,List.getElem?_modify]
 ·apply Xk
  intro n
  by_cases hn:j=n
  ·subst hn
   simp[List.getElem?_modify,h2]
  ·simp[hn,List.getElem?_modify]
 ·exact⟨rfl,rfl,rfl,by simp,fun j' hj hne=>by
   show(w.heap.setIfInBounds b _)[j']?=_
   rw[Array.getElem?_setIfInBounds_ne (by rintro rfl;exact hne rfl)]⟩
theorem gB (hk:P.underlying k=some .string) {s:EP} (h:s.size<=maxLen):∃l,keyOf P k (.string s)=some l:=by
 refine⟨.string s.data.toList,?_⟩
 simp[keyOf,hk,mapKey,h]
end
end
section
open Go.RowKit Go.Lib
def gI (S:ER->Prop) (w:EQ) (g:Nat):Prop:=∀off u,w.cell? ⟨g,off,none⟩=some u->S u
theorem gI.of {S:ER->Prop} {w:EQ} {g:Nat} {cs:Array ER} {e:ES} (h:w.heap[g]?=some (.cells cs e (0,0))) (hs:∀u∈cs.toList,S u):gI S w g:=by
 intro off u hu
 simp[World.cell?,h] at hu
 exact hs u (by simpa using Array.mem_of_getElem? hu)
theorem gI.get {S:ER->Prop} {w:EQ} {g:Nat} {cs:Array ER} {e:ES} (h:w.heap[g]?=some (.cells cs e (0,0))) (ha:gI S w g):∀u∈cs.toList,S u:=by
 intro u hu
 obtain⟨i,hi⟩:=Array.mem_iff_getElem?.1 (Array.mem_def.2 hu)
 exact ha i u (by simp[World.cell?,h,hi])
theorem gI.keep {S:ER->Prop} {w w':EQ} {g:Nat} (h:gI S w g) (hk:w'.heap[g]?=w.heap[g]?):gI S w' g:=fun off u hu=>h off u ((World.cell?_of_block (a:=⟨g,off,none⟩) hk).symm.trans hu)
theorem yh {S:ER->Prop} {z:Array ER} {n:Nat} (hz:∀u∈z.toList,S u):∀u∈(Builtin.zeroCells z n).toList,S u:=by
 intro u hu
 simp only[Builtin.zeroCells,Array.toList_map,Vy,Array.toList_range,List.mem_range] at hu
 obtain⟨i,hi,rfl⟩:=hu
 have h0:0<z.size:=by
  rcases Nat.eq_zero_or_pos z.size with h|h
  ·rw[h] at hi;simp at hi
  ·exact h
 have hlt:i % z.size<z.size:=Nat.mod_lt _ h0
 rw[getElem!_pos z _ hlt]
 exact hz _ (Array.mem_def.1 (Array.getElem_mem hlt))
section
variable {P:Program} (w:EQ)
theorem uk {S:ER->Prop} (base:Nat) (t ty e:ES) (i:TypeInfo) (z:ER) (size bytes:Nat) (ht:P.underlying t=some (.slice e)) (hi:P.info? e=some i) (hz:i.zero=some z)
 (hsize:i.size=size) (hby:i.bytes=bytes)
 (v:ER) (n:Nat) (xs:EO) (hown:w.ownsRow base e size v n xs)
 (a:Addr) (m c:Nat) (news:EO) (hl:news.length=m * size) (hnews:∀j u,news[j]?=some u->w.cell? (a.add j)=some u) (h1:∀u∈news,u.oneCell'=true)
 (h63:n+m<=maxLen) (hbytes:(n+m) * bytes<=140737488355328) (hm:0<m)
 (sz:∀u∈z.cells.toList,S u) (sn:∀u∈news,S u) (so:∀g,v.ownBlock=some g->gI S w g) {v':ER} {w':EQ}
 (hrun:(Builtin.append_ #[t,t] ty #[v,.slice (some a) m c]).run P w=.ok v' w'):∀g,v'.ownBlock=some g->gI S w' g:=by
 subst hsize hby
 simp only[maxLen] at h63
 have fin:∀{u:ER} {W:EQ},(Builtin.append_ #[t,t] ty #[v,.slice (some a) m c]).run P w=.ok u W->v'=u/\w'=W:=fun h=>by
  rw[hrun] at h;injection h with h1 h2;exact⟨h1,h2⟩
 have fresh:∀(cs:EO) (k l:Nat),(∀u∈cs,S u)->v'=.slice (some ⟨w.heap.size,0,none⟩) k l->∀q,w'=w.drew.alloc (.cells (cs.toArray++Builtin.zeroCells z.cells q) e)->∀g,v'.ownBlock=some g->gI S w' g:=by
  intro cs k l hcs e1 q e2 g hg
  subst e1 e2
  cases hg
  refine gI.of (heap_alloc_new w.drew _) fun u hu=>?_
  simp only[Array.toList_append,X5] at hu
  exact hu.elim (hcs u) (yh sz u)
 rcases hown.2 with ⟨rfl,rfl⟩|⟨g,cap,cur,rfl,hbg,hg,hnc,hcm,hcs,htake⟩
 ·have hr:=run_append_nil (P:=P) w t ty e i z ht hi hz a m c news hl hnews hm (by omega) (by simp only[Nat.zero_add] at hbytes;omega)
  obtain⟨e1,e2⟩:=fin hr
  exact fresh news _ _ sn e1 _ e2
 ·have hcur:∀u∈cur.toList,S u:=(so g rfl).get hg
  by_cases hroom:n+m<=cap
  ·have hr:=run_append_room (P:=P) w t ty e i ht hi g n cap cur hg a m c news hl hnews h1 hroom (by rw[hl,hcs,<-Nat.add_mul];exact Nat.mul_le_mul_right _ hroom)
   obtain⟨rfl,rfl⟩:=fin hr
   intro g' hg'
   cases hg'
   refine gI.of (setRow_heap w g cur _ e _ hg) fun u hu=>?_
   simp only[X5] at hu
   rcases hu with (h|h)|h
   ·exact hcur u (List.mem_of_mem_take h)
   ·exact sn u h
   ·exact hcur u (List.mem_of_mem_drop h)
  ·have hr:=run_append_grow (P:=P) w t ty e i z ht hi hz ⟨g,0,none⟩ n cap xs hown.1 (hown.cells (g:=g) rfl) a m c news hl hnews (by omega) (by omega) (growslice_fits (by omega) hbytes)
   obtain⟨e1,e2⟩:=fin hr
   refine fresh (xs++news) _ _ (fun u hu=>?_) e1 (grownCap w (n+m) cap e - (n+m)) (by rw[e2];simp)
   rcases X5.1 hu with h|h
   ·exact hcur u (List.mem_of_mem_take (by rw[htake];exact h))
   ·exact sn u h
end
theorem ig {P:Program} {ops:Array Oper} {o:Oper} {a:Act} {w:EQ} {K:Act->EQ->Prop} {Q:Exit->Act->EQ->Prop} {E:Prop} {S:ER->Prop}
 (hg:o.guard=none) (s x:Operand) (t:ES) (hop:o.op=Op.call { callee:=Callee.builtin Builtin.append,args:=#[s,x],argTypes:=#[t,t] })
 (base:Nat) (e:ES) (i:TypeInfo) (z:ER) (size bytes:Nat) (h1:P.underlying t=some (.slice e)) (h2:P.info? e=some i) (h3:i.zero=some z) (h4:i.size=size) (h5:i.bytes=bytes) (h6:z.cells.size=size) (h7:0<size)
 (v:ER) (n:Nat) (xs:EO) (hs:a.eval s=v) (hown:w.ownsRow base e size v n xs)
 (ad:Addr) (m c:Nat) (news:EO) (hx:a.eval x=.slice (some ad) m c) (hn:news.length=m * size) (hc:∀j u,news[j]?=some u->w.cell? (ad.add j)=some u) (h1c:∀u∈news,u.oneCell'=true)
 (b1:n+m<=maxLen) (b2:(n+m) * bytes<=140737488355328) (hbase:base<=w.heap.size) (hm:0<m)
 (sz:∀u∈z.cells.toList,S u) (sn:∀u∈news,S u) (so:∀g,v.ownBlock=some g->gI S w g)
 (hK:∀v' w',w'.ownsRow base e size v' (n+m) (xs++news)->w.grownBy w' v.ownBlock->(v'.ownBlock=v.ownBlock\/v'.ownBlock=some w.heap.size)->(∀g,v'.ownBlock=some g->gI S w' g)->K (a.put o.dst v') w'):
 if Region.wanted o (yielded ops a.tmps)=true then Oper.wp P o a w K Q else E:=by
 have hw:Region.wanted o (yielded ops a.tmps)=true:=by simp[Region.wanted,hg]
 rw[Xz hw]
 obtain⟨v',w',hrun,r2,r3,_,r5⟩:=run_append_own_at (P:=P) w base t o.type e i z size bytes h1 h2 h3 h4 h5 h6 h7 v n xs hown ad m c news hn hc h1c b1 b2 hbase
 have r6:=uk w base t o.type e i z size bytes h1 h2 h3 h4 h5 v n xs hown ad m c news hn hc h1c b1 b2 hm sz sn so hrun
 unfold Oper.wp
 simp[execOp,hop,resolve,invoke,builtin,hs,hx,hrun,Result.andThen]
 exact hK v' w' r2 r3 r5 r6
end
section
open Go.RowKit Go.Lib Go.Maps
structure bB where
 t:Tb
 A:EL
 a:Nat
 B:EL
 b:Nat
 C:EL
 c:Nat
def bB.cells (x:bB):EO:=[.slice x.A x.t.o.length x.a,.slice x.B x.t.n.length x.b,.slice x.C x.t.m.length x.c]
def ah (xs:List bB):EO:=xs.flatMap bB.cells
theorem gg (a b:List bB):ah (a++b)=ah a++ah b:=by simp[ah]
theorem pE (xs:List bB):(ah xs).length=3 * xs.length:=by
 induction xs with
 |nil=>rfl
 |cons x r ih=>simp[ah,bB.cells] at ih |-;omega
theorem nI {xs:List bB} {i:Nat} {x:bB} (h:xs[i]?=some x):(ah xs)[i * 3]?=some (.slice x.A x.t.o.length x.a)/\(ah xs)[i * 3+1]?=some (.slice x.B x.t.n.length x.b)/\(ah xs)[i * 3+2]?=some (.slice x.C x.t.m.length x.c):=by
 induction xs generalizing i with
 |nil=>simp at h
 |cons y r ih=>
  have e:ah (y :: r)=y.cells++ah r:=by simp[ah]
  cases i with
  |zero=>simp at h;subst h;rw[e];simp[bB.cells]
  |succ i=>
   obtain⟨h0,h1,h2⟩:=ih (by simpa using h)
   rw[e]
   refine⟨?_,?_,?_⟩
   ·rw[Qk (by simp[bB.cells];omega),show(i+1) * 3 - y.cells.length=i * 3 by simp[bB.cells];omega];exact h0
   ·rw[Qk (by simp[bB.cells];omega),show(i+1) * 3+1 - y.cells.length=i * 3+1 by simp[bB.cells];omega];exact h1
   ·rw[Qk (by simp[bB.cells];omega),show(i+1) * 3+2 - y.cells.length=i * 3+2 by simp[bB.cells];omega];exact h2
structure bB.Is (Q:Nat->Prop) (W:EQ) (x:bB):Prop where
 o:au Q W x.A (aC x.t.o)
 n:au Q W x.B (aC x.t.n)
 m:au Q W x.C (aJ x.t.m)
 ca:x.t.o.length<=x.a
 cb:x.t.n.length<=x.b
theorem bB.Is.keep {P:Nat->Prop} {W W':EQ} {x:bB} (h:x.Is P W) (hk:∀g,P g->W'.heap[g]?=W.heap[g]?):x.Is P W':=⟨h.o.keep hk,h.n.keep hk,h.m.keep hk,h.ca,h.cb⟩
theorem bB.Is.mono {P Q:Nat->Prop} {W:EQ} {x:bB} (h:x.Is P W) (hq:∀g,P g->Q g):x.Is Q W:=⟨h.o.mono hq,h.n.mono hq,h.m.mono hq,h.ca,h.cb⟩
theorem bB.Is.lt {P:Nat->Prop} {W:EQ} {x:bB} (h:x.Is P W):x.Is (fun g=>P g/\g<W.heap.size) W:=⟨h.o.lt,h.n.lt,h.m.lt,h.ca,h.cb⟩
def wI (u:ER):Prop:=∃a b c,u=.slice a b c
structure En where
 y:Ty
 p:Nat
 v:ER
 xs:List bB
def En.has (d:En) (g:Nat):Prop:=g=d.p\/d.v.ownBlock=some g
structure En.Is (ST:ES) (W:EQ) (d:En):Prop where
 box:aD W d.p [.int .i64 (d.y.old:Nat),d.v] ST
 row:W.ownsRow 0 96 3 d.v d.xs.length (ah d.xs)
 tabs:d.xs.map (·.t)=d.y.ts
 sl:∀g,d.v.ownBlock=some g->gI wI W g
structure aa (ST CT:ES) (W:EQ) (cp mp:Nat) (E:List En) (es:List MapEntry) (clock:Nat):Prop where
 box:aD W cp [.map (some mp)] CT
 map:jb W mp es clock
 b1:∀x∈es,x.born<clock
 b2:(es.map (·.born)).Nodup
 prs:prs es=E.map fun d=>(Value.string d.y.s,Value.pointer (some ⟨d.p,0,none⟩))
 ents:∀d∈E,d.Is ST W
 names:(E.map (·.y.s)).Nodup
 small:∀d∈E,d.y.s.size<=maxLen
 apart:E.Pairwise fun a b=>∀g,a.has g->¬b.has g
 free:∀d∈E,¬d.has cp/\¬d.has mp
 tabs:∀d∈E,∀x∈d.xs,x.Is (fun g=>(∀d'∈E,¬d'.has g)/\g≠cp/\g≠mp) W
theorem En.lt {ST:ES} {W:EQ} {d:En} (h:d.Is ST W) {g:Nat} (hg:d.has g):g<W.heap.size:=by
 rcases hg with rfl|hg
 ·exact h.box.lt
 ·exact aY h.row g hg
theorem En.Is.keep {ST:ES} {W W':EQ} {d:En} (h:d.Is ST W) (hk:∀g,d.has g->W'.heap[g]?=W.heap[g]?):d.Is ST W':=
 ⟨(hk d.p (.inl rfl)).trans h.box,aN h.row (fun g hg=>hk g (.inr hg)),h.tabs,fun g hg=>(h.sl g hg).keep (hk g (.inr hg))⟩
theorem aa.keep {ST CT:ES} {W W':EQ} {cp mp:Nat} {E:List En} {es:List MapEntry} {clock:Nat} (h:aa ST CT W cp mp E es clock) (hk:∀g,g<W.heap.size->W'.heap[g]?=W.heap[g]?):aa ST CT W' cp mp E es clock:=
 ⟨(hk cp h.box.lt).trans h.box,(hk mp (Qq.1 h.map).1).trans h.map,h.b1,h.b2,h.prs,fun d hd=>(h.ents d hd).keep (fun g hg=>hk g (En.lt (h.ents d hd) hg)),h.names,h.small,h.apart,h.free,fun d hd x hx=>((h.tabs d hd x hx).lt.keep (fun g hg=>hk g hg.2)).mono (fun g hg=>hg.1)⟩
theorem aa.below {ST CT:ES} {W W':EQ} {cp mp:Nat} {E:List En} {es:List MapEntry} {clock:Nat} (h:aa ST CT W cp mp E es clock) (hb:Below W.heap.size W W'):aa ST CT W' cp mp E es clock:=h.keep fun g hg=>hb.block g hg
theorem aa.drew {ST CT:ES} {W:EQ} {cp mp:Nat} {E:List En} {es:List MapEntry} {clock:Nat} (h:aa ST CT W cp mp E es clock):aa ST CT W.drew cp mp E es clock:=h.keep fun _ _=>rfl
theorem cd {es:List MapEntry} {E:List En} (h:prs es=E.map fun d=>(Value.string d.y.s,Value.pointer (some ⟨d.p,0,none⟩))) {i:Nat} {x:MapEntry} (hx:es[i]?=some x):∃d,E[i]?=some d/\x.key=.string d.y.s/\x.val=.pointer (some ⟨d.p,0,none⟩):=by
 have h1:(prs es)[i]?=some (x.key,x.val):=by rw[prs,Kv,hx];rfl
 rw[h,Kv] at h1
 cases hd:E[i]? with
 |none=>rw[hd] at h1;cases h1
 |some d=>
  rw[hd] at h1
  have h2:=Jj h1
  exact⟨d,rfl,(congrArg Prod.fst h2).symm,(congrArg Prod.snd h2).symm⟩
theorem aa.keys {ST CT:ES} {W:EQ} {cp mp:Nat} {E:List En} {es:List MapEntry} {clock:Nat} (h:aa ST CT W cp mp E es clock) {P:Program} {k:ES} (hk:P.underlying k=some .string):∀x∈es,∃l,keyOf P k x.key=some l:=by
 intro x hx
 obtain⟨i,hi⟩:=Qv.1 hx
 obtain⟨d,hd,e1,_⟩:=cd h.prs hi
 rw[e1]
 exact gB hk (h.small d (J7 hd))
theorem iZ (es:List MapEntry):(prs es).length=es.length:=by simp[prs]
def bH (E:List En) (nm:EP):Option En:=E.find? fun d=>decide (d.y.s=nm)
theorem jR (E:List En) (nm:EP):(bH E nm).map (·.y)=ak (E.map (·.y)) nm:=by
 unfold bH ak
 rw[List.find?_map]
 rfl
theorem bG {E:List En} {nm:EP} {d:En} (h:bH E nm=some d):d∈E/\d.y.s=nm:=by
 refine⟨List.mem_of_find?_eq_some h,?_⟩
 have:=List.find?_some h
 simpa using this
theorem iN {E:List En} {nm:EP} (h:bH E nm=none):∀d∈E,d.y.s≠nm:=by
 intro d hd e
 have:=List.find?_eq_none.1 h d hd
 simp[e] at this
theorem aa.look {ST CT:ES} {W:EQ} {cp mp:Nat} {E:List En} {es:List MapEntry} {clock:Nat} (h:aa ST CT W cp mp E es clock) {P:Program} {t k e:ES} (ht:P.underlying t=some (.map k e)) (hk:P.underlying k=some .string) (hz:∀w,(zeroValue e).run P w=.ok (.pointer none) w) {nm:EP} (hn:nm.size<=maxLen):
 (Instr.lookup t (.map (some mp)) (.string nm) false).run P W=.ok (match bH E nm with|some d=>.pointer (some ⟨d.p,0,none⟩)|none=>.pointer none) W:=by
 obtain⟨l,hl⟩:=gB (P:=P) hk hn
 cases hf:bH E nm with
 |none=>
  refine tT (string_keyed hk) ht h.map (h.keys hk) hl (fun x hx e=>?_) (hz W) false
  obtain⟨i,hi⟩:=Qv.1 hx
  obtain⟨d,hd,e1,_⟩:=cd h.prs hi
  rw[e1] at e
  cases e
  exact iN hf d (J7 hd) rfl
 |some d=>
  obtain⟨hd,hs⟩:=bG hf
  obtain⟨i,hi⟩:=Qv.1 hd
  have hil:i<es.length:=by
   have h1:=congrArg List.length h.prs
   have h2:=(J6.1 hi).1
   rw[iZ,Kz] at h1
   omega
  have hx:es[i]?=some (es[i]'hil):=J4 hil
  obtain⟨d1,hd1,e1,e2⟩:=cd h.prs hx
  rw[hi] at hd1
  cases hd1
  refine map_some (string_keyed hk) ht h.map (h.keys hk) hl ⟨_,List.getElem_mem hil,by rw[e1,hs]⟩ (fun x hx2 e=>?_) false
  obtain⟨j,hj⟩:=Qv.1 hx2
  obtain⟨d2,hd2,e3,e4⟩:=cd h.prs hj
  rw[e3] at e
  have e5:d2.y.s=d.y.s:=by cases e;exact hs.symm
  have hij:j=i:=by
   have hnd:=h.names
   have a1:(E.map (·.y.s))[j]?=some d.y.s:=by rw[Kv,hd2];exact congrArg some e5
   have a2:(E.map (·.y.s))[i]?=some d.y.s:=by rw[Kv,hi];rfl
   have b1:=(J6.1 a1).1
   have b2:=(J6.1 a2).1
   exact(List.getElem?_inj b1 hnd).1 (a1.trans a2.symm)
  subst hij
  rw[hi] at hd2
  cases hd2
  exact e4
theorem aa.mpLt {ST CT:ES} {W:EQ} {cp mp:Nat} {E:List En} {es:List MapEntry} {clock:Nat} (h:aa ST CT W cp mp E es clock):mp<W.heap.size:=(Qq.1 h.map).1
theorem aa.cpmp {ST CT:ES} {W:EQ} {cp mp:Nat} {E:List En} {es:List MapEntry} {clock:Nat} (h:aa ST CT W cp mp E es clock):cp≠mp:=by
 rintro rfl
 have h1:=h.box
 have h2:=h.map
 unfold aD at h1
 unfold jb at h2
 rw[h1] at h2
 cases h2
theorem aa.ins {ST CT:ES} {W W1 W2:EQ} {cp mp:Nat} {E:List En} {es:List MapEntry} {clock:Nat} (h:aa ST CT W cp mp E es clock) (hb:Below W.heap.size W W1) {d:En} (hd:d.Is ST W1) (hnew:∀g,d.has g->W.heap.size<=g) (hx:∀x∈d.xs,x.Is (fun g=>((∀d'∈E,¬d'.has g)/\g≠cp/\g≠mp)/\¬d.has g) W1)
 (hm:jb W2 mp (es++[fP (.string d.y.s) (.pointer (some ⟨d.p,0,none⟩)) clock]) (clock+1)) (hg:∀g,g<W1.heap.size->g≠mp->W2.heap[g]?=W1.heap[g]?) (hn:∀e∈E,e.y.s≠d.y.s) (hsm:d.y.s.size<=maxLen):aa ST CT W2 cp mp (E++[d]) (es++[fP (.string d.y.s) (.pointer (some ⟨d.p,0,none⟩)) clock]) (clock+1):=by
 have hmp:=h.mpLt
 have hcp:=h.box.lt
 have hne:=h.cpmp
 have hz:=hb.size
 have kp:∀g,g<W.heap.size->g≠mp->W2.heap[g]?=W.heap[g]?:=fun g h1 h2=>(hg g (by omega) h2).trans (hb.block g h1)
 refine⟨(kp cp hcp hne).trans h.box,hm,?_,?_,?_,?_,?_,?_,?_,?_,?_⟩
 ·intro x hx
  rcases X5.1 hx with h1|h1
  ·have:=h.b1 x h1;omega
  ·simp at h1;subst h1;show clock<clock+1;omega
 ·rw[List.map_append,List.nodup_append]
  refine⟨h.b2,by simp,fun a ha b hb2=>?_⟩
  simp[fP] at hb2;subst hb2
  obtain⟨x,hx,rfl⟩:=Vy.1 ha
  have:=h.b1 x hx
  show x.born≠_
  omega
 ·have:=h.prs
  simp only[Go.Proofs.YteembinfgbapgaaGreat.prs,List.map_append] at this |-
  rw[this]
  rfl
 ·intro e he
  rcases X5.1 he with h1|h1
  ·exact(h.ents e h1).keep (fun g hgg=>kp g (En.lt (h.ents e h1) hgg) (by rintro rfl;exact(h.free e h1).2 hgg))
  ·simp at h1;subst h1
   exact hd.keep (fun g hgg=>hg g (En.lt hd hgg) (by have:=hnew g hgg;omega))
 ·rw[List.map_append,List.nodup_append]
  refine⟨h.names,by simp,fun a ha b hb2=>?_⟩
  simp at hb2;subst hb2
  obtain⟨e,he,rfl⟩:=Vy.1 ha
  exact hn e he
 ·intro e he
  rcases X5.1 he with h1|h1
  ·exact h.small e h1
  ·simp at h1;subst h1;exact hsm
 ·rw[List.pairwise_append]
  refine⟨h.apart,by simp,fun a ha b hb2 g h1 h2=>?_⟩
  simp at hb2;subst hb2
  have:=En.lt (h.ents a ha) h1
  have:=hnew g h2
  omega
 ·intro e he
  rcases X5.1 he with h1|h1
  ·exact h.free e h1
  ·simp at h1;subst h1
   exact⟨fun hc=>by have:=hnew _ hc;omega,fun hc=>by have:=hnew _ hc;omega⟩
 ·intro e he x hxe
  rcases X5.1 he with h1|h1
  ·refine((h.tabs e h1 x hxe).lt.keep (fun g hgg=>kp g hgg.2 hgg.1.2.2)).mono (fun g hgg=>⟨fun d' hd'=>?_,hgg.1.2⟩)
   rcases X5.1 hd' with h2|h2
   ·exact hgg.1.1 d' h2
   ·simp at h2;subst h2
    intro hc
    have:=hnew g hc
    omega
  ·simp at h1;subst h1
   refine((hx x hxe).lt.keep (fun g hgg=>hg g hgg.2 hgg.1.1.2.2)).mono (fun g hgg=>⟨fun d' hd'=>?_,hgg.1.1.2⟩)
   rcases X5.1 hd' with h2|h2
   ·exact hgg.1.1.1 d' h2
   ·simp at h2;subst h2;exact hgg.1.2
theorem aa.insert {ST CT:ES} {W W1 W2:EQ} {cp mp:Nat} {E:List En} {es:List MapEntry} {clock:Nat} (h:aa ST CT W cp mp E es clock) (hb:Below W.heap.size W W1) {d:En} (hd:d.Is ST W1) (hnew:∀g,d.has g->W.heap.size<=g) (hx:∀x∈d.xs,x.Is (fun g=>W.heap.size<=g/\¬d.has g) W1)
 (hm:jb W2 mp (es++[fP (.string d.y.s) (.pointer (some ⟨d.p,0,none⟩)) clock]) (clock+1)) (hg:∀g,g<W1.heap.size->g≠mp->W2.heap[g]?=W1.heap[g]?) (hn:∀e∈E,e.y.s≠d.y.s) (hsm:d.y.s.size<=maxLen):aa ST CT W2 cp mp (E++[d]) (es++[fP (.string d.y.s) (.pointer (some ⟨d.p,0,none⟩)) clock]) (clock+1):=
 h.ins hb hd hnew (fun x hxm=>(hx x hxm).mono fun g hg=>⟨⟨fun e he hc=>by have:=En.lt (h.ents e he) hc;omega,by have:=h.box.lt;omega,by have:=h.mpLt;omega⟩,hg.2⟩) hm hg hn hsm
theorem aa.turn {ST CT:ES} {W W2:EQ} {cp mp:Nat} {E:List En} {es es':List MapEntry} {clock clock':Nat} (h:aa ST CT W cp mp E es clock) {i:Nat} {d d':En} (hi:E[i]?=some d) (hs:d'.y.s=d.y.s) (hd:d'.Is ST W2) (hnew:∀g,d'.has g->d.has g\/W.heap.size<=g) (hx:∀x∈d'.xs,x∈d.xs\/x.Is (fun g=>W.heap.size<=g/\¬d'.has g) W2)
 (hm:jb W2 mp es' clock') (hb1:∀x∈es',x.born<clock') (hb2:(es'.map (·.born)).Nodup) (hp:Go.Proofs.YteembinfgbapgaaGreat.prs es'=(E.set i d').map fun d=>(Value.string d.y.s,Value.pointer (some ⟨d.p,0,none⟩))) (hg:∀g,g<W.heap.size->¬d.has g->g≠mp->W2.heap[g]?=W.heap[g]?):aa ST CT W2 cp mp (E.set i d') es' clock':=by
 have hmp:=h.mpLt
 have hcp:=h.box.lt
 have hne:=h.cpmp
 have hdE:d∈E:=J7 hi
 have hil:i<E.length:=(J6.1 hi).1
 have hother:∀j e,E[j]?=some e->j≠i->∀g,e.has g->¬d.has g:=fun j e hj hji g h1 h2=>by
  have hjl:=(J6.1 hj).1
  have ej:E[j]'hjl=e:=(J6.1 hj).2
  have ei:E[i]'hil=d:=(J6.1 hi).2
  have hpw:=List.pairwise_iff_getElem.1 h.apart
  rcases(by omega:j<i\/i<j) with hlt|hlt
  ·have:=hpw j i hjl hil hlt g
   rw[ej,ei] at this
   exact this h1 h2
  ·have:=hpw i j hil hjl hlt g
   rw[ej,ei] at this
   exact this h2 h1
 have mem:∀e,e∈E.set i d'->e=d'\/∃j,j≠i/\E[j]?=some e:=fun e he=>by
  obtain⟨j,hj⟩:=Qv.1 he
  by_cases hji:j=i
  ·subst hji
   rw[List.getElem?_set_self hil] at hj
   exact .inl (Jj hj).symm
  ·rw[Vz (by omega)] at hj
   exact .inr ⟨j,hji,hj⟩
 refine⟨(hg cp hcp (h.free d hdE).1 hne).trans h.box,hm,hb1,hb2,hp,?_,?_,?_,?_,?_,?_⟩
 ·intro e he
  rcases mem e he with rfl|⟨j,hji,hj⟩
  ·exact hd
  ·have heE:=J7 hj
   exact(h.ents e heE).keep (fun g hgg=>hg g (En.lt (h.ents e heE) hgg) (hother j e hj hji g hgg) (by rintro rfl;exact(h.free e heE).2 hgg))
 ·rw[List.map_set]
  have:(E.map (·.y.s)).set i d'.y.s=E.map (·.y.s):=by
   rw[hs]
   apply Xk
   intro n
   by_cases hn:i=n
   ·subst hn
    rw[List.getElem?_set_self (by simpa using hil),Kv,hi];rfl
   ·rw[Vz hn]
  rw[this]
  exact h.names
 ·intro e he
  rcases mem e he with rfl|⟨j,hji,hj⟩
  ·rw[hs];exact h.small d hdE
  ·exact h.small e (J7 hj)
 ·rw[List.pairwise_iff_getElem]
  intro a b ha hb hab g h1 h2
  have ha':a<E.length:=by simpa using ha
  have hb':b<E.length:=by simpa using hb
  have hpw:=List.pairwise_iff_getElem.1 h.apart
  by_cases hai:a=i
  ·subst hai
   rw[List.getElem_set_self] at h1
   rw[List.getElem_set_ne (by omega)] at h2
   rcases hnew g h1 with h3|h3
   ·exact hother b _ (J4 hb') (by omega) g h2 h3
   ·have:=En.lt (h.ents _ (List.getElem_mem hb')) h2
    omega
  ·rw[List.getElem_set_ne (by omega)] at h1
   by_cases hbi:b=i
   ·subst hbi
    rw[List.getElem_set_self] at h2
    rcases hnew g h2 with h3|h3
    ·exact hother a _ (J4 ha') (by omega) g h1 h3
    ·have:=En.lt (h.ents _ (List.getElem_mem ha')) h1
     omega
   ·rw[List.getElem_set_ne (by omega)] at h2
    exact hpw a b ha' hb' hab g h1 h2
 ·intro e he
  rcases mem e he with rfl|⟨j,hji,hj⟩
  ·refine⟨fun hc=>?_,fun hc=>?_⟩
   ·rcases hnew _ hc with h3|h3
    ·exact(h.free d hdE).1 h3
    ·omega
   ·rcases hnew _ hc with h3|h3
    ·exact(h.free d hdE).2 h3
    ·omega
  ·exact h.free e (J7 hj)
 ·have old:∀e∈E,∀x∈e.xs,x.Is (fun g=>(∀d''∈E.set i d',¬d''.has g)/\g≠cp/\g≠mp) W2:=fun e he x hxe=>by
   refine((h.tabs e he x hxe).lt.keep (fun g hgg=>hg g hgg.2 (hgg.1.1 d hdE) hgg.1.2.2)).mono (fun g hgg=>⟨fun d'' hd''=>?_,hgg.1.2⟩)
   rcases mem d'' hd'' with rfl|⟨j,hji,hj⟩
   ·intro hc
    rcases hnew g hc with h3|h3
    ·exact hgg.1.1 d hdE h3
    ·omega
   ·exact hgg.1.1 d'' (J7 hj)
  intro e he x hxe
  rcases mem e he with rfl|⟨j,hji,hj⟩
  ·rcases hx x hxe with h1|h1
   ·exact old d hdE x h1
   ·refine h1.mono (fun g hgg=>⟨fun d'' hd''=>?_,by have:=hgg.1;omega,by have:=hgg.1;omega⟩)
    rcases mem d'' hd'' with rfl|⟨j,hji,hj⟩
    ·exact hgg.2
    ·intro hc
     have:=En.lt (h.ents d'' (J7 hj)) hc
     have:=hgg.1
     omega
  ·exact old e (J7 hj) x hxe
theorem Cu {E:List En} {i:Nat} {d d':En} (hi:E[i]?=some d) (hs:d'.y.s=d.y.s) (hp:d'.p=d.p):((E.set i d').map fun d=>(Value.string d.y.s,Value.pointer (some ⟨d.p,0,none⟩)))=E.map fun d=>(Value.string d.y.s,Value.pointer (some ⟨d.p,0,none⟩)):=by
 rw[List.map_set,hs,hp]
 apply Xk
 intro n
 by_cases hn:i=n
 ·subst hn
  rw[List.getElem?_set_self (by simpa using(J6.1 hi).1),Kv,hi];rfl
 ·rw[Vz hn]
def gO (cs:EO):Prop:=cs=[]\/(∃s r,cs=Value.string s :: r)\/∃k i l j r,cs=Value.int k i :: Value.int l j :: r
def cU (E:List En) (mp g:Nat):Prop:=g≠mp/\∀d∈E,¬d.has g
theorem aa.solid {ST CT:ES} {W:EQ} {cp mp:Nat} {E:List En} {es:List MapEntry} {clock:Nat} (h:aa ST CT W cp mp E es clock) {A:EL} {cs:EO} (hA:Rd W A cs) (hs:gO cs):au (cU E mp) W A cs:=by
 intro hn
 obtain⟨ad,e,hc⟩:=hA hn
 refine⟨ad,e,?_,hc⟩
 have hadd:∀j,(ad.add j).block=ad.block:=fun j=>by unfold Addr.add;split <;> rfl
 have h0:∃u,cs[0]?=some u:=by cases cs with|nil=>exact absurd rfl hn|cons u r=>exact⟨u,rfl⟩
 obtain⟨u0,hu0⟩:=h0
 have c0:=hc 0 u0 hu0
 have sl0:¬wI u0:=by
  rintro ⟨a,b,c,rfl⟩
  rcases hs with rfl|⟨s,r,rfl⟩|⟨k,i,l,j,r,rfl⟩
  ·exact hn rfl
  ·simp at hu0
  ·simp at hu0
 refine⟨fun hm=>?_,fun d hd hh=>?_⟩
 ·have hb:W.heap[(ad.add 0).block]?=some (.map es.toArray clock):=by rw[hadd,hm];exact h.map
  simp[World.cell?,hb] at c0
 ·have hI:=h.ents d hd
  rcases hh with hp|hv
  ·have hbx:=hI.box
   unfold aD at hbx
   have hb:∀j,W.heap[(ad.add j).block]?=some (.cells #[.int .i64 (d.y.old:Nat),d.v] ST):=fun j=>by rw[hadd,hp];exact hbx
   have get:∀j u,cs[j]?=some u->(ad.add j).spot=none/\(#[Value.int .i64 (d.y.old:Nat),d.v]:Array ER)[(ad.add j).off]?=some u:=fun j u hj=>by
    have:=hc j u hj
    simp only[World.cell?,hb j] at this
    split at this
    ·cases this
    ·rename_i h2
     exact⟨by simpa using h2,this⟩
   have hv2:wI d.v:=by
    rcases hI.row.2 with ⟨e2,_⟩|⟨g,cap,cur,e2,_⟩ <;> exact⟨_,_,_,e2⟩
   obtain⟨g0,g1⟩:=get 0 u0 hu0
   have off0:(ad.add 0).off=0:=by
    rcases Nat.lt_or_ge (ad.add 0).off 1 with h1|h1
    ·omega
    ·have hlt:=(Qq.1 g1).1
     simp at hlt
     have h2:(ad.add 0).off=1:=by omega
     rw[h2] at g1
     have h3:d.v=u0:=by simpa using g1
     exact absurd (h3▸hv2) sl0
   rw[off0] at g1
   have hu:u0=.int .i64 (d.y.old:Nat):=by simpa using g1.symm
   rcases hs with rfl|⟨s,r,rfl⟩|⟨k,i,l,j,r,rfl⟩
   ·exact hn rfl
   ·simp at hu0;rw[<-hu0] at hu;cases hu
   ·obtain⟨_,q1⟩:=get 1 (.int l j) rfl
    have o1:(ad.add 1).off=1:=by
     have:(ad.add 1).off=(ad.add 0).off+1:=by unfold Addr.add;simp
     omega
    rw[o1] at q1
    have:d.v=.int l j:=by simpa using q1
    obtain⟨a,b,c,e3⟩:=hv2
    rw[e3] at this
    cases this
  ·have hall:=hI.sl _ hv
   have hspot:(ad.add 0).spot=none:=by
    cases hx:(ad.add 0).spot with
    |none=>rfl
    |some q=>
     unfold World.cell? at c0
     rw[hx] at c0
     split at c0 <;> simp at c0
   refine sl0 (hall (ad.add 0).off u0 ?_)
   have e4:(ad.add 0)=⟨ad.block,(ad.add 0).off,none⟩:=by
    cases hx:ad.add 0 with
    |mk b o s=>
     rw[hx] at hspot
     have:=hadd 0
     rw[hx] at this
     simp at hspot this |-
     exact⟨this,hspot⟩
   rw[<-e4]
   exact c0
structure bR (cp mp:Nat) (E E':List En) (W W':EQ):Prop where
 os:W'.os=W.os
 tape:W'.tape=W.tape
 output:W'.output=W.output
 size:W.heap.size<=W'.heap.size
 block:∀g,g<W.heap.size->cU E mp g->W'.heap[g]?=W.heap[g]?
 new:∀g,g<W.heap.size->cU E mp g->cU E' mp g
theorem bR.refl (cp mp:Nat) (E:List En) (W:EQ):bR cp mp E E W W:=⟨rfl,rfl,rfl,J9 _,fun _ _ _=>rfl,fun _ _ h=>h⟩
theorem bR.of {cp mp:Nat} {E:List En} {W W':EQ} (h:Below W.heap.size W W'):bR cp mp E E W W':=⟨h.os,h.tape,h.output,h.size,fun g hg _=>h.block g hg,fun _ _ h=>h⟩
theorem bR.low {cp mp:Nat} {E E':List En} {W W':EQ} (h:bR cp mp E E' W W') {B:Nat} (hB:B<=W.heap.size) (hm:B<=mp) (ho:∀d∈E,∀g,d.has g->B<=g):Below B W W':=
 ⟨h.os,h.tape,h.output,h.size,fun g hg=>h.block g (by omega) ⟨by omega,fun d hd hh=>by have:=ho d hd g hh;omega⟩⟩
theorem bR.rdP {cp mp:Nat} {E E':List En} {W W':EQ} (h:bR cp mp E E' W W') {A:EL} {cs:EO} (hA:au (cU E mp) W A cs):au (cU E' mp) W' A cs:=
 (hA.lt.keep (fun g hg=>h.block g hg.2 hg.1)).mono (fun g hg=>h.new g hg.2 hg.1)
theorem bR.solid {ST CT:ES} {W W':EQ} {cp mp:Nat} {E E':List En} {es:List MapEntry} {clock:Nat} (hc:aa ST CT W cp mp E es clock) (h:bR cp mp E E' W W') {A:EL} {cs:EO} (hA:Rd W A cs) (hs:gO cs):Rd W' A cs:=(h.rdP (hc.solid hA hs)).rd
theorem bR.trans {cp mp:Nat} {E E' E'':List En} {W W' W'':EQ} (h:bR cp mp E E' W W') (h':bR cp mp E' E'' W' W''):bR cp mp E E'' W W'':=
 ⟨h'.os.trans h.os,h'.tape.trans h.tape,h'.output.trans h.output,Q7 h.size h'.size,fun g hg hu=>(h'.block g (Nat.lt_of_lt_of_le hg h.size) (h.new g hg hu)).trans (h.block g hg hu),fun g hg hu=>h'.new g (Nat.lt_of_lt_of_le hg h.size) (h.new g hg hu)⟩
theorem bR.then {cp mp:Nat} {E E':List En} {W W' W'':EQ} (h:bR cp mp E E' W W') (h':Below W'.heap.size W' W''):bR cp mp E E' W W'':=h.trans (.of h')
theorem bR.after {cp mp:Nat} {E E':List En} {W W' W'':EQ} (h:Below W.heap.size W W') (h':bR cp mp E E' W' W''):bR cp mp E E' W W'':=(bR.of (cp:=cp) h).trans h'
theorem gO.flds (l:List Fd):gO (aC l):=by
 cases l with
 |nil=>exact .inl rfl
 |cons f r=>exact .inr (.inl ⟨f.s,_,rfl⟩)
theorem gO.moves (l:List Mv):gO (aJ l):=by
 cases l with
 |nil=>exact .inl rfl
 |cons f r=>exact .inr (.inr ⟨_,_,_,_,_,rfl⟩)
theorem yg (w:EQ):(zeroValue 86).run Tryz.prog w=.ok (.pointer none) w:=by rfl
theorem cD {W:EQ} {cp mp:Nat} {E:List En} {es:List MapEntry} {clock:Nat} (h:aa 89 80 W cp mp E es clock) {nm:EP} (hn:nm.size<=maxLen):
 (Instr.lookup 78 (.map (some mp)) (.string nm) false).run Tryz.prog W=.ok (match bH E nm with|some d=>.pointer (some ⟨d.p,0,none⟩)|none=>.pointer none) W:=
 h.look Tryz.underlying78 Tryz.underlying9 yg hn
theorem wG (w:EQ):Calls Tryz.prog 12 #[] w fun e w'=>e=.returned (.pointer (some ⟨w.heap.size+1,0,none⟩))/\aa 89 80 w' (w.heap.size+1) w.heap.size [] [] 0/\Below w.heap.size w w':=by
 have hmk:∀W:EQ,(Instr.makeMap 78 none).run Tryz.prog W=.ok (.map (some W.heap.size)) (W.alloc (.map #[] 0)):=fun W=>run_makeMap _ _
 go_enter Tryz.func12,Tryz.ntmps12
 go_wp2
 go_ret
 have B0:=aD.new (w.alloc (.map #[] 0)) [.map (some w.heap.size)] 80
 rw[Jq] at B0
 have M0:jb (w.alloc (.map #[] 0)) w.heap.size [] 0:=Y7 w _
 refine⟨by simp,⟨B0,M0.below (aA _),fun x hx=>(by cases hx),List.nodup_nil,rfl,fun d hd=>(by cases hd),List.nodup_nil,fun d hd=>(by cases hd),List.Pairwise.nil,fun d hd=>(by cases hd),fun d hd=>(by cases hd)⟩,aB (aA _) (aA _)⟩
theorem di (p old n:Nat) (X:EL) (c r:Nat) (hr:old+n=r+1) (hs:r<=1000) (w:EQ) (hb:aD w p [.int .i64 (old:Nat),.slice X n c] 89):
 Calls Tryz.prog 33 #[.pointer (some ⟨p,0,none⟩)] w fun e w'=>e=.returned (.int .i64 (r:Nat))/\Below w.heap.size w w':=by
 have hw1:IntKind.i64.wrap ((old:Int)+(n:Int))=(r:Int)+1:=(Xj _ (by omega)).trans (by omega)
 have hw2:IntKind.i64.wrap (r:Int)=(r:Int):=Xj _ (by omega)
 have b0:∀W,Below w.heap.size w W->W.cell? ⟨p,0,none⟩=some (.int .i64 (old:Nat))/\W.cell? ⟨p,1,none⟩=some (.slice X n c):=fun W h=>⟨(hb.below h).cell rfl,(hb.below h).cell rfl⟩
 go_enter Tryz.func33,Tryz.ntmps33
 go_upto_region 1 with fail
 refine RW.start (fun w'=>Below w.heap.size w w') (by kernel_rfl) (by kernel_rfl) (Jy _ _).drew ?_
 repeat (first
  |(refine' RW.val (by rfl) ?_ ?_;rotate_left;(focus (intro w' hS;have HB5:=hS;obtain⟨c0,c1⟩:=b0 _ HB5;clear hS;go_simp;rfl));simp only[Act.put,J1,J3,J2])
  |(refine RW.off (by rfl) ?_;simp only[Act.put,J1,J3,J2]))
 refine RW.done (fun w' hS=>?_)
 have HB5:=hS;obtain⟨c0,c1⟩:=b0 _ HB5;clear hS
 go_wp2
 go_ret
 exact⟨by rfl,HB5⟩
theorem pB {W:EQ} {cp mp:Nat} {E:List En} {es:List MapEntry} {clock:Nat} (h:aa 89 80 W cp mp E es clock) {nm:EP} (hn:nm.size<=maxLen) (hf:bH E nm=none):
 Calls Tryz.prog 15 #[.pointer (some ⟨cp,0,none⟩),.string nm] W fun e w'=>e=.returned (.tuple #[.int .i64 0,.int .i64 0,.int .i64 90])/\Below W.heap.size W w':=by
 have hlk:=cD h hn
 rw[hf] at hlk
 obtain⟨b0,_⟩:=h.box.f1
 go_enter Tryz.func15,Tryz.ntmps15
 go_wp2
 refine Xx (v:=.tuple #[.int .i64 0,.int .i64 0,.int .i64 90]) (by simp[results,Tryz.results15,go_sem, *];done) rfl ⟨rfl,Jy _ _⟩
theorem pC {W:EQ} {cp mp:Nat} {E:List En} {es:List MapEntry} {clock:Nat} (h:aa 89 80 W cp mp E es clock) {nm:EP} (hn:nm.size<=maxLen) {d:En} (hf:bH E nm=some d) (hok:d.y.Ok) (old top:Nat) (ho:d.y.old=old) (ht:d.y.top=top):
 Calls Tryz.prog 15 #[.pointer (some ⟨cp,0,none⟩),.string nm] W fun e w'=>e=.returned (.tuple #[.int .i64 (old:Nat),.int .i64 (top:Nat),.int .i64 0])/\Below W.heap.size W w':=by
 have hlk:=cD h hn
 rw[hf] at hlk
 obtain⟨b0,_⟩:=h.box.f1
 have hd:=h.ents d (bG hf).1
 obtain⟨X,c,ev,_,_,_⟩:=aL hd.row
 have hbx:=hd.box
 rw[ev,ho] at hbx
 have hlen:d.xs.length=d.y.ts.length:=by rw[<-hd.tabs,Kz]
 obtain⟨n,hnl⟩:∃n,d.xs.length=n:=⟨_,rfl⟩
 rw[hnl] at hbx
 have hsum:old+n=top+1:=by
  have h1:d.y.top=d.y.old+d.y.ts.length - 1:=rfl
  have h2:=hok.ne
  have h3:0<d.y.ts.length:=by cases hx:d.y.ts with|nil=>exact absurd hx h2|cons a r=>simp
  omega
 have htop:top<=64:=by rw[<-ht];exact hok.hi
 obtain⟨p,hp⟩:∃p,d.p=p:=⟨_,rfl⟩
 simp only[hp] at hlk
 rw[hp] at hbx
 have c0:∀W',Below W.heap.size W W'->W'.cell? ⟨p,0,none⟩=some (.int .i64 (old:Nat)):=fun W' hb=>(hbx.below hb).cell rfl
 have HS:=J0 hsum
 clear hf hd hlen hnl ho ht hok hsum hp h ev
 go_enter Tryz.func15,Tryz.ntmps15
 go_upto_region 4 with fail
 refine RW.start (fun w'=>Below W.heap.size W w') (by kernel_rfl) (by kernel_rfl) (Jy _ _).drew ?_
 repeat (first
  |(refine' RW.val (by rfl) ?_ ?_;rotate_left;(focus (intro w' hS;have HB5:=hS;have c1:=c0 _ HB5;clear hS;go_simp;rfl));simp only[Act.put,J1,J3,J2])
  |(refine RW.off (by rfl) ?_;simp only[Act.put,J1,J3,J2])
  |(refine' RW.call (by rfl) ?_ ?_ ?_
    rotate_left 3
    (focus (intro w' hS;have HB5:=hS;have c1:=c0 _ HB5;clear hS;go_simp;exact⟨rfl,rfl⟩))
    (focus
      intro w' hS
      have HB5:=hS;have c1:=c0 _ HB5;clear hS
      first
       |(refine(di p old n X c top HS.out (by omega) _ (hbx.below HB5)).mono ?_;rintro e w1 ⟨rfl,hb⟩;exact⟨rfl,(aB HB5 hb)⟩))
    simp only[Act.put,J1,J3,J2]))
 refine RW.done (fun w' hS=>?_)
 have HB5:=hS;have c1:=c0 _ HB5;clear hS
 go_wp2
 refine Xx (v:=.tuple #[.int .i64 (old:Nat),.int .i64 (top:Nat),.int .i64 0]) (by simp[results,Tryz.results15,go_sem, *];done) rfl ⟨rfl,HB5⟩
theorem Ah {w:EQ} {base:Nat} {e:ES} {K n:Nat} {v:ER} {xs:EO} (h:w.ownsRow base e K v n xs) (hn:0<n) (hK:0<K):∃g cap,v=.slice (some ⟨g,0,none⟩) n cap/\n<=cap:=by
 obtain⟨h1,h2⟩:=h
 rcases h2 with ⟨rfl,rfl⟩|⟨g,cap,cur,rfl,_,_,hle,_⟩
 ·simp at h1
  omega
 ·exact⟨g,cap,rfl,hle⟩
theorem En.open {W:EQ} {d:En} (hd:d.Is 89 W) (hok:d.y.Ok):∃g c n,d.v=.slice (some ⟨g,0,none⟩) n c/\n<=c/\d.xs.length=n/\d.y.old+n=d.y.top+1/\d.y.top<=64/\0<n/\Rd W (some ⟨g,0,none⟩) (ah d.xs):=by
 have hlen:d.xs.length=d.y.ts.length:=by rw[<-hd.tabs,Kz]
 have h3:0<d.y.ts.length:=by cases hx:d.y.ts with|nil=>exact absurd hx hok.ne|cons a r=>simp
 obtain⟨g,c,e,hc⟩:=Ah hd.row (by omega) (by omega)
 refine⟨g,c,d.xs.length,e,hc,rfl,?_,hok.hi,by omega,?_⟩
 ·have h1:d.y.top=d.y.old+d.y.ts.length - 1:=rfl
  omega
 ·have:=hd.row
  rw[e] at this
  exact iW this
theorem Rd.tab {W:EQ} {g:Nat} {xs:List bB} (h:Rd W (some ⟨g,0,none⟩) (ah xs)) {i:Nat} {x:bB} (hx:xs[i]?=some x):W.cell? ⟨g,i * 3,none⟩=some (.slice x.A x.t.o.length x.a)/\W.cell? ⟨g,i * 3+1,none⟩=some (.slice x.B x.t.n.length x.b)/\W.cell? ⟨g,i * 3+2,none⟩=some (.slice x.C x.t.m.length x.c):=by
 obtain⟨h0,h1,h2⟩:=nI hx
 obtain⟨_,e,hc⟩:=h (by intro e;rw[e] at h0;simp at h0)
 cases e
 have key:∀j u,(ah xs)[j]?=some u->W.cell? ⟨g,j,none⟩=some u:=fun j u hj=>by
  have:=hc j u hj
  unfold Addr.add at this
  split at this
  ·rename_i hz;subst hz;exact this
  ·simpa using this
 exact⟨key _ _ h0,key _ _ h1,key _ _ h2⟩
theorem pj {W:EQ} {cp mp:Nat} {E:List En} {es:List MapEntry} {clock:Nat} (h:aa 89 80 W cp mp E es clock) {nm:EP} (hn:nm.size<=maxLen) (hf:bH E nm=none) (v:Int):
 Calls Tryz.prog 34 #[.pointer (some ⟨cp,0,none⟩),.string nm,.int .i64 v] W fun e w'=>e=.returned (.tuple #[.slice none 0 0,.int .i64 90])/\Below W.heap.size W w':=by
 have hlk:=cD h hn
 rw[hf] at hlk
 obtain⟨b0,_⟩:=h.box.f1
 go_enter Tryz.func34,Tryz.ntmps34
 go_wp2
 refine Xx (v:=.tuple #[.slice none 0 0,.int .i64 90]) (by simp[results,Tryz.results34,go_sem, *];done) rfl ⟨rfl,Jy _ _⟩
theorem tO {W:EQ} {cp mp:Nat} {E:List En} {es:List MapEntry} {clock:Nat} (h:aa 89 80 W cp mp E es clock) {nm:EP} (hn:nm.size<=maxLen) {d:En} (hf:bH E nm=some d) (hok:d.y.Ok) (v:Int) (hv:v<(d.y.old:Int)\/(d.y.top:Int)<v):
 Calls Tryz.prog 34 #[.pointer (some ⟨cp,0,none⟩),.string nm,.int .i64 v] W fun e w'=>e=.returned (.tuple #[.slice none 0 0,.int .i64 90])/\Below W.heap.size W w':=by
 have hlk:=cD h hn
 rw[hf] at hlk
 obtain⟨b0,_⟩:=h.box.f1
 have hd:=h.ents d (bG hf).1
 obtain⟨g,c,n,ev,_,hnl,hsum,htop,hpos,_⟩:=En.open hd hok
 have hbx:=hd.box
 rw[ev] at hbx
 obtain⟨old,ho⟩:∃x,d.y.old=x:=⟨_,rfl⟩
 obtain⟨top,ht⟩:∃x,d.y.top=x:=⟨_,rfl⟩
 rw[ho] at hbx hsum hv
 rw[ht] at hsum htop hv
 obtain⟨p,hp⟩:∃p,d.p=p:=⟨_,rfl⟩
 simp only[hp] at hlk
 rw[hp] at hbx
 obtain⟨c0,c1⟩:W.cell? ⟨p,0,none⟩=some (.int .i64 (old:Nat))/\W.cell? ⟨p,1,none⟩=some (.slice (some ⟨g,0,none⟩) n c):=⟨hbx.cell rfl,hbx.cell rfl⟩
 have HS:=J0 hsum
 clear hf hd hnl ho ht hok hsum hp h ev
 by_cases hlo:v<(old:Int)
 ·have e1:decide (v<(old:Int))=true:=by simpa using hlo
  clear hv
  go_enter Tryz.func34,Tryz.ntmps34
  go_wp2
  refine Xx (v:=.tuple #[.slice none 0 0,.int .i64 90]) (by simp[results,Tryz.results34,go_sem, *];done) rfl ⟨rfl,Jy _ _⟩
 ·have e1:decide (v<(old:Int))=false:=by simpa using hlo
  have e2:decide ((top:Int)<v)=true:=by
   rcases hv with h1|h1
   ·exact absurd h1 hlo
   ·simpa using h1
  clear hv
  have HB:=Jy W.heap.size W
  go_enter Tryz.func34,Tryz.ntmps34
  go_wp2_with (go_at_call 33;refine(di p old n _ c top HS.out (by omega) _ hbx).mono ?_;rintro e w1 ⟨rfl,hb⟩;replace HB:=HB.trans (hb.mono HB.size);clear hb)
  refine Xx (v:=.tuple #[.slice none 0 0,.int .i64 90]) (by simp[results,Tryz.results34,go_sem, *];done) rfl ⟨rfl,HB⟩
theorem iP {W:EQ} {mp:Nat} {es:List MapEntry} {clock:Nat} (hb:jb W mp es clock):(Builtin.len_ #[78] 3 #[.map (some mp)]).run Tryz.prog W=.ok (.int .i64 (es.length:Nat)) W:=by
 simp[Builtin.len_,run_underlying Tryz.underlying78,MapKept.run_getObj_map hb,goInt]
theorem sF {W:EQ} {cp mp:Nat} {E:List En} {es:List MapEntry} {clock:Nat} (h:aa 89 80 W cp mp E es clock) {nm:EP} (hn:nm.size<=maxLen) (A:EL) (cA m:Nat) (fs:List Fd) (hm:fs.length=m) (hl:m<=9223372036854775807) (hcA:m<=cA) (hA:Rd W A (aC fs)) (hbad:bI nm=false\/aK fs=false):
 Calls Tryz.prog 28 #[.pointer (some ⟨cp,0,none⟩),.string nm,.slice A m cA] W fun e w'=>e=.returned (.int .i64 60)/\Below W.heap.size W w':=by
 obtain⟨x,hx⟩:∃x,bI nm=x:=⟨_,rfl⟩
 obtain⟨y,hy⟩:∃y,aK fs=y:=⟨_,rfl⟩
 rw[hx,hy] at hbad
 have HNM:=J0 hx;have HR:=J0 hy;have HM:=J0 hm
 have HB:=Jy W.heap.size W
 clear hx hy hm h
 cases x
 ·clear hbad
  go_enter Tryz.func28,Tryz.ntmps28
  go_wp2_with (first|(go_at_call 50;refine(eH nm _ HNM.out _).mono ?_;rintro e W1 ⟨rfl,hb⟩;replace HB:=HB.trans (hb.mono HB.size);clear hb))
  go_ret
  exact⟨rfl,HB⟩
 ·obtain rfl:y=false:=by rcases hbad with h|h <;> simp_all
  clear hbad
  go_enter Tryz.func28,Tryz.ntmps28
  go_wp2_with (first|(go_at_call 50;refine(eH nm _ HNM.out _).mono ?_;rintro e W1 ⟨rfl,hb⟩;replace HB:=HB.trans (hb.mono HB.size);clear hb)|(go_at_call 62;refine(bY A cA m fs HM.out _ HR.out _ (hA.below HB) hl).mono ?_;rintro e W2 ⟨rfl,hb⟩;replace HB:=HB.trans (hb.mono HB.size);clear hb))
  go_ret
  exact⟨rfl,HB⟩
theorem qR {W:EQ} {cp mp:Nat} {E:List En} {es:List MapEntry} {clock:Nat} (h:aa 89 80 W cp mp E es clock) {nm:EP} (hn:nm.size<=maxLen) (A:EL) (cA m:Nat) (fs:List Fd) (hm:fs.length=m) (hl:m<=9223372036854775807) (hcA:m<=cA) (hA:Rd W A (aC fs)) (hx:bI nm=true) (hy:aK fs=true) (hbad:bH E nm≠none\/16<=E.length):
 Calls Tryz.prog 28 #[.pointer (some ⟨cp,0,none⟩),.string nm,.slice A m cA] W fun e w'=>e=.returned (.int .i64 91)/\Below W.heap.size W w':=by
 have HNM:=J0 hx;have HR:=J0 hy;have HM:=J0 hm
 have HB:=Jy W.heap.size W
 clear hx hy hm
 have hel:es.length=E.length:=by have:=congrArg List.length h.prs;rw[iZ,Kz] at this;exact this
 have HH:=J0 h
 cases hf:bH E nm with
 |some d=>
  have hlk:∀W',Below W.heap.size W W'->(Instr.lookup 78 (.map (some mp)) (.string nm) false).run Tryz.prog W'=.ok (.pointer (some ⟨d.p,0,none⟩)) W':=fun W' hb=>by have:=cD (HH.out.below hb) hn;rw[hf] at this;exact this
  have hb0:∀W',Below W.heap.size W W'->W'.cell? ⟨cp,0,none⟩=some (.map (some mp)):=fun W' hb=>(HH.out.below hb).box.f1.1
  obtain⟨p,hp⟩:∃p,d.p=p:=⟨_,rfl⟩
  simp only[hp] at hlk
  have HLK:=J0 hlk;have HB0:=J0 hb0
  clear hbad hf hp h hlk hb0 hel
  go_enter Tryz.func28,Tryz.ntmps28
  go_upto_region 3 with (first|(go_at_call 50;refine(eH nm _ HNM.out _).mono ?_;rintro e W1 ⟨rfl,hb⟩;replace HB:=HB.trans (hb.mono HB.size);clear hb)|(go_at_call 62;refine(bY A cA m fs HM.out _ HR.out _ (hA.below HB) hl).mono ?_;rintro e W2 ⟨rfl,hb⟩;replace HB:=HB.trans (hb.mono HB.size);clear hb))
  have k1:=HLK.out _ HB
  have k2:=HB0.out _ HB
  go_wp2
  go_ret
  exact⟨rfl,HB⟩
 |none=>
  have h16:16<=E.length:=by
   rcases hbad with h1|h1
   ·exact absurd hf h1
   ·exact h1
  have hn16:16<=es.length:=by omega
  have hlk:∀W',Below W.heap.size W W'->(Instr.lookup 78 (.map (some mp)) (.string nm) false).run Tryz.prog W'=.ok (.pointer none) W':=fun W' hb=>by have:=cD (HH.out.below hb) hn;rw[hf] at this;exact this
  have hb0:∀W',Below W.heap.size W W'->W'.cell? ⟨cp,0,none⟩=some (.map (some mp)):=fun W' hb=>(HH.out.below hb).box.f1.1
  have hln:∀W',Below W.heap.size W W'->(Builtin.len_ #[78] 3 #[.map (some mp)]).run Tryz.prog W'=.ok (.int .i64 (es.length:Nat)) W':=fun W' hb=>iP (HH.out.below hb).map
  have HLK:=J0 hlk;have HB0:=J0 hb0;have HLN:=J0 hln
  have e16:(16:Int)<=(es.length:Int):=by omega
  clear hbad hf h hlk hb0 hel h16 hln
  go_enter Tryz.func28,Tryz.ntmps28
  go_upto_region 3 with (first|(go_at_call 50;refine(eH nm _ HNM.out _).mono ?_;rintro e W1 ⟨rfl,hb⟩;replace HB:=HB.trans (hb.mono HB.size);clear hb)|(go_at_call 62;refine(bY A cA m fs HM.out _ HR.out _ (hA.below HB) hl).mono ?_;rintro e W2 ⟨rfl,hb⟩;replace HB:=HB.trans (hb.mono HB.size);clear hb))
  have k1:=HLK.out _ HB
  have k2:=HB0.out _ HB
  have k3:=HLN.out _ HB
  go_wp2
  go_ret
  exact⟨rfl,HB⟩
theorem wX {ST CT:ES} {W:EQ} {cp mp:Nat} {E:List En} {es:List MapEntry} {clock:Nat} (h:aa ST CT W cp mp E es clock) {nm:EP} (hf:bH E nm=none):∀x∈es,x.key≠.string nm:=by
 intro x hx e
 obtain⟨i,hi⟩:=Qv.1 hx
 obtain⟨d,hd,e1,_⟩:=cd h.prs hi
 rw[e1] at e
 exact iN hf d (J7 hd) (by injection e)
theorem aO.refl (r2 r3:Option Nat) (w:EQ):aO r2 r3 w w:=⟨rfl,rfl,rfl,J9 _,fun _ _ _ _=>rfl⟩
theorem aO.drew {r2 r3:Option Nat} {w W:EQ} (h:aO r2 r3 w W):aO r2 r3 w W.drew:=⟨h.os,h.tape,h.output,h.size,h.block⟩
theorem xM {W:EQ} {cp mp:Nat} {E:List En} {es:List MapEntry} {clock:Nat} (h:aa 89 80 W cp mp E es clock) {nm:EP} (hn:nm.size<=maxLen) (A:EL) (cA m:Nat) (fs:List Fd) (hm:fs.length=m) (hl:m<=9223372036854775807) (hcA:m<=cA) (hA:Rd W A (aC fs)) (hx:bI nm=true) (hy:aK fs=true) (hf:bH E nm=none) (h16:E.length<16):
 Calls Tryz.prog 28 #[.pointer (some ⟨cp,0,none⟩),.string nm,.slice A m cA] W fun e w'=>e=.returned (.int .i64 0)/\∃d es',d.y=⟨nm,1,[bA fs]⟩/\aa 89 80 w' cp mp (E++[d]) es' (clock+1)/\bR cp mp E (E++[d]) W w':=by
 have HNM:=J0 hx;have HR:=J0 hy;have HM:=J0 hm;have HF:=J0 hf
 have HB:=Jy W.heap.size W
 have hel:es.length=E.length:=by have:=congrArg List.length h.prs;rw[iZ,Kz] at this;exact this
 have HH:=J0 h
 have hn16:es.length<16:=by omega
 have e16:(es.length:Int)<(16:Int):=by omega
 have hcm:=h.cpmp
 clear hx hy hm hel hf h
 go_enter Tryz.func28,Tryz.ntmps28
 go_upto_region 3 with (first|(go_at_call 50;refine(eH nm _ HNM.out _).mono ?_;rintro e W1 ⟨rfl,hb⟩;replace HB:=HB.trans (hb.mono HB.size);clear hb)|(go_at_call 62;refine(bY A cA m fs HM.out _ HR.out _ (hA.below HB) hl).mono ?_;rintro e W2 ⟨rfl,hb⟩;replace HB:=HB.trans (hb.mono HB.size);clear hb))
 have h2:=HH.out.below HB
 have k1:=cD h2 hn
 rw[HF.out] at k1
 have k2:=h2.box.f1.1
 have k3:=iP h2.map
 have H2:=J0 h2
 clear h2
 go_upto_region 5 with fail
 have hall:∀W',aO (some mp) none W2 W'->W'.cell? ⟨cp,0,none⟩=some (.map (some mp))/\aO (some mp) none W2 W':=fun W' hO=>⟨(H2.out.box.only hO (by simpa using hcm) (by simp)).f1.1,hO⟩
 have hAd:Rd W2.drew A (aC fs):=hA.below HB.drew
 obtain⟨lk,hlk⟩:=gB (P:=Tryz.prog) Tryz.underlying9 hn
 refine wp_region_noPanic ?_
 refine wp_region_held_drew (S:=(fun W'=>W'.cell? ⟨cp,0,none⟩=some (.map (some mp))/\aO (some mp) none W2 W')) (by kernel_rfl) ?_ (fun hHeld=>?_)
 ·(refine hall _ ?_;repeat (first|assumption|exact aO.refl _ _ _|apply aO.drew|refine aO.seq ?_ (aA _)))
 refine Y6 (i:=0) (oi:=_) (v:=?_) rfl (by kernel_rfl) (by kernel_rfl) (by kernel_rfl) (fun _ _ _ h=>h) (Or.inl ⟨by rfl,?_⟩) hHeld ?_
 rotate_left
 ·(intro w hSw;(try dsimp only at hSw);go_simp;first|done|with_reducible rfl)
 try simp only[Act.put,J1,J3,J2,Ky,K9,Jz]
 refine Y6 (i:=1) (oi:=_) (v:=?_) rfl (by kernel_rfl) (by kernel_rfl) (by kernel_rfl) (fun _ _ _ h=>h) (Or.inl ⟨by rfl,?_⟩) hHeld ?_
 rotate_left
 ·(intro w hSw;(try dsimp only at hSw);go_simp;first|done|with_reducible rfl)
 try simp only[Act.put,J1,J3,J2,Ky,K9,Jz]
 refine Y6 (i:=2) (oi:=_) (v:=?_) rfl (by kernel_rfl) (by kernel_rfl) (by kernel_rfl) (fun _ _ _ h=>h) (Or.inl ⟨by rfl,?_⟩) hHeld ?_
 rotate_left
 ·(intro w hSw;(try dsimp only at hSw);go_simp;first|done|with_reducible rfl)
 try simp only[Act.put,J1,J3,J2,Ky,K9,Jz]
 refine Y6 (i:=3) (oi:=_) (v:=?_) rfl (by kernel_rfl) (by kernel_rfl) (by kernel_rfl) (fun _ _ _ h=>h) (Or.inl ⟨by rfl,?_⟩) hHeld ?_
 rotate_left
 ·(intro w hSw;(try dsimp only at hSw);go_simp;first|done|with_reducible rfl)
 try simp only[Act.put,J1,J3,J2,Ky,K9,Jz]
 refine Y6 (i:=4) (oi:=_) (v:=?_) rfl (by kernel_rfl) (by kernel_rfl) (by kernel_rfl) (fun _ _ _ h=>h) (Or.inl ⟨by rfl,?_⟩) hHeld ?_
 rotate_left
 ·(intro w hSw;(try dsimp only at hSw);go_simp;first|done|with_reducible rfl)
 try simp only[Act.put,J1,J3,J2,Ky,K9,Jz]
 refine Y6 (i:=5) (oi:=_) (v:=?_) rfl (by kernel_rfl) (by kernel_rfl) (by kernel_rfl) (fun _ _ _ h=>h) (Or.inl ⟨by rfl,?_⟩) hHeld ?_
 rotate_left
 ·(intro w hSw;(try dsimp only at hSw);go_simp;first|done|with_reducible rfl)
 try simp only[Act.put,J1,J3,J2,Ky,K9,Jz]
 refine wpAnyH_ready (rs:=[6]) (by kernel_rfl) (by simp) ?_
 refine AllReadyH.cons (o:=_) rfl (fun K hK=>?_) AllReadyH.nil
 go_simp
 (go_at_call 45;refine(jO A cA m fs HM.out HR.out _ hAd hl hcA).mono ?_;rintro e W3 ⟨X0,z0,v2,v3,b1,b2,rfl,hd0,hb1,hb12,hb2,R1,hBl,own2,lt2,own3,hbS⟩;obtain⟨_,HOx⟩:=hHeld;have HO3:=aO.seq HOx hbS;obtain⟨X1,z1,rfl,u1,u2,r1⟩:=aL own2;obtain⟨X2,z2,rfl,u4,u5,r2⟩:=aL own3)
 try (go_wp2_with fail)
 refine hK.out _ _ ?_ (fun hHeld=>?_)
 ·(try dsimp only);(refine hall _ ?_;repeat (first|assumption|exact aO.refl _ _ _|apply aO.drew|refine aO.seq ?_ (aA _)))
 clear hK K
 try simp only[Act.put,J1,J3,J2,Ky,K9,Jz]
 refine wpAnyH_ready (rs:=[7]) (by kernel_rfl) (by simp) ?_
 refine AllReadyH.cons (o:=_) rfl (fun K hK=>?_) AllReadyH.nil
 go_simp
 refine hK.out _ _ ?_ (fun hHeld=>?_)
 ·(try dsimp only);(refine hall _ ?_;repeat (first|assumption|exact aO.refl _ _ _|apply aO.drew|refine aO.seq ?_ (aA _)))
 clear hK K
 try simp only[Act.put,J1,J3,J2,Ky,K9,Jz]
 refine Y6 (i:=8) (oi:=_) (v:=?_) rfl (by kernel_rfl) (by kernel_rfl) (by kernel_rfl) (fun _ _ _ h=>h) (Or.inl ⟨by rfl,?_⟩) hHeld ?_
 rotate_left
 ·(intro w hSw;(try dsimp only at hSw);go_simp;first|done|with_reducible rfl)
 try simp only[Act.put,J1,J3,J2,Ky,K9,Jz]
 refine wpAnyH_ready (rs:=[9]) (by kernel_rfl) (by simp) ?_
 refine AllReadyH.cons (o:=_) rfl (fun K hK=>?_) AllReadyH.nil
 go_simp
 refine hK.out _ _ ?_ (fun hHeld=>?_)
 ·(try dsimp only);(refine hall _ ?_;repeat (first|assumption|exact aO.refl _ _ _|apply aO.drew|refine aO.seq ?_ (aA _)))
 clear hK K
 try simp only[Act.put,J1,J3,J2,Ky,K9,Jz]
 refine wpAnyH_ready (rs:=[10]) (by kernel_rfl) (by simp) ?_
 refine AllReadyH.cons (o:=_) rfl (fun K hK=>?_) AllReadyH.nil
 have hbS2:Below W2.heap.size W2 W3:=Below.undrewS hbS
 have hb5:Below W2.heap.size W2 ((W3.alloc (.cells #[.slice X0 m z0,.slice X1 m z1,.slice X2 m z2] 96)).alloc (.cells #[.int .i64 1,.slice (some ⟨W3.heap.size,0,none⟩) 1 1] 89)):=aB hbS2 (aB (aA _) (aA _))
 obtain⟨W5,hrun,hM5,hG5,hZ5⟩:=kD (e:=86) (string_keyed Tryz.underlying9) Tryz.underlying78 (H2.out.map.below hb5) (H2.out.keys Tryz.underlying9) (val:=.pointer (some ⟨W3.heap.size+1,0,none⟩)) hlk (wX H2.out HF.out)
 obtain⟨_,HOy⟩:=hHeld
 have HO5:=aO.grown HOy hG5 (.inl rfl)
 go_simp
 refine hK.out _ _ ?_ (fun hHeld=>?_)
 ·(try dsimp only);(refine hall _ ?_;repeat (first|assumption|exact aO.refl _ _ _|apply aO.drew|refine aO.seq ?_ (aA _)))
 clear hK K
 try simp only[Act.put,J1,J3,J2,Ky,K9,Jz]
 refine wpAnyH_done (by kernel_rfl) ?_ _
 refine NoPanic.normal ?_
 go_wp2_with fail
 go_ret
 have hk:=bx HR.out
 have hW3:=hbS2.size
 obtain⟨x,hxd⟩:∃x:bB,x=⟨bA fs,X0,z0,X1,z1,X2,z2⟩:=⟨_,rfl⟩
 have hcx:x.cells=[.slice X0 m z0,.slice X1 m z1,.slice X2 m z2]:=by
  rw[hxd,hk]
  show[Value.slice X0 fs.length z0,.slice X1 fs.length z1,.slice X2 (kM fs.length).length z2]=_
  rw[aP,HM.out]
 have hrow0:(W3.alloc (.cells #[.slice X0 m z0,.slice X1 m z1,.slice X2 m z2] 96)).ownsRow 0 96 3 (.slice (some ⟨W3.heap.size,0,none⟩) 1 1) 1 [.slice X0 m z0,.slice X1 m z1,.slice X2 m z2]:=
  ⟨rfl,.inr ⟨_,1,#[.slice X0 m z0,.slice X1 m z1,.slice X2 m z2],rfl,X6 _,Y7 _ _,J9 _,by decide,rfl,rfl⟩⟩
 have hrow:=aG hrow0 (aA (.cells #[.int .i64 1,.slice (some ⟨W3.heap.size,0,none⟩) 1 1] 89))
 have hbox:=aD.new (W3.alloc (.cells #[.slice X0 m z0,.slice X1 m z1,.slice X2 m z2] 96)) [.int .i64 1,.slice (some ⟨W3.heap.size,0,none⟩) 1 1] 89
 rw[Jq] at hbox
 obtain⟨d,hdd⟩:∃d:En,d=⟨⟨nm,1,[bA fs]⟩,W3.heap.size+1,.slice (some ⟨W3.heap.size,0,none⟩) 1 1,[x]⟩:=⟨_,rfl⟩
 have hhas:∀g,d.has g->g=W3.heap.size+1\/g=W3.heap.size:=fun g hg=>by
  rw[hdd] at hg
  rcases hg with h1|h1
  ·exact .inl h1
  ·have h2:some W3.heap.size=some g:=h1
   exact .inr (Jj h2).symm
 have hdI:d.Is 89 ((W3.alloc (.cells #[.slice X0 m z0,.slice X1 m z1,.slice X2 m z2] 96)).alloc (.cells #[.int .i64 1,.slice (some ⟨W3.heap.size,0,none⟩) 1 1] 89)):=by
  rw[hdd]
  refine⟨hbox,?_,by rw[hxd];rfl,fun g hg=>?_⟩
  rotate_left
  ·have h2:some W3.heap.size=some g:=hg
   cases h2
   exact gI.of (((aA (.cells #[.int .i64 1,.slice (some ⟨W3.heap.size,0,none⟩) 1 1] 89)).block _ (by simp)).trans (Y7 _ _)) (by intro u hu;simp at hu;rcases hu with rfl|rfl|rfl <;> exact⟨_,_,_,rfl⟩)
  show World.ownsRow _ 0 _ 3 (.slice (some ⟨W3.heap.size,0,none⟩) 1 1) 1 (ah [x])
  have e:ah [x]=x.cells:=by simp[ah]
  rw[e,hcx]
  exact hrow
 have b2:=aB (aA (w:=W3) (.cells #[.slice X0 m z0,.slice X1 m z1,.slice X2 m z2] 96)) (aA (.cells #[.int .i64 1,.slice (some ⟨W3.heap.size,0,none⟩) 1 1] 89))
 have hno:∀g,W2.heap.size<=g/\g<W3.heap.size->W2.heap.size<=g/\¬d.has g:=fun g hg=>⟨hg.1,fun hc=>by have:=hhas g hc;omega⟩
 have hb1':W2.heap.size<=b1:=hb1
 have q0:au (fun g=>W2.heap.size<=g/\g<W3.heap.size) W3 X0 (aC fs):=au.mk R1.rd (fun ad e=>by have:=hBl ad e;exact⟨this.1,by omega⟩)
 have q1:au (fun g=>W2.heap.size<=g/\g<W3.heap.size) W3 X1 (aC fs):=dj own2 (fun g hg=>⟨by have:=aF own2 g hg;omega,aY own2 g hg⟩)
 have q2:au (fun g=>W2.heap.size<=g/\g<W3.heap.size) W3 X2 (aJ (kM m)):=dj own3 (fun g hg=>⟨by have:=aF own3 g hg;omega,aY own3 g hg⟩)
 have hxI:x.Is (fun g=>W2.heap.size<=g/\¬d.has g) ((W3.alloc (.cells #[.slice X0 m z0,.slice X1 m z1,.slice X2 m z2] 96)).alloc (.cells #[.int .i64 1,.slice (some ⟨W3.heap.size,0,none⟩) 1 1] 89)):=by
  rw[hxd]
  refine⟨?_,?_,?_,?_,?_⟩
  ·show au _ _ X0 (aC (bA fs).o);rw[hk];exact(q0.up b2).mono hno
  ·show au _ _ X1 (aC (bA fs).n);rw[hk];exact(q1.up b2).mono hno
  ·show au _ _ X2 (aJ (bA fs).m);rw[hk];show au _ _ X2 (aJ (kM fs.length));rw[HM.out];exact(q2.up b2).mono hno
  ·show(bA fs).o.length<=z0;rw[hk];show fs.length<=z0;rw[HM.out];exact hd0
  ·show(bA fs).n.length<=z1;rw[hk];show fs.length<=z1;rw[HM.out];exact u1
 have hnew:∀g,d.has g->W2.heap.size<=g:=fun g hg=>by have:=hhas g hg;omega
 have hdy:d.y=⟨nm,1,[bA fs]⟩:=by rw[hdd]
 have hdp:d.p=W3.heap.size+1:=by rw[hdd]
 have hdx:∀y∈d.xs,y=x:=fun y hy=>by rw[hdd] at hy;simpa using hy
 have hM6:jb W5 mp (es++[fP (.string d.y.s) (.pointer (some ⟨d.p,0,none⟩)) clock]) (clock+1):=by rw[hdy,hdp];exact hM5
 have hins:=H2.out.insert hb5 hdI hnew (fun y hy=>by rw[hdx y hy];exact hxI) hM6 (fun g h1 h2=>hG5.block g h1 (by intro e;exact h2 (Jj e))) (fun e he=>by rw[hdy];exact iN HF.out e he) (by rw[hdy];exact hn)
 refine⟨by rfl,d,_,hdy,hins,bR.after HB ⟨HO5.os,HO5.tape,HO5.output,HO5.size,fun g hg hu=>HO5.block g hg (by intro e;exact hu.1 (Jj e)) (by simp),fun g hg hu=>⟨hu.1,fun e he hh=>?_⟩⟩⟩
 rcases X5.1 he with h1|h1
 ·exact hu.2 e h1 hh
 ·simp at h1;subst h1
  have:=hnew g hh
  omega
theorem zZ:(Tryz.prog.info? 96).map (fun i=>(i.zero,i.size,i.bytes))=some (some (.agg #[.slice none 0 0,.slice none 0 0,.slice none 0 0]),3,72):=by kernel_rfl
theorem nv {w:EQ} {base n c g b:Nat} {e T:ES} {K:Nat} {o:Nat} {cs xs:EO} (h:w.ownsRow base e K (.slice (some ⟨g,o,none⟩) n c) n xs) (hb:aD w b cs T) (hT:e≠T):g≠b:=by
 rintro rfl
 rcases h.2 with ⟨h1,_⟩|⟨g',cap,cur,h1,_,h2,_⟩
 ·cases h1
 ·injection h1 with h3
  injection h3 with h3
  injection h3 with h3
  subst h3
  unfold aD at hb
  rw[hb] at h2
  injection h2 with h2
  injection h2 with _ h2
  exact hT h2.symm
theorem aD.f2 {w:EQ} {b:Nat} {x y:ER} {T:ES} (h:aD w b [x,y] T):w.cell? ⟨b,0,none⟩=some x/\w.cell? ⟨b,1,none⟩=some y/\w.frozen? ⟨b,0,none⟩=false/\w.frozen? ⟨b,1,none⟩=false:=by
 have hf:∀j,w.frozen? ⟨b,j,none⟩=false:=fun j=>by
  unfold aD at h
  simp[World.frozen?,h]
 exact⟨h.cell rfl,h.cell rfl,hf 0,hf 1⟩
theorem sA {W:EQ} {cp mp:Nat} {E:List En} {es:List MapEntry} {clock:Nat} (h:aa 89 80 W cp mp E es clock) {nm:EP} (hn:nm.size<=maxLen) (hf:bH E nm=none) (K:EL) (cK nc:Nat):
 Calls Tryz.prog 29 #[.pointer (some ⟨cp,0,none⟩),.string nm,.slice K nc cK] W fun e w'=>e=.returned (.tuple #[.int .i64 0,.int .i64 90])/\Below W.heap.size W w':=by
 have hlk:=cD h hn
 rw[hf] at hlk
 obtain⟨b0,_⟩:=h.box.f1
 go_enter Tryz.func29,Tryz.ntmps29
 go_wp2
 refine Xx (v:=.tuple #[.int .i64 0,.int .i64 90]) (by simp[results,Tryz.results29,go_sem, *];done) rfl ⟨rfl,Jy _ _⟩
theorem rx {W:EQ} {cp mp:Nat} {E:List En} {es:List MapEntry} {clock:Nat} (h:aa 89 80 W cp mp E es clock) {nm:EP} (hn:nm.size<=maxLen) {d:En} (hf:bH E nm=some d) (hok:d.y.Ok) (h64:64<=d.y.top) (K:EL) (cK nc:Nat):
 Calls Tryz.prog 29 #[.pointer (some ⟨cp,0,none⟩),.string nm,.slice K nc cK] W fun e w'=>e=.returned (.tuple #[.int .i64 0,.int .i64 91])/\Below W.heap.size W w':=by
 have hlk:=cD h hn
 rw[hf] at hlk
 obtain⟨b0,_⟩:=h.box.f1
 have hd:=h.ents d (bG hf).1
 obtain⟨g,c,n,ev,_,hnl,hsum,htop,hpos,_⟩:=En.open hd hok
 have hbx:=hd.box
 rw[ev] at hbx
 obtain⟨old,hold⟩:∃x,d.y.old=x:=⟨_,rfl⟩
 obtain⟨top,ht⟩:∃x,d.y.top=x:=⟨_,rfl⟩
 rw[hold] at hbx hsum
 rw[ht] at hsum htop h64
 obtain⟨bp,hp⟩:∃p,d.p=p:=⟨_,rfl⟩
 simp only[hp] at hlk
 rw[hp] at hbx
 have HS:=J0 hsum
 have HB:=Jy W.heap.size W
 have e1:(64:Int)<=(top:Int):=by omega
 clear hf hd hnl hold ht hok hsum hp h ev
 go_enter Tryz.func29,Tryz.ntmps29
 go_wp2_with (go_at_call 33;refine(di bp old n _ c top HS.out (by omega) _ (hbx.below HB)).mono ?_;rintro e w1 ⟨rfl,hb⟩;replace HB:=HB.trans (hb.mono HB.size);clear hb)
 refine Xx (v:=.tuple #[.int .i64 0,.int .i64 91]) (by simp[results,Tryz.results29,go_sem, *];done) rfl ⟨rfl,HB⟩
theorem uv {W1 W4 W5:EQ} {cp mp:Nat} {E:List En} {es:List MapEntry} {clock:Nat} (h1:aa 89 80 W1 cp mp E es clock) {d:En} {i:Nat} (hi:E[i]?=some d) {old n c g bp:Nat} (hp:d.p=bp) (hev:d.v=.slice (some ⟨g,0,none⟩) n c) (hnl:d.xs.length=n) (hold:d.y.old=old)
 (hb4:Below W1.heap.size W1 W4) {p:Nat} {T:Tb} {V0 V1 V2:EL} {w0 w1 w2 lo ln lm:Nat} (hlo:T.o.length=lo) (hln:T.n.length=ln) (hlm:T.m.length=lm) (hv0:lo<=w0) (hv1:ln<=w1)
 (r0:au (fun g=>W1.heap.size<=g/\g≠p) W4 V0 (aC T.o)) (r1:au (fun g=>W1.heap.size<=g/\g≠p) W4 V1 (aC T.n)) (r2:au (fun g=>W1.heap.size<=g/\g≠p) W4 V2 (aJ T.m))
 {F5:EL} {c5:Nat} (own6:W5.ownsRow 0 96 3 (.slice F5 (n+1) c5) (n+1) (ah d.xs++[.slice V0 lo w0,.slice V1 ln w1,.slice V2 lm w2])) (gr5:(W4.drew.alloc (.cells #[.slice V0 lo w0,.slice V1 ln w1,.slice V2 lm w2] 96)).grownBy W5 (some g))
 (hat5:(Value.slice F5 (n+1) c5).ownBlock=some g\/(Value.slice F5 (n+1) c5).ownBlock=some (W4.drew.alloc (.cells #[.slice V0 lo w0,.slice V1 ln w1,.slice V2 lm w2] 96)).heap.size) (hall6:∀g',(Value.slice F5 (n+1) c5).ownBlock=some g'->gI wI W5 g'):
 ∃d',d'.y=⟨d.y.s,d.y.old,d.y.ts++[T]⟩/\aa 89 80 (W5.setCell ⟨bp,1,none⟩ (.slice F5 (n+1) c5)) cp mp (E.set i d') es clock/\bR cp mp E (E.set i d') W1 (W5.setCell ⟨bp,1,none⟩ (.slice F5 (n+1) c5))/\aD (W5.setCell ⟨bp,1,none⟩ (.slice F5 (n+1) c5)) bp [.int .i64 (old:Nat),.slice F5 (n+1) c5] 89:=by
 have hdE:=J7 hi
 have hd:=h1.ents d hdE
 have hfree:=h1.free d hdE
 have hbx:=hd.box
 rw[hev,hold,hp] at hbx
 have hrow:=hd.row
 rw[hev,hnl] at hrow
 have hgb:g≠bp:=nv hrow hbx (by decide)
 have hg1:g<W1.heap.size:=aY hrow g rfl
 have hbp1:=hbx.lt
 have hz4:=hb4.size
 have hasbp:d.has bp:=.inl hp.symm
 have hasg:d.has g:=.inr (by rw[hev];rfl)
 have hbm:bp≠mp:=by rintro rfl;exact hfree.2 hasbp
 have hgm:g≠mp:=by rintro rfl;exact hfree.2 hasg
 obtain⟨Wa,hWa⟩:∃Wa,W4.drew.alloc (.cells #[.slice V0 lo w0,.slice V1 ln w1,.slice V2 lm w2] 96)=Wa:=⟨_,rfl⟩
 have hba:Below W4.heap.size W4 Wa:=by rw[<-hWa];exact((Jy _ _).drew).alloc (J9 _) _
 have hza:W4.heap.size<Wa.heap.size:=by rw[<-hWa];simp
 rw[hWa] at gr5 hat5
 have hz5:=gr5.size
 obtain⟨v,hv⟩:∃v,Value.slice F5 (n+1) c5=v:=⟨_,rfl⟩
 rw[hv] at own6 hat5 hall6 |-
 have k5:∀k,k<W1.heap.size->k≠g->W5.heap[k]?=W1.heap[k]?:=fun k hk hn=>(gr5.block k (by omega) (by intro e;exact hn (Jj e))).trans ((hba.block k (by omega)).trans (hb4.block k hk))
 have k6:∀k,k≠bp->(W5.setCell ⟨bp,1,none⟩ v).heap[k]?=W5.heap[k]?:=fun k hn=>J5 _ _ _ _ hn
 have s6:(W5.setCell ⟨bp,1,none⟩ v).heap.size=W5.heap.size:=by simp[World.setCell]
 have hbx5:aD W5 bp [.int .i64 (old:Nat),.slice (some ⟨g,0,none⟩) n c] 89:=(k5 bp hbp1 (fun e=>hgb e.symm)).trans hbx
 have hbx6:aD (W5.setCell ⟨bp,1,none⟩ v) bp [.int .i64 (old:Nat),v] 89:=aI hbx5 1 v
 have hvlt:∀g',v.ownBlock=some g'->g'<W5.heap.size:=fun g' hg'=>aY own6 g' hg'
 have hvat:∀g',v.ownBlock=some g'->g'=g\/Wa.heap.size=g':=fun g' hg'=>by
  rcases hat5 with h|h
  ·rw[hg'] at h;exact .inl (Jj h)
  ·rw[hg'] at h;exact .inr (Jj h).symm
 have hvbp:∀g',v.ownBlock=some g'->g'≠bp:=fun g' hg'=>by
  rcases hvat g' hg' with rfl|h
  ·exact hgb
  ·omega
 obtain⟨X,hX⟩:∃X:bB,X=⟨T,V0,w0,V1,w1,V2,w2⟩:=⟨_,rfl⟩
 obtain⟨d',hd'⟩:∃d':En,d'=⟨⟨d.y.s,d.y.old,d.y.ts++[T]⟩,bp,v,d.xs++[X]⟩:=⟨_,rfl⟩
 have hhas:∀g',d'.has g'->g'=bp\/v.ownBlock=some g':=fun g' hg'=>by
  rw[hd'] at hg'
  exact hg'
 have hnew:∀g',d'.has g'->d.has g'\/W1.heap.size<=g':=fun g' hg'=>by
  rcases hhas g' hg' with rfl|h
  ·exact .inl hasbp
  ·rcases hvat g' h with rfl|h
   ·exact .inl hasg
   ·exact .inr (by omega)
 have hXc:X.cells=[.slice V0 lo w0,.slice V1 ln w1,.slice V2 lm w2]:=by
  rw[hX]
  show[Value.slice V0 T.o.length w0,Value.slice V1 T.n.length w1,Value.slice V2 T.m.length w2]=_
  rw[hlo,hln,hlm]
 have row6:(W5.setCell ⟨bp,1,none⟩ v).ownsRow 0 96 3 v (n+1) (ah d.xs++[.slice V0 lo w0,.slice V1 ln w1,.slice V2 lm w2]):=aN own6 fun g' hg'=>k6 g' (hvbp g' hg')
 have hd'I:d'.Is 89 (W5.setCell ⟨bp,1,none⟩ v):=by
  rw[hd']
  refine⟨?_,?_,?_,fun g' hg'=>(hall6 g' hg').keep (k6 g' (hvbp g' hg'))⟩
  ·show aD _ bp [.int .i64 (d.y.old:Nat),v] 89
   rw[hold];exact hbx6
  ·show World.ownsRow _ 0 _ 3 v (d.xs++[X]).length (ah (d.xs++[X]))
   rw[Vq,hnl,gg]
   have e:ah [X]=[.slice V0 lo w0,.slice V1 ln w1,.slice V2 lm w2]:=by simp[ah,hXc]
   rw[e]
   exact row6
  ·show(d.xs++[X]).map (·.t)=d.y.ts++[T]
   rw[List.map_append,hd.tabs,hX];rfl
 have hkeep:∀g',(W1.heap.size<=g'/\g'≠p)/\g'<W4.heap.size->(W5.setCell ⟨bp,1,none⟩ v).heap[g']?=W4.heap[g']?:=fun g' hg'=>(k6 g' (by omega)).trans ((gr5.block g' (by omega) (by intro e;have:=Jj e;omega)).trans (hba.block g' hg'.2))
 have hup:∀{A:EL} {cs:EO},au (fun g=>W1.heap.size<=g/\g≠p) W4 A cs->au (fun g=>W1.heap.size<=g/\¬d'.has g) (W5.setCell ⟨bp,1,none⟩ v) A cs:=fun hA=>(hA.lt.keep hkeep).mono fun g' hg'=>⟨hg'.1.1,fun hc=>by
  rcases hhas g' hc with rfl|h
  ·omega
  ·rcases hvat g' h with rfl|h <;> omega⟩
 have hXI:X.Is (fun g=>W1.heap.size<=g/\¬d'.has g) (W5.setCell ⟨bp,1,none⟩ v):=by
  rw[hX]
  exact⟨hup r0,hup r1,hup r2,by show T.o.length<=w0;omega,by show T.n.length<=w1;omega⟩
 have hblk:∀g',g'<W1.heap.size->¬d.has g'->(W5.setCell ⟨bp,1,none⟩ v).heap[g']?=W1.heap[g']?:=fun g' hl hn=>(k6 g' (by rintro rfl;exact hn hasbp)).trans (k5 g' hl (by rintro rfl;exact hn hasg))
 have hdy:d'.y=⟨d.y.s,d.y.old,d.y.ts++[T]⟩:=by rw[hd']
 have hdp:d'.p=d.p:=by rw[hd',hp]
 refine⟨d',hdy,?_,?_,hbx6⟩
 ·refine h1.turn hi (by rw[hdy]) hd'I hnew (fun x hx=>?_) ?_ h1.b1 h1.b2 ?_ (fun g' h2 h3 _=>hblk g' h2 h3)
  ·rw[hd'] at hx
   rcases X5.1 hx with h2|h2
   ·exact .inl h2
   ·simp at h2;subst h2;exact .inr hXI
  ·unfold jb
   rw[hblk mp h1.mpLt hfree.2]
   exact h1.map
  ·rw[Cu hi (by rw[hdy]) hdp]
   exact h1.prs
 ·have o4:W4.os=W1.os/\W4.tape=W1.tape/\W4.output=W1.output:=⟨hb4.os,hb4.tape,hb4.output⟩
  refine⟨gr5.os.trans (hba.os.trans hb4.os),gr5.tape.trans (hba.tape.trans hb4.tape),gr5.output.trans (hba.output.trans hb4.output),by rw[s6];omega,fun g' h2 hu=>hblk g' h2 (hu.2 d hdE),fun g' h2 hu=>⟨hu.1,fun e he hh=>?_⟩⟩
  obtain⟨j,hj⟩:=Qv.1 he
  by_cases hji:j=i
  ·subst hji
   rw[List.getElem?_set_self (by have:=(J6.1 hi).1;omega)] at hj
   obtain rfl:=Jj hj
   rcases hnew g' hh with h3|h3
   ·exact hu.2 d hdE h3
   ·omega
  ·rw[Vz (by omega)] at hj
   exact hu.2 e (J7 hj) hh
theorem xE {W:EQ} {cp mp:Nat} {E:List En} {es:List MapEntry} {clock:Nat} (h:aa 89 80 W cp mp E es clock) {nm:EP} (hn:nm.size<=maxLen) (K:EL) (cK nc:Nat) (cs:List (Ch×ER)) (hnc:cs.length=nc) (hk:nc<=9223372036854775807) (hw:∀p∈cs,wA p) (hK:Rd W K (bV cs)) (ho:∀p∈cs,ou W p) {d:En} (i:Nat) (hi:E[i]?=some d) (hf:bH E nm=some d) (hok:d.y.Ok) (h64:d.y.top<64) (T:Tb) (q:Int) (hT:gb d.y.last (cs.map (·.1))=(T,q)):
 Calls Tryz.prog 29 #[.pointer (some ⟨cp,0,none⟩),.string nm,.slice K nc cK] W fun e w'=>
  (q≠0/\e=.returned (.tuple #[.int .i64 0,.int .i64 q])/\Below W.heap.size W w')\/
  (q=0/\e=.returned (.tuple #[.int .i64 ((d.y.top+1:Nat):Int),.int .i64 0])/\∃d',d'.y=rm d.y (cs.map (·.1))/\aa 89 80 w' cp mp (E.set i d') es clock/\bR cp mp E (E.set i d') W w'):=by
 have hlk:=cD h hn
 rw[hf] at hlk
 obtain⟨b0,_⟩:=h.box.f1
 have hdE:=(bG hf).1
 have hd:=h.ents d hdE
 obtain⟨g,c,n,ev,hnc2,hnl,hsum,htop,hpos,hrd⟩:=En.open hd hok
 have hbx:=hd.box
 rw[ev] at hbx
 obtain⟨k,hkn⟩:∃k,n=k+1:=⟨n - 1,by omega⟩
 obtain⟨x,hx⟩:∃x,d.xs[k]?=some x:=⟨_,J4 (by omega)⟩
 have hlast:d.y.last=x.t.n:=by
  have h1:d.y.ts.getLast?=some x.t:=by
   rw[<-hd.tabs,List.getLast?_map,List.getLast?_eq_getElem?,hnl,hkn,Nat.add_sub_cancel,hx]
   rfl
  rw[Ty.last,h1];rfl
 have hxI:=h.tabs d hdE x (J7 hx)
 have hNmS:=(dh hok).2
 have hrt:=(dh hok).1
 rw[hlast] at hT hNmS hrt
 obtain⟨m,hm⟩:∃m,x.t.n.length=m:=⟨_,rfl⟩
 have hm16:m<=16:=by rw[<-hm];exact(aQ hrt).2
 have hcb:=hxI.cb
 rw[hm] at hcb
 have hxn:=hxI.n.rd
 obtain⟨old,hold⟩:∃y,d.y.old=y:=⟨_,rfl⟩
 obtain⟨top,ht⟩:∃y,d.y.top=y:=⟨_,rfl⟩
 rw[hold] at hbx hsum
 rw[ht] at hsum htop h64 |-
 obtain⟨bp,hp⟩:∃p,d.p=p:=⟨_,rfl⟩
 simp only[hp] at hlk
 rw[hp] at hbx
 have hwr:IntKind.i64.wrap ((n:Int) - 1)=(k:Int):=(Xj _ (by omega)).trans (by omega)
 have e1:¬(64:Int)<=(top:Int):=by omega
 have k0:(0:Int)<=(k:Int):=by omega
 have k1:(k:Int)<(n:Int):=by omega
 have HB:=Jy W.heap.size W
 have hcell:∀W',Below W.heap.size W W'->W'.cell? ⟨bp,1,none⟩=some (.slice (some ⟨g,0,none⟩) n c)/\W'.cell? ⟨g,k * 3+1,none⟩=some (.slice x.B m x.b):=fun W' hb=>⟨(hbx.below hb).cell rfl,by have:=(Rd.tab (hrd.below hb) hx).2.1;rw[hm] at this;exact this⟩
 have HS:=J0 hsum;have HH:=J0 h;have HI:=J0 hi;have HOK:=J0 hok;have HT:=J0 hT;have HM:=J0 hm;have HNS:=J0 hNmS;have HLA:=J0 hlast;have HOD:=J0 hold;have HTP:=J0 ht;have HP:=J0 hp;have HEV:=J0 ev;have HNL:=J0 hnl;have HNC:=J0 hnc;have HW:=J0 hw;have HO:=J0 ho;have HKN:=J0 hkn;have HDE:=J0 hdE
 clear hf hd hnl hold ht hok hsum hp h ev hT hm hNmS hlast hi hx hxI hrd hnc hw ho hkn hdE hrt
 go_enter Tryz.func29,Tryz.ntmps29
 go_upto_region 6 with (go_at_call 33;refine(di bp old n _ c top HS.out (by omega) _ (hbx.below HB)).mono ?_;rintro e w1 ⟨rfl,hb⟩;replace HB:=HB.trans (hb.mono HB.size);clear hb)
 rename EQ=>W1
 have hall:∀W',Below W1.heap.size W1 W'->W'.cell? ⟨bp,1,none⟩=some (.slice (some ⟨g,0,none⟩) n c)/\W'.cell? ⟨g,k * 3+1,none⟩=some (.slice x.B m x.b)/\Below W1.heap.size W1 W':=fun W' hb=>⟨(hcell W' (HB.trans (hb.mono HB.size))).1,(hcell W' (HB.trans (hb.mono HB.size))).2,hb⟩
 have hxn1:=hxn.below HB
 have hK1:=hK.below HB
 have ho1:∀p∈cs,ou W1 p:=fun p hp=>(HO.out p hp).below HB
 obtain⟨lo,hlo⟩:∃y,T.o.length=y:=⟨_,rfl⟩
 obtain⟨ln,hln⟩:∃y,T.n.length=y:=⟨_,rfl⟩
 obtain⟨lm,hlm⟩:∃y,T.m.length=y:=⟨_,rfl⟩
 have HLO:=J0 hlo;have HLN:=J0 hln;have HLM:=J0 hlm
 clear hlo hln hlm hcell
 go_cut [9,10] (fun s9 s10 wx=>∃p V0 w0 V1 w1 V2 w2,s9=.pointer (some ⟨p,0,none⟩)/\s10=.int .i64 q/\aD wx p [.slice V0 lo w0,.slice V1 ln w1,.slice V2 lm w2] 96/\lo<=w0/\ln<=w1/\au (fun g=>W1.heap.size<=g/\g≠p) wx V0 (aC T.o)/\au (fun g=>W1.heap.size<=g/\g≠p) wx V1 (aC T.n)/\au (fun g=>W1.heap.size<=g/\g≠p) wx V2 (aJ T.m)/\Below W1.heap.size W1 wx/\W1.heap.size<=p)
 case first=>
  go_region_held3 (fun W'=>W'.cell? ⟨bp,1,none⟩=some (.slice (some ⟨g,0,none⟩) n c)/\W'.cell? ⟨g,k * 3+1,none⟩=some (.slice x.B m x.b)/\Below W1.heap.size W1 W') ((refine hall _ ?_;repeat (first|assumption|exact Jy _ _|refine J8 ?_ (by dsimp only;first|exact J9 _|omega) _|refine Jk ?_ (by first|exact J9 _|omega) _|apply Jv)))
   ((go_at_call 63;obtain⟨_,_,HBx⟩:=‹_/\_/\Below W1.heap.size W1 _›;refine(CM x.t.n m HM.out (by omega) x.B x.b hcb K cK nc cs HNC.out hk HNS.out HW.out _ (hxn1.below HBx) (hK1.below HBx) (fun p hp=>(ho1 p hp).below HBx)).mono ?_;rw[HT.out];rintro e W4 ⟨V0,w0,V1,w1,V2,w2,rfl,hv0,hv1,r0,r1,r2,hb4⟩;rw[HLO.out] at hv0;rw[HLN.out] at hv1;rw[HLO.out,HLN.out,HLM.out];have hzx:=HBx.size;have HB4:=aB HBx hb4;have hz4:=HB4.size;(first|(have PB:=aD.below (aD.new _ [.slice none 0 0,.slice none 0 0,.slice none 0 0] 96) hb4;obtain⟨p0,p1,p2,p3,p4,p5⟩:=PB.f3)|(have PB:=aD.newB (cs:=[.slice none 0 0,.slice none 0 0,.slice none 0 0]) hb4;obtain⟨p0,p1,p2,p3,p4,p5⟩:=PB.f3)|skip)))
  all_goals (go_wp2_with fail;go_meet;refine⟨_,V0,w0,V1,w1,V2,w2,rfl,rfl,?_,hv0,hv1,?_,?_,?_,?_,?_⟩)
  all_goals first
   |exact aD.new _ _ _
   |exact aI (aI (aI PB 0 _) 1 _) 2 _
   |exact(au.up r0.lt (aA _)).mono (fun g hg=>by simp at hg |-;omega)
   |exact(au.up r1.lt (aA _)).mono (fun g hg=>by simp at hg |-;omega)
   |exact(au.up r2.lt (aA _)).mono (fun g hg=>by simp at hg |-;omega)
   |exact(r0.set3 _ (fun g hg=>by simp at hg |-;omega) 0 1 2 _ _ _).mono (fun g hg=>by simp at hg |-;omega)
   |exact(r1.set3 _ (fun g hg=>by simp at hg |-;omega) 0 1 2 _ _ _).mono (fun g hg=>by simp at hg |-;omega)
   |exact(r2.set3 _ (fun g hg=>by simp at hg |-;omega) 0 1 2 _ _ _).mono (fun g hg=>by simp at hg |-;omega)
   |exact J9 _
   |(dsimp only;first|exact J9 _|(simp;done)|omega)
   |(repeat (first|assumption|exact Jy _ _|refine J8 ?_ (by dsimp only;first|exact J9 _|omega) _|refine Jk ?_ (by first|exact J9 _|omega) _|apply Jv))
 case rest=>
  obtain⟨p,V0,w0,V1,w1,V2,w2,rfl,rfl,PB,hv0,hv1,r0,r1,r2,hb4,hpz⟩:=hcut
  rename EQ=>W4
  have HB4:=HB.trans (hb4.mono HB.size)
  clear hall b0 hxn1 hK1 ho1
  by_cases hq:q=0
  ·subst hq
   obtain⟨iT,hiT,hzT0,hzT1,hzT2⟩:=info_parts zZ
   have hc1:=HH.out.below HB
   have hd4:=(HH.out.below HB4).ents d HDE.out
   have own4:=hd4.row
   rw[HEV.out,HNL.out] at own4
   have hbx4:=hbx.below HB4
   have hgb:g≠bp:=nv own4 hbx4 (by decide)
   have hbp1:bp<W1.heap.size:=(hbx.below HB).lt
   have hg1:g<W1.heap.size:=by
    have:=aY (hc1.ents d HDE.out).row g (by rw[HEV.out];rfl)
    exact this
   have hz4:=hb4.size
   have nf:=aA (w:=W4.drew) (.cells #[.slice V0 lo w0,.slice V1 ln w1,.slice V2 lm w2] 96)
   have own5:(W4.drew.alloc (.cells #[.slice V0 lo w0,.slice V1 ln w1,.slice V2 lm w2] 96)).ownsRow _ _ _ _ n _:=aG (w:=W4.drew) own4 nf
   have hbx5:=aD.below (w:=W4.drew) hbx4 nf
   have hone:∀u∈([.slice V0 lo w0,.slice V1 ln w1,.slice V2 lm w2]:EO),u.oneCell'=true:=by intro u hu;simp at hu;rcases hu with rfl|rfl|rfl <;> rfl
   have mixed:Tryz.prog.follows .mixedOrders=true:=by kernel_rfl
   have hn64:n<=64:=by have:=HS.out;have:=(HOK.out).lo;rw[HOD.out] at this;omega
   have hb63:n+1<=maxLen:=by simp only[maxLen];omega
   obtain⟨p0,p1,p2,p3,p4,p5⟩:=PB.f3
   have c1:W4.cell? ⟨bp,1,none⟩=some (.slice (some ⟨g,0,none⟩) n c):=hbx4.cell rfl
   have c1a:(W4.alloc (.cells #[.slice V0 lo w0,.slice V1 ln w1,.slice V2 lm w2] 96)).cell? ⟨bp,1,none⟩=some (.slice (some ⟨g,0,none⟩) n c):=(aD.below hbx4 (aA _)).cell rfl
   have hsz:∀u∈(Value.agg #[.slice none 0 0,.slice none 0 0,.slice none 0 0]).cells.toList,wI u:=by intro u hu;simp[Value.cells] at hu;rcases hu with rfl|rfl|rfl <;> exact⟨_,_,_,rfl⟩
   have hsn:∀u∈([.slice V0 lo w0,.slice V1 ln w1,.slice V2 lm w2]:EO),wI u:=by intro u hu;simp at hu;rcases hu with rfl|rfl|rfl <;> exact⟨_,_,_,rfl⟩
   have hso:∀g',(Value.slice (some ⟨g,0,none⟩) n c).ownBlock=some g'->gI wI (W4.drew.alloc (.cells #[.slice V0 lo w0,.slice V1 ln w1,.slice V2 lm w2] 96)) g':=fun g' hg'=>(hd4.sl g' (by rw[HEV.out];exact hg')).keep (nf.block g' (aY own4 g' hg'))
   go_upto_region 9 with fail
   go_region_law_o (refine ig (S:=wI) rfl (.tmp 49) (.tmp 51) 87 rfl 0 96 iT (.agg #[.slice none 0 0,.slice none 0 0,.slice none 0 0]) 3 72 Tryz.underlying87 hiT hzT0 hzT1 hzT2 rfl (by decide) (.slice (some ⟨g,0,none⟩) n c) n _ (by simp[Act.eval,Act.put]) own5 ⟨W4.heap.size,0,none⟩ 1 1 [.slice V0 lo w0,.slice V1 ln w1,.slice V2 lm w2] (by simp[Act.eval,Act.put]) rfl (fV W4.drew _ _ _ _) hone hb63 (by omega) (X6 _) (by decide) hsz hsn hso ?_;intro vF' W5 own6 gr5 hat5 hall6;have hbx6:=hbx5.grown gr5 (by intro e;exact hgb (Jj e).symm);obtain⟨F5,c5,rfl,_,_,_⟩:=aL own6;obtain⟨i1,i2,i3,i4⟩:=hbx6.f2)
   all_goals
    obtain⟨d',hdy,hcat,hfr,hbx7⟩:=uv hc1 HI.out HP.out HEV.out HNL.out HOD.out hb4 HLO.out HLN.out HLM.out hv0 hv1 r0 r1 r2 own6 gr5 hat5 hall6
    clear own6 gr5 hat5 hall6 hbx6 i1 i2 i3 i4 nf own5 hbx5 c1 c1a hsz hsn hso hone own4 hd4 hbx4 PB p0 p1 p2 p3 p4 p5
    generalize W5.setCell ⟨bp,1,none⟩ (.slice F5 (n+1) c5)=W6 at *
    go_wp2_with (go_at_call 33;refine(di bp old (n+1) _ c5 (top+1) (by have:=HS.out;omega) (by omega) _ hbx7).mono ?_;rintro e w7 ⟨rfl,hb7⟩)
    refine Xx (v:=.tuple #[.int .i64 ((top+1:Nat):Int),.int .i64 0]) (by simp[results,Tryz.results29,go_sem, *];done) rfl ?_
    have hdz:d'.y=rm d.y (cs.map (·.1)):=by rw[hdy,rm,HLA.out,HT.out]
    first
     |exact⟨by simp,d',hdz,hcat.below hb7,(bR.after HB hfr).then hb7⟩
     |exact .inr ⟨rfl,rfl,d',hdz,hcat.below hb7,(bR.after HB hfr).then hb7⟩
  ·have e2:(q == 0)=false:=by simpa using hq
   have e3:(q != 0)=true:=by simpa using hq
   go_wp2
   refine Xx (v:=.tuple #[.int .i64 0,.int .i64 q]) (by simp[results,Tryz.results29,go_sem, *];done) rfl (.inl ⟨hq,rfl,HB4⟩)
end
section
open Go.RowKit Go.Lib
theorem Rd.num {w:EQ} {A:EL} {q:List Int} (h:Rd w A (aV q)) {k:Nat} {y:Int} (hy:q[k]?=some y):∃ad,A=some ad/\w.cell? (ad.add k)=some (.int .i64 y):=
 h.at (by simp[aV,hy])
theorem yr (A:EL) (c n:Nat) (q:List Int) (hn:q.length=n) (x:Int) (w:EQ) (hA:Rd w A (aV q)) (hl:n<=9223372036854775807):
 Calls Tryz.prog 82 #[.slice A n c,.int .i64 x] w fun e w'=>∃r:Int,e=.returned (.int .i64 r)/\decide (0<=r)=(q.any fun y=>decide (y=x))/\Below w.heap.size w w':=by
 have HN:=J0 hn
 clear hn
 go_enter Tryz.func82,Tryz.ntmps82
 go_wp2
 go_loopw [5,8] (fun _ i wr=>∃k:Nat,k<=n/\i=.int .i64 k/\Below w.heap.size w wr/\Hid (∀(j:Nat) (y:Int),j<k->q[j]?=some y->y≠x)) (fun _ i _=>n - (intOf i).toNat)
 case atStart=>exact⟨0,by omega,rfl,Jy _ _,J0 (fun j g h=>by omega)⟩
 case round=>
  obtain⟨k,hk,rfl,HB,hb⟩:=hrel
  have hAr:=hA.below HB
  by_cases hlt:k<n
  ·obtain⟨y,hy⟩:∃y,q[k]?=some y:=⟨_,J4 (by rw[HN.out];exact hlt)⟩
   obtain⟨ad,rfl,hcell⟩:=Rd.num hAr hy
   by_cases he:x=y
   ·subst he
    have hany:(q.any fun y=>decide (y=x))=true:=List.any_eq_true.2 ⟨x,J7 hy,by simp⟩
    have HA:=J0 hany
    clear hb hy hany
    go_wp2
    go_ret
    refine⟨_,rfl,?_,HB⟩
    rw[HA.out]
    simp
   ·have e1:(x == y)=false:=by simpa using he
    have hb':∀(j:Nat) (g:Int),j<k+1->q[j]?=some g->g≠x:=fun j g hj hg=>by
     rcases(by omega:j<k\/j=k) with h|rfl
     ·exact hb.out j g h hg
     ·rw[hy] at hg;cases hg;exact fun e=>he e.symm
    have HB2:=J0 hb'
    clear hb hb' hy
    go_wp2
    go_roundw
    case rel=>exact⟨k+1,by omega,by go_num,HB,HB2⟩
    case measure=>simp[intOf];omega
  ·obtain rfl:k=n:=by omega
   have hany:(q.any fun y=>decide (y=x))=false:=by
    rw[List.any_eq_false]
    intro y hy
    obtain⟨j,hj⟩:=Qv.1 hy
    have hjl:=(J6.1 hj).1
    simpa using hb.out j y (by rw[<-HN.out];exact hjl) hj
   have HA:=J0 hany
   clear hb hany
   go_wp2
   go_ret
   exact⟨-1,rfl,by rw[HA.out];decide,HB⟩
theorem li (A:EL) (c n:Nat) (q:List Int) (hn:q.length=n) (x:Int) (w:EQ) (hA:Rd w A (aV q)) (hl:n<=9223372036854775807):
 Calls Tryz.prog 44 #[.slice A n c,.int .i64 x] w fun e w'=>e=.returned (.bool (q.any fun y=>decide (y=x)))/\Below w.heap.size w w':=by
 go_enter Tryz.func44,Tryz.ntmps44
 go_wp2_with (go_at_call 82;refine(yr A c n q hn x _ hA hl).mono ?_;rintro e w1 ⟨r,rfl,hr,HB⟩)
 go_ret
 exact⟨by rw[<-hr];rfl,HB⟩
end
section
open Go.RowKit Go.Lib Go.Maps
theorem zg {ST CT:ES} {W:EQ} {cp mp:Nat} {E:List En} {es:List MapEntry} {clock:Nat} (h:aa ST CT W cp mp E es clock) {i:Nat} {d:En} (hi:E[i]?=some d) {nm:EP} (hn:d.y.s=nm) {j:Nat} {y:MapEntry} (hj:es[j]?=some y) (he:y.key=.string nm):j=i:=by
 obtain⟨e,hE,e1,_⟩:=cd h.prs hj
 rw[e1] at he
 have hs:e.y.s=d.y.s:=by injection he with h1;rw[h1,hn]
 have a1:(E.map (·.y.s))[j]?=some d.y.s:=by rw[Kv,hE];exact congrArg some hs
 have a2:(E.map (·.y.s))[i]?=some d.y.s:=by rw[Kv,hi];rfl
 exact(List.getElem?_inj (J6.1 a1).1 h.names).1 (a1.trans a2.symm)
theorem vp {W2 W3 W5:EQ} {cp mp:Nat} {E:List En} {es es':List MapEntry} {clock:Nat} (h2:aa 89 80 W2 cp mp E es clock) {d:En} {i:Nat} (hi:E[i]?=some d) (hb3:Below W2.heap.size W2 W3) {l:List Fd} {m top:Nat} (hm:l.length=m) (hr:aK l=true) {X0 X1 X2:EL} {z0 z1 z2 b1 b2:Nat}
 (hd0:m<=z0) (u1:m<=z1) (hb1:W2.heap.size<=b1) (hb12:b1<=b2) (hb2:b2<=W3.heap.size) (R1:Rd W3 X0 (aC l)) (hBl:∀ad,X0=some ad->W2.heap.size<=ad.block/\ad.block<b1) (own2:W3.ownsRow b1 68 3 (.slice X1 m z1) m (aC l)) (own3:W3.ownsRow b2 137 4 (.slice X2 m z2) m (aJ (kM m)))
 (hM5:jb W5 mp es' clock) (hP5:prs es'=(prs es).set i (.string d.y.s,.pointer (some ⟨W3.heap.size+1,0,none⟩))) (hB5:es'.map (·.born)=es.map (·.born)) (hG5:((W3.alloc (.cells #[.slice X0 m z0,.slice X1 m z1,.slice X2 m z2] 96)).alloc (.cells #[.int .i64 (top:Nat),.slice (some ⟨W3.heap.size,0,none⟩) 1 1] 89)).grownBy W5 (some mp)):
 ∃d',d'.y=⟨d.y.s,top,[bA l]⟩/\aa 89 80 W5 cp mp (E.set i d') es' clock/\bR cp mp E (E.set i d') W2 W5:=by
 have hk:=bx hr
 have hW3:=hb3.size
 have hdE:=J7 hi
 obtain⟨x,hxd⟩:∃x:bB,x=⟨bA l,X0,z0,X1,z1,X2,z2⟩:=⟨_,rfl⟩
 have hcx:x.cells=[.slice X0 m z0,.slice X1 m z1,.slice X2 m z2]:=by
  rw[hxd,hk]
  show[Value.slice X0 l.length z0,Value.slice X1 l.length z1,Value.slice X2 (kM l.length).length z2]=_
  rw[aP,hm]
 have hrow0:(W3.alloc (.cells #[.slice X0 m z0,.slice X1 m z1,.slice X2 m z2] 96)).ownsRow 0 96 3 (.slice (some ⟨W3.heap.size,0,none⟩) 1 1) 1 [.slice X0 m z0,.slice X1 m z1,.slice X2 m z2]:=
  ⟨rfl,.inr ⟨_,1,#[.slice X0 m z0,.slice X1 m z1,.slice X2 m z2],rfl,X6 _,Y7 _ _,J9 _,by decide,rfl,rfl⟩⟩
 have hrow:=aG hrow0 (aA (.cells #[.int .i64 (top:Nat),.slice (some ⟨W3.heap.size,0,none⟩) 1 1] 89))
 have hbox:=aD.new (W3.alloc (.cells #[.slice X0 m z0,.slice X1 m z1,.slice X2 m z2] 96)) [.int .i64 (top:Nat),.slice (some ⟨W3.heap.size,0,none⟩) 1 1] 89
 rw[Jq] at hbox
 obtain⟨d',hdd⟩:∃d':En,d'=⟨⟨d.y.s,top,[bA l]⟩,W3.heap.size+1,.slice (some ⟨W3.heap.size,0,none⟩) 1 1,[x]⟩:=⟨_,rfl⟩
 have hhas:∀g,d'.has g->g=W3.heap.size+1\/g=W3.heap.size:=fun g hg=>by
  rw[hdd] at hg
  rcases hg with h1|h1
  ·exact .inl h1
  ·have h2:some W3.heap.size=some g:=h1
   exact .inr (Jj h2).symm
 have b2':Below W3.heap.size W3 ((W3.alloc (.cells #[.slice X0 m z0,.slice X1 m z1,.slice X2 m z2] 96)).alloc (.cells #[.int .i64 (top:Nat),.slice (some ⟨W3.heap.size,0,none⟩) 1 1] 89)):=aB (aA _) (aA _)
 have hz4:((W3.alloc (.cells #[.slice X0 m z0,.slice X1 m z1,.slice X2 m z2] 96)).alloc (.cells #[.int .i64 (top:Nat),.slice (some ⟨W3.heap.size,0,none⟩) 1 1] 89)).heap.size=W3.heap.size+2:=by simp
 have hmlt:=h2.mpLt
 have k5:∀g,g<W3.heap.size+2->g≠mp->W5.heap[g]?=((W3.alloc (.cells #[.slice X0 m z0,.slice X1 m z1,.slice X2 m z2] 96)).alloc (.cells #[.int .i64 (top:Nat),.slice (some ⟨W3.heap.size,0,none⟩) 1 1] 89)).heap[g]?:=fun g hg hn=>hG5.block g (by omega) (by intro e;exact hn (Jj e))
 have hdI4:d'.Is 89 ((W3.alloc (.cells #[.slice X0 m z0,.slice X1 m z1,.slice X2 m z2] 96)).alloc (.cells #[.int .i64 (top:Nat),.slice (some ⟨W3.heap.size,0,none⟩) 1 1] 89)):=by
  rw[hdd]
  refine⟨hbox,?_,by rw[hxd];rfl,fun g hg=>?_⟩
  rotate_left
  ·have h2:some W3.heap.size=some g:=hg
   cases h2
   exact gI.of (((aA (.cells #[.int .i64 (top:Nat),.slice (some ⟨W3.heap.size,0,none⟩) 1 1] 89)).block _ (by simp)).trans (Y7 _ _)) (by intro u hu;simp at hu;rcases hu with rfl|rfl|rfl <;> exact⟨_,_,_,rfl⟩)
  show World.ownsRow _ 0 _ 3 (.slice (some ⟨W3.heap.size,0,none⟩) 1 1) 1 (ah [x])
  have e:ah [x]=x.cells:=by simp[ah]
  rw[e,hcx]
  exact hrow
 have hdI:d'.Is 89 W5:=hdI4.keep fun g hg=>k5 g (by have:=hhas g hg;omega) (by have:=hhas g hg;omega)
 have hno:∀g,W2.heap.size<=g/\g<W3.heap.size->W2.heap.size<=g/\¬d'.has g:=fun g hg=>⟨hg.1,fun hc=>by have:=hhas g hc;omega⟩
 have kx:∀g,W2.heap.size<=g/\g<W3.heap.size->W5.heap[g]?=W3.heap[g]?:=fun g hg=>(k5 g (by omega) (by omega)).trans (b2'.block g hg.2)
 have q0:au (fun g=>W2.heap.size<=g/\g<W3.heap.size) W3 X0 (aC l):=au.mk R1 (fun ad e=>by have:=hBl ad e;exact⟨this.1,by omega⟩)
 have q1:au (fun g=>W2.heap.size<=g/\g<W3.heap.size) W3 X1 (aC l):=dj own2 (fun g hg=>⟨by have:=aF own2 g hg;omega,aY own2 g hg⟩)
 have q2:au (fun g=>W2.heap.size<=g/\g<W3.heap.size) W3 X2 (aJ (kM m)):=dj own3 (fun g hg=>⟨by have:=aF own3 g hg;omega,aY own3 g hg⟩)
 have hxI:x.Is (fun g=>W2.heap.size<=g/\¬d'.has g) W5:=by
  rw[hxd]
  refine⟨?_,?_,?_,?_,?_⟩
  ·show au _ _ X0 (aC (bA l).o);rw[hk];exact(q0.keep kx).mono hno
  ·show au _ _ X1 (aC (bA l).n);rw[hk];exact(q1.keep kx).mono hno
  ·show au _ _ X2 (aJ (bA l).m);rw[hk];show au _ _ X2 (aJ (kM l.length));rw[hm];exact(q2.keep kx).mono hno
  ·show(bA l).o.length<=z0;rw[hk];show l.length<=z0;rw[hm];exact hd0
  ·show(bA l).n.length<=z1;rw[hk];show l.length<=z1;rw[hm];exact u1
 have hnew:∀g,d'.has g->W2.heap.size<=g:=fun g hg=>by have:=hhas g hg;omega
 have hdy:d'.y=⟨d.y.s,top,[bA l]⟩:=by rw[hdd]
 have hdp:d'.p=W3.heap.size+1:=by rw[hdd]
 have hdx:∀y∈d'.xs,y=x:=fun y hy=>by rw[hdd] at hy;simpa using hy
 have hblk:∀g,g<W2.heap.size->g≠mp->W5.heap[g]?=W2.heap[g]?:=fun g hg hn=>(k5 g (by omega) hn).trans ((b2'.block g (by omega)).trans (hb3.block g hg))
 refine⟨d',hdy,?_,?_⟩
 ·refine h2.turn hi (by rw[hdy]) hdI (fun g hg=>.inr (hnew g hg)) (fun y hy=>.inr (by rw[hdx y hy];exact hxI)) hM5 (fun y hy=>?_) (by rw[hB5];exact h2.b2) ?_ (fun g h3 _ h4=>hblk g h3 h4)
  ·have h3:y.born∈es'.map (·.born):=Vy.2 ⟨y,hy,rfl⟩
   rw[hB5] at h3
   obtain⟨y',hy',e⟩:=Vy.1 h3
   rw[<-e]
   exact h2.b1 y' hy'
  ·rw[hP5,h2.prs,List.map_set,hdy,hdp]
 ·refine⟨hG5.os.trans (b2'.os.trans hb3.os),hG5.tape.trans (b2'.tape.trans hb3.tape),hG5.output.trans (b2'.output.trans hb3.output),by have:=hG5.size;omega,fun g h3 hu=>hblk g h3 hu.1,fun g h3 hu=>⟨hu.1,fun e he hh=>?_⟩⟩
  obtain⟨j,hj⟩:=Qv.1 he
  by_cases hji:j=i
  ·subst hji
   rw[List.getElem?_set_self (by have:=(J6.1 hi).1;omega)] at hj
   obtain rfl:=Jj hj
   have:=hnew g hh
   omega
  ·rw[Vz (by omega)] at hj
   exact hu.2 e (J7 hj) hh
theorem sQ {W:EQ} {cp mp:Nat} {E:List En} {es:List MapEntry} {clock:Nat} (h:aa 89 80 W cp mp E es clock) {nm:EP} (hn:nm.size<=maxLen) (hf:bH E nm=none) (L:EL) (cL nl:Nat):
 Calls Tryz.prog 20 #[.pointer (some ⟨cp,0,none⟩),.string nm,.slice L nl cL] W fun e w'=>e=.returned (.tuple #[.int .i64 0,.int .i64 90])/\Below W.heap.size W w':=by
 have hlk:=cD h hn
 rw[hf] at hlk
 obtain⟨b0,_⟩:=h.box.f1
 go_enter Tryz.func20,Tryz.ntmps20
 go_wp2
 refine Xx (v:=.tuple #[.int .i64 0,.int .i64 90]) (by simp[results,Tryz.results20,go_sem, *];done) rfl ⟨rfl,Jy _ _⟩
theorem xY {W:EQ} {cp mp:Nat} {E:List En} {es:List MapEntry} {clock:Nat} (h:aa 89 80 W cp mp E es clock) {nm:EP} (hn:nm.size<=maxLen) (L:EL) (cL nl:Nat) (q:List Int) (hnl:q.length=nl) (hl:nl<=9223372036854775807) (hL:Rd W L (aV q)) {d:En} (i:Nat) (hi:E[i]?=some d) (hf:bH E nm=some d) (hok:d.y.Ok) (u:Bool) (hu:rc d.y q=u):
 Calls Tryz.prog 20 #[.pointer (some ⟨cp,0,none⟩),.string nm,.slice L nl cL] W fun e w'=>
  (u=true/\e=.returned (.tuple #[.int .i64 0,.int .i64 93])/\Below W.heap.size W w')\/
  (u=false/\e=.returned (.tuple #[.int .i64 ((d.y.ts.length - 1:Nat):Int),.int .i64 0])/\∃d' es',d'.y=uU d.y/\aa 89 80 w' cp mp (E.set i d') es' clock/\bR cp mp E (E.set i d') W w'):=by
 have hlk0:=cD h hn
 rw[hf] at hlk0
 obtain⟨b0,_⟩:=h.box.f1
 have hdE:=(bG hf).1
 have hnm:=(bG hf).2
 have hd:=h.ents d hdE
 have hfree:=h.free d hdE
 obtain⟨g,c,n,ev,hnc2,hnl2,hsum,htop,hpos,hrd⟩:=En.open hd hok
 have hlen:d.y.ts.length=n:=by rw[<-hd.tabs,Kz];exact hnl2
 have hbx:=hd.box
 rw[ev] at hbx
 obtain⟨k,hkn⟩:∃k,n=k+1:=⟨n - 1,by omega⟩
 obtain⟨x,hx⟩:∃x,d.xs[k]?=some x:=⟨_,J4 (by omega)⟩
 have hlast:d.y.last=x.t.n:=by
  have h1:d.y.ts.getLast?=some x.t:=by
   rw[<-hd.tabs,List.getLast?_map,List.getLast?_eq_getElem?,hnl2,hkn,Nat.add_sub_cancel,hx]
   rfl
  rw[Ty.last,h1];rfl
 have hxI:=h.tabs d hdE x (J7 hx)
 have hrt:=(dh hok).1
 rw[hlast] at hrt
 obtain⟨m,hm⟩:∃m,x.t.n.length=m:=⟨_,rfl⟩
 have hm16:m<=16:=by rw[<-hm];exact(aQ hrt).2
 have hcb:=hxI.cb
 rw[hm] at hcb
 have hxn:=hxI.n
 have hkk:d.y.ts.length - 1=k:=by omega
 rw[hkk]
 obtain⟨old,hold⟩:∃y,d.y.old=y:=⟨_,rfl⟩
 obtain⟨top,ht⟩:∃y,d.y.top=y:=⟨_,rfl⟩
 rw[hold] at hbx hsum
 rw[ht] at hsum htop
 obtain⟨bp,hp⟩:∃p,d.p=p:=⟨_,rfl⟩
 simp only[hp] at hlk0
 rw[hp] at hbx
 have hbm:bp≠mp:=by rintro rfl;exact hfree.2 (.inl hp.symm)
 have hwr:IntKind.i64.wrap ((n:Int) - 1)=(k:Int):=(Xj _ (by omega)).trans (by omega)
 have k0:(0:Int)<=(k:Int):=by omega
 have k1:(k:Int)<(n:Int):=by omega
 have HB:=Jy W.heap.size W
 have huse:∀v:Int,(old:Int)<=v->v<(top:Int)->v∈q->u=true:=fun v h1 h2 h3=>by
  rw[<-hu,rc,List.any_eq_true]
  exact⟨v,h3,by simp[hold,ht];omega⟩
 have hnouse:(∀v:Int,(old:Int)<=v->v<(top:Int)->v ∉ q)->u=false:=fun hh=>by
  rw[<-hu,rc,List.any_eq_false]
  intro v hv hc
  simp[hold,ht] at hc
  exact hh v (by omega) (by omega) hv
 have hlow:old<=top:=by omega
 have hcc:=Rd.tab hrd hx
 rw[hm] at hcc
 have hcell:∀W',Below W.heap.size W W'->W'.cell? ⟨bp,1,none⟩=some (.slice (some ⟨g,0,none⟩) n c)/\W'.cell? ⟨bp,0,none⟩=some (.int .i64 (old:Nat))/\W'.cell? ⟨g,k * 3,none⟩=some (.slice x.A x.t.o.length x.a)/\W'.cell? ⟨g,k * 3+1,none⟩=some (.slice x.B m x.b)/\W'.cell? ⟨g,k * 3+2,none⟩=some (.slice x.C x.t.m.length x.c):=fun W' hb=>⟨(hbx.below hb).cell rfl,(hbx.below hb).cell rfl,aE (B:=0) hb hcc.1,aE (B:=0) hb hcc.2.1,aE (B:=0) hb hcc.2.2⟩
 obtain⟨c1,c0,c2,c3,c4⟩:=hcell W (Jy _ _)
 obtain⟨ao,hao⟩:∃y,x.t.o.length=y:=⟨_,rfl⟩
 obtain⟨am,ham⟩:∃y,x.t.m.length=y:=⟨_,rfl⟩
 rw[hao,ham] at hcell
 have HS:=J0 hsum;have HH:=J0 h;have HI:=J0 hi;have HOK:=J0 hok;have HM:=J0 hm;have HR:=J0 hrt;have HLA:=J0 hlast;have HOD:=J0 hold;have HTP:=J0 ht;have HP:=J0 hp;have HEV:=J0 ev;have HNL:=J0 hnl;have HKN:=J0 hkn;have HDE:=J0 hdE;have HUSE:=J0 huse;have HNO:=J0 hnouse;have HX:=J0 hx;have HC:=J0 hcell;have HNMQ:=J0 hnm;have HLEN:=J0 hlen;have HXN:=J0 hxn;have HXM:=J0 (J7 hx)
 clear hf hd hnl2 hold ht hok hsum hp h ev hm hlast hi hx hxI hrd hnl hu hkn hdE hrt huse hnouse hcell hnm hlen hxn hcc c2 c3 c4 hao ham hkk
 go_enter Tryz.func20,Tryz.ntmps20
 go_wp2_with fail
 have HB0:=HB
 clear HB c0 c1
 go_loopw [9] (fun i wr=>∃(v:Nat),old<=v/\v<=top/\i=.int .i64 (v:Nat)/\Below W.heap.size W wr/\Hid (∀y:Int,(old:Int)<=y->y<(v:Int)->y ∉ q)) (fun i _=>top - (intOf i).toNat)
 case atStart=>exact⟨old,J9 _,hlow,rfl,HB0,J0 (fun y h1 h2=>by omega)⟩
 case round=>
  obtain⟨v,hv0,hv1,rfl,HB,hno⟩:=hrel
  clear HB0
  by_cases hlt:v<top
  ·obtain⟨r,hr⟩:∃r,(q.any fun y=>decide (y=(v:Int)))=r:=⟨_,rfl⟩
   have HRR:=J0 hr
   have hv64:IntKind.i64.wrap ((v:Int)+1)=((v+1:Nat):Int):=(Xj _ (by omega)).trans (by omega)
   have hL2:=hL.below HB
   clear hr
   have HBr:=HB
   clear HB
   have HB:=HBr
   cases r
   ·go_wp2_with (first|(go_at_call 33;refine(di bp old n _ c top HS.out (by omega) _ (hbx.below HB)).mono ?_;rintro e w1 ⟨rfl,hb⟩;replace HB:=HB.trans (hb.mono HB.size);clear hb)|(go_at_call 44;refine(li L cL nl q HNL.out (v:Int) _ (hL.below HB) hl).mono ?_;rw[HRR.out];rintro e w2 ⟨rfl,hb⟩;replace HB:=HB.trans (hb.mono HB.size);clear hb))
    go_roundw
    case rel=>
     refine⟨v+1,by omega,by omega,by go_num,HB,J0 (fun y h1 h2 hm=>?_)⟩
     rcases(by omega:y<(v:Int)\/y=(v:Int)) with h3|rfl
     ·exact hno.out y h1 h3 hm
     ·have:=List.any_eq_false.1 HRR.out _ hm
      simp at this
    case measure=>simp[intOf];omega
   ·have hut:u=true:=by
     obtain⟨y,hy,e⟩:=List.any_eq_true.1 HRR.out
     simp at e
     subst e
     exact HUSE.out _ (by omega) (by omega) hy
    go_wp2_with (first|(go_at_call 33;refine(di bp old n _ c top HS.out (by omega) _ (hbx.below HB)).mono ?_;rintro e w1 ⟨rfl,hb⟩;replace HB:=HB.trans (hb.mono HB.size);clear hb)|(go_at_call 44;refine(li L cL nl q HNL.out (v:Int) _ (hL.below HB) hl).mono ?_;rw[HRR.out];rintro e w2 ⟨rfl,hb⟩;replace HB:=HB.trans (hb.mono HB.size);clear hb))
    refine Xx (v:=.tuple #[.int .i64 0,.int .i64 93]) (by simp[results,Tryz.results20,go_sem, *];done) rfl (.inl ⟨hut,rfl,HB⟩)
  ·obtain rfl:top=v:=by omega
   have huf:u=false:=HNO.out hno.out
   clear hno hlow hv0 hv1 hlt
   go_upto_region 9 with (go_at_call 33;refine(di bp old n _ c top HS.out (by omega) _ (hbx.below HB)).mono ?_;rintro e w1 ⟨rfl,hb⟩;replace HB:=HB.trans (hb.mono HB.size);clear hb)
   rename EQ=>W1
   obtain⟨c1,c0,c2,c3,c4⟩:=HC.out _ HB
   have nb:=aA (w:=W1) (.cells #[.slice x.A ao x.a,.slice x.B m x.b,.slice x.C am x.c] 96)
   have P:=aD.new W1 [.slice x.A ao x.a,.slice x.B m x.b,.slice x.C am x.c] 96
   go_upto_region 11 with fail
   generalize W1.alloc (.cells #[.slice x.A ao x.a,.slice x.B m x.b,.slice x.C am x.c] 96)=W2 at *
   have HB2:=HB.trans (nb.mono HB.size)
   clear c0 c1 c2 c3 c4
   generalize W1.heap.size=q0 at *
   have h2:=HH.out.below HB2
   have hcm:=h2.cpmp
   have hq0:q0≠mp:=by
    rintro rfl
    have hm2:=h2.map
    unfold jb at hm2
    unfold aD at P
    rw[P] at hm2
    cases hm2
   have hbx2:=hbx.below HB2
   have hbO:∀W',aO (some mp) none W2 W'->aD W' bp [.int .i64 (old:Nat),.slice (some ⟨g,0,none⟩) n c] 89:=fun W' hO=>hbx2.only hO (by intro e;exact hbm (Jj e)) (by simp)
   have hall:∀W',aO (some mp) none W2 W'->W'.cell? ⟨cp,0,none⟩=some (.map (some mp))/\W'.cell? ⟨q0,1,none⟩=some (.slice x.B m x.b)/\aO (some mp) none W2 W':=fun W' hO=>⟨(h2.box.only hO (by simpa using hcm) (by simp)).f1.1,(P.only hO (by simpa using hq0) (by simp)).cell rfl,hO⟩
   have hxI2:=h2.tabs d HDE.out x HXM.out
   have hxO:∀W',aO (some mp) none W2 W'->Rd W' x.B (aC x.t.n):=fun W' hO=>(hxI2.n.lt.keep (fun g hg=>hO.block g hg.2 (by intro e;exact hg.1.2.2 (Jj e)) (by simp))).rd
   have H2:=J0 h2
   have HPI:Hid ((prs es)[i]?=some (.string nm,.pointer (some ⟨bp,0,none⟩))):=J0 (by rw[h2.prs,Kv,HI.out,<-HNMQ.out,<-HP.out];rfl)
   have HU:Hid (∀(j:Nat) (y:MapEntry),es[j]?=some y->y.key=.string nm->j=i):=J0 (fun j y hj he=>zg h2 HI.out HNMQ.out hj he)
   clear h2 hxI2
   obtain⟨lk,hlk⟩:=gB (P:=Tryz.prog) Tryz.underlying9 hn
   refine wp_region_noPanic ?_
   refine wp_region_held_drew (S:=(fun W'=>W'.cell? ⟨cp,0,none⟩=some (.map (some mp))/\W'.cell? ⟨q0,1,none⟩=some (.slice x.B m x.b)/\aO (some mp) none W2 W')) (by kernel_rfl) ?_ (fun hHeld=>?_)
   ·(refine hall _ ?_;repeat (first|assumption|exact aO.refl _ _ _|apply aO.drew|refine aO.seq ?_ (aA _)))
   refine Y6 (i:=0) (oi:=_) (v:=?_) rfl (by kernel_rfl) (by kernel_rfl) (by kernel_rfl) (fun _ _ _ h=>h) (Or.inl ⟨by rfl,?_⟩) hHeld ?_
   rotate_left
   ·(intro w hSw;(try dsimp only at hSw);go_simp;first|done|with_reducible rfl)
   try simp only[Act.put,J1,J3,J2,Ky,K9,Jz]
   refine Y6 (i:=1) (oi:=_) (v:=?_) rfl (by kernel_rfl) (by kernel_rfl) (by kernel_rfl) (fun _ _ _ h=>h) (Or.inl ⟨by rfl,?_⟩) hHeld ?_
   rotate_left
   ·(intro w hSw;(try dsimp only at hSw);go_simp;first|done|with_reducible rfl)
   try simp only[Act.put,J1,J3,J2,Ky,K9,Jz]
   refine Y6 (i:=2) (oi:=_) (v:=?_) rfl (by kernel_rfl) (by kernel_rfl) (by kernel_rfl) (fun _ _ _ h=>h) (Or.inl ⟨by rfl,?_⟩) hHeld ?_
   rotate_left
   ·(intro w hSw;(try dsimp only at hSw);go_simp;first|done|with_reducible rfl)
   try simp only[Act.put,J1,J3,J2,Ky,K9,Jz]
   refine Y6 (i:=3) (oi:=_) (v:=?_) rfl (by kernel_rfl) (by kernel_rfl) (by kernel_rfl) (fun _ _ _ h=>h) (Or.inl ⟨by rfl,?_⟩) hHeld ?_
   rotate_left
   ·(intro w hSw;(try dsimp only at hSw);go_simp;first|done|with_reducible rfl)
   try simp only[Act.put,J1,J3,J2,Ky,K9,Jz]
   refine Y6 (i:=4) (oi:=_) (v:=?_) rfl (by kernel_rfl) (by kernel_rfl) (by kernel_rfl) (fun _ _ _ h=>h) (Or.inl ⟨by rfl,?_⟩) hHeld ?_
   rotate_left
   ·(intro w hSw;(try dsimp only at hSw);go_simp;first|done|with_reducible rfl)
   try simp only[Act.put,J1,J3,J2,Ky,K9,Jz]
   refine Y6 (i:=5) (oi:=_) (v:=?_) rfl (by kernel_rfl) (by kernel_rfl) (by kernel_rfl) (fun _ _ _ h=>h) (Or.inl ⟨by rfl,?_⟩) hHeld ?_
   rotate_left
   ·(intro w hSw;(try dsimp only at hSw);go_simp;first|done|with_reducible rfl)
   try simp only[Act.put,J1,J3,J2,Ky,K9,Jz]
   refine Y6 (i:=7) (oi:=_) (v:=?_) rfl (by kernel_rfl) (by kernel_rfl) (by kernel_rfl) (fun _ _ _ h=>h) (Or.inl ⟨by rfl,?_⟩) hHeld ?_
   rotate_left
   ·(intro w hSw;(try dsimp only at hSw);go_simp;first|done|with_reducible rfl)
   try simp only[Act.put,J1,J3,J2,Ky,K9,Jz]
   refine Y6 (i:=8) (oi:=_) (v:=?_) rfl (by kernel_rfl) (by kernel_rfl) (by kernel_rfl) (fun _ _ _ h=>h) (Or.inl ⟨by rfl,?_⟩) hHeld ?_
   rotate_left
   ·(intro w hSw;(try dsimp only at hSw);go_simp;first|done|with_reducible rfl)
   try simp only[Act.put,J1,J3,J2,Ky,K9,Jz]
   refine wpAnyH_ready (rs:=[6]) (by kernel_rfl) (by simp) ?_
   refine AllReadyH.cons (o:=_) rfl (fun K hK=>?_) AllReadyH.nil
   go_simp
   (go_at_call 33;obtain⟨_,_,HOx⟩:=hHeld;refine(di bp old n _ c top HS.out (by omega) _ (hbO _ HOx)).mono ?_;rintro e wN ⟨rfl,hbN⟩;replace HOx:=aO.seq HOx hbN;have hbA:=Below.undrewS hbN)
   try (go_wp2_with fail)
   refine hK.out _ _ ?_ (fun hHeld=>?_)
   ·(try dsimp only);(refine hall _ ?_;repeat (first|assumption|exact aO.refl _ _ _|apply aO.drew|refine aO.seq ?_ (aA _)))
   clear hK K
   try simp only[Act.put,J1,J3,J2,Ky,K9,Jz]
   refine wpAnyH_ready (rs:=[9]) (by kernel_rfl) (by simp) ?_
   refine AllReadyH.cons (o:=_) rfl (fun K hK=>?_) AllReadyH.nil
   go_simp
   (go_at_call 45;obtain⟨_,_,HOy⟩:=hHeld;refine(jO x.B x.b m x.t.n HM.out HR.out _ (hxO _ HOy) (by omega) hcb).mono ?_;rintro e W3 ⟨X0,z0,v2,v3,b1,b2,rfl,hd0,hb1,hb12,hb2,R1,hBl,own2,lt2,own3,hbS⟩;have HO3:=aO.seq HOy hbS;have hbB:=aB hbA hbS;have hb1A:=Q7 hbA.size hb1;have hBlA:=fun ad (e:X0=some ad)=>(⟨Q7 hbA.size (hBl ad e).1,(hBl ad e).2⟩:W2.heap.size<=ad.block/\ad.block<b1);obtain⟨X1,z1,rfl,u1,u2,r1⟩:=aL own2;obtain⟨X2,z2,rfl,u4,u5,r2⟩:=aL own3)
   try (go_wp2_with fail)
   refine hK.out _ _ ?_ (fun hHeld=>?_)
   ·(try dsimp only);(refine hall _ ?_;repeat (first|assumption|exact aO.refl _ _ _|apply aO.drew|refine aO.seq ?_ (aA _)))
   clear hK K
   try simp only[Act.put,J1,J3,J2,Ky,K9,Jz]
   refine wpAnyH_ready (rs:=[10]) (by kernel_rfl) (by simp) ?_
   refine AllReadyH.cons (o:=_) rfl (fun K hK=>?_) AllReadyH.nil
   go_simp
   refine hK.out _ _ ?_ (fun hHeld=>?_)
   ·(try dsimp only);(refine hall _ ?_;repeat (first|assumption|exact aO.refl _ _ _|apply aO.drew|refine aO.seq ?_ (aA _)))
   clear hK K
   try simp only[Act.put,J1,J3,J2,Ky,K9,Jz]
   refine Y6 (i:=11) (oi:=_) (v:=?_) rfl (by kernel_rfl) (by kernel_rfl) (by kernel_rfl) (fun _ _ _ h=>h) (Or.inl ⟨by rfl,?_⟩) hHeld ?_
   rotate_left
   ·(intro w hSw;(try dsimp only at hSw);go_simp;first|done|with_reducible rfl)
   try simp only[Act.put,J1,J3,J2,Ky,K9,Jz]
   refine wpAnyH_ready (rs:=[12]) (by kernel_rfl) (by simp) ?_
   refine AllReadyH.cons (o:=_) rfl (fun K hK=>?_) AllReadyH.nil
   go_simp
   refine hK.out _ _ ?_ (fun hHeld=>?_)
   ·(try dsimp only);(refine hall _ ?_;repeat (first|assumption|exact aO.refl _ _ _|apply aO.drew|refine aO.seq ?_ (aA _)))
   clear hK K
   try simp only[Act.put,J1,J3,J2,Ky,K9,Jz]
   refine wpAnyH_ready (rs:=[13]) (by kernel_rfl) (by simp) ?_
   refine AllReadyH.cons (o:=_) rfl (fun K hK=>?_) AllReadyH.nil
   have HZ3:=HO3.size
   obtain⟨W4,hW4⟩:∃W4,W4=(W3.alloc (.cells #[.slice X0 m z0,.slice X1 m z1,.slice X2 m z2] 96)).alloc (.cells #[.int .i64 (top:Nat),.slice (some ⟨W3.heap.size,0,none⟩) 1 1] 89):=⟨_,rfl⟩
   have hb4:Below W3.heap.size W3 W4:=by rw[hW4];exact aB (aA _) (aA _)
   have HO4:aO (some mp) none W2 W4:=aO.seq HO3 hb4
   have hb24:=aB hbB hb4
   have hmap4:jb W4 mp es clock:=H2.out.map.below hb24
   obtain⟨W5,es',hrun,hM5,hP5,hB5,hG5,hZ5⟩:=mH (e:=86) (string_keyed Tryz.underlying9) Tryz.underlying78 hmap4 (H2.out.keys Tryz.underlying9) (val:=.pointer (some ⟨W3.heap.size+1,0,none⟩)) hlk HPI.out HU.out
   have HO5:=aO.grown HO4 hG5 (.inl rfl)
   rw[hW4] at hrun
   go_simp
   refine hK.out _ _ ?_ (fun hHeld=>?_)
   ·(try dsimp only);(refine hall _ ?_;repeat (first|assumption|exact aO.refl _ _ _|apply aO.drew|refine aO.seq ?_ (aA _)))
   clear hK K
   try simp only[Act.put,J1,J3,J2,Ky,K9,Jz]
   refine wpAnyH_done (by kernel_rfl) ?_ _
   refine NoPanic.normal ?_
   go_wp2_with fail
   obtain⟨d',hdy,hcat,hfr⟩:=vp (top:=top) H2.out HI.out hbB HM.out HR.out hd0 u1 hb1A hb12 hb2 R1.rd hBlA own2 own3 hM5 (by rw[HNMQ.out];exact hP5) hB5 (by rw[hW4] at hG5;exact hG5)
   refine Xx (v:=.tuple #[.int .i64 (k:Int),.int .i64 0]) (by simp[results,Tryz.results20,go_sem, *];done) rfl ?_
   have hdz:d'.y=uU d.y:=by rw[hdy,uU,HLA.out,HTP.out]
   first
    |exact⟨rfl,d',hdz,⟨es',hcat⟩,bR.after HB2 hfr⟩
    |exact .inr ⟨huf,rfl,d',es',hdz,hcat,bR.after HB2 hfr⟩
end
end Go.Proofs.YteembinfgbapgaaGreat
