/- Merged out of: Yo. -/
import Derived.Test.YteembinfgbapgaaGreatE00
import Derived.Test.YteembinfgbapgaaGreatE15
set_option linter.unusedSimpArgs false
set_option linter.unusedVariables false
set_option maxRecDepth 100000
set_option maxHeartbeats 8000000
namespace Go.Proofs.YteembinfgbapgaaGreat
section
open Go.RowKit Go.Lib Go.Maps
def bB.P3 (Q:Nat->Prop) (W:EQ) (x:bB):Prop:=au Q W x.A (aC x.t.o)/\au Q W x.B (aC x.t.n)/\au Q W x.C (aJ x.t.m)
theorem bB.P3.keep {Q Q':Nat->Prop} {W W':EQ} {x:bB} (h:x.P3 Q W) (hk:∀g,Q g->g<W.heap.size->W'.heap[g]?=W.heap[g]?) (hq:∀g,Q g->g<W.heap.size->Q' g):x.P3 Q' W':=
 ⟨(h.1.lt.keep fun g hg=>hk g hg.1 hg.2).mono fun g hg=>hq g hg.1 hg.2,(h.2.1.lt.keep fun g hg=>hk g hg.1 hg.2).mono fun g hg=>hq g hg.1 hg.2,(h.2.2.lt.keep fun g hg=>hk g hg.1 hg.2).mono fun g hg=>hq g hg.1 hg.2⟩
structure kv (W8 W:EQ) (rb tp:Nat) (s:EP) (am:Bool) (sn:EP) (o:Nat) (Fv Tv:ER) (fv:List FV) (tv:List bB):Prop where
 P:aD W rb [.string s,.bool am] 124
 T:aD W tp [.string sn,.int .i64 (o:Nat),Fv,Tv] 58
 hr:rb<W8.heap.size
 ht:tp<W8.heap.size
 hrt:rb≠tp
 ownF:W.ownsRow W8.heap.size 27 1 Fv fv.length (bJ fv)
 ownT:W.ownsRow W8.heap.size 110 3 Tv tv.length (ah tv)
 ne:∀g,Fv.ownBlock=some g->Tv.ownBlock≠some g
 fl:∀v∈fv,au (fun g=>W8.heap.size<=g/\Fv.ownBlock≠some g/\Tv.ownBlock≠some g) W v.A (aC v.l)
 tb:∀x∈tv,x.P3 (fun g=>W8.heap.size<=g/\Fv.ownBlock≠some g/\Tv.ownBlock≠some g) W
 only:aO (some rb) (some tp) W8 W
theorem kv.start {W8:EQ} {rb tp o:Nat} {s sn:EP} {am:Bool} (hP:aD W8 rb [.string s,.bool am] 124) (hT:aD W8 tp [.string sn,.int .i64 (o:Nat),.slice none 0 0,.slice none 0 0] 58) (hrt:rb≠tp):kv W8 W8 rb tp s am sn o (.slice none 0 0) (.slice none 0 0) [] []:=
 ⟨hP,hT,hP.lt,hT.lt,hrt,ai _ _ _ _,ai _ _ _ _,(fun g hg=>by cases hg),(fun v hv=>by cases hv),(fun x hx=>by cases hx),aO.of (Jy _ _)⟩
theorem kv.move {W8 W:EQ} {rb tp o:Nat} {s sn:EP} {am:Bool} {Fv Tv:ER} {fv:List FV} {tv:List bB} (h:kv W8 W rb tp s am sn o Fv Tv fv tv) {W':EQ} {s' sn':EP} {am':Bool} {o':Nat} (hO:aO (some rb) (some tp) W W') (hP:aD W' rb [.string s',.bool am'] 124) (hT:aD W' tp [.string sn',.int .i64 (o':Nat),Fv,Tv] 58):kv W8 W' rb tp s' am' sn' o' Fv Tv fv tv:=by
 have hr:=h.hr
 have ht:=h.ht
 have hk:∀g,W8.heap.size<=g->g<W.heap.size->W'.heap[g]?=W.heap[g]?:=fun g h1 h2=>hO.block g h2 (by simp;omega) (by simp;omega)
 exact⟨hP,hT,hr,ht,h.hrt,aN h.ownF fun g hg=>hk g (aF h.ownF g hg) (aY h.ownF g hg),aN h.ownT fun g hg=>hk g (aF h.ownT g hg) (aY h.ownT g hg),h.ne,fun v hv=>((h.fl v hv).lt.keep fun g hg=>hk g hg.1.1 hg.2).mono fun g hg=>hg.1,fun x hx=>(h.tb x hx).keep (fun g h1 h2=>hk g h1.1 h2) (fun g h1 _=>h1),h.only.then hO⟩
theorem kv.below {W8 W:EQ} {rb tp o:Nat} {s sn:EP} {am:Bool} {Fv Tv:ER} {fv:List FV} {tv:List bB} (h:kv W8 W rb tp s am sn o Fv Tv fv tv) {W':EQ} (hb:Below W.heap.size W W'):kv W8 W' rb tp s am sn o Fv Tv fv tv:=h.move (aO.of hb) (h.P.below hb) (h.T.below hb)
theorem kv.put {W8 W:EQ} {rb tp o:Nat} {s sn:EP} {am:Bool} {Fv Tv:ER} {fv:List FV} {tv:List bB} (h:kv W8 W rb tp s am sn o Fv Tv fv tv) (s':EP) (am':Bool):kv W8 ((W.setCell ⟨rb,0,none⟩ (.string s')).setCell ⟨rb,1,none⟩ (.bool am')) rb tp s' am' sn o Fv Tv fv tv:=
 h.move (((aO.of (Jy _ _)).sw.set3 0 _).set3 1 _).sw (aI (aI h.P 0 _) 1 _) (h.T.far2 h.hrt _ _)
theorem kv.addF {W8 W:EQ} {rb tp o:Nat} {s sn:EP} {am:Bool} {Fv Tv:ER} {fv:List FV} {tv:List bB} (h:kv W8 W rb tp s am sn o Fv Tv fv tv) {x:FV} (hx:au (fun g=>W8.heap.size<=g/\Fv.ownBlock≠some g/\Tv.ownBlock≠some g) W x.A (aC x.l)) {n:Nat} (hn:fv.length=n) {ob:Obj} {W5:EQ} {v':ER} (own6:W5.ownsRow W8.heap.size 27 1 v' (n+1) (bJ fv++[.slice x.A x.l.length x.a])) (gr:(W.alloc ob).grownBy W5 Fv.ownBlock) (hat:v'.ownBlock=Fv.ownBlock\/v'.ownBlock=some (W.alloc ob).heap.size):
 kv W8 (W5.setCell ⟨tp,2,none⟩ v') rb tp s am sn o v' Tv (fv++[x]) tv:=by
 obtain⟨Wa,hWa⟩:∃Wa,W.alloc ob=Wa:=⟨_,rfl⟩
 have hba:Below W.heap.size W Wa:=by rw[<-hWa];exact aA ob
 have hza:W.heap.size<Wa.heap.size:=by rw[<-hWa];simp
 rw[hWa] at gr hat
 have hr:=h.hr
 have ht:=h.ht
 have hz:=h.only.size
 have hz5:=gr.size
 have k5:∀k,k<W.heap.size->Fv.ownBlock≠some k->W5.heap[k]?=W.heap[k]?:=fun k hk hn=>(gr.block k (by omega) (fun e=>hn e.symm)).trans (hba.block k hk)
 have k6:∀k,k≠tp->(W5.setCell ⟨tp,2,none⟩ v').heap[k]?=W5.heap[k]?:=fun k hn=>J5 _ _ _ _ hn
 have hbF:∀g,Fv.ownBlock=some g->W8.heap.size<=g:=fun g hg=>aF h.ownF g hg
 have hbT:∀g,Tv.ownBlock=some g->W8.heap.size<=g/\g<W.heap.size:=fun g hg=>⟨aF h.ownT g hg,aY h.ownT g hg⟩
 have hb':∀g,v'.ownBlock=some g->W8.heap.size<=g:=fun g hg=>aF own6 g hg
 have hkk:∀g,g<W.heap.size->Fv.ownBlock≠some g->g≠tp->(W5.setCell ⟨tp,2,none⟩ v').heap[g]?=W.heap[g]?:=fun g h1 h2 h3=>(k6 g h3).trans (k5 g h1 h2)
 have hvq:∀g,g<W.heap.size->Fv.ownBlock≠some g->v'.ownBlock≠some g:=fun g h1 h2 e=>by
  rcases hat with h3|h3
  ·exact h2 (h3.symm.trans e)
  ·rw[e] at h3;have:=Jj h3;omega
 have hq:∀g,(W8.heap.size<=g/\Fv.ownBlock≠some g/\Tv.ownBlock≠some g)->g<W.heap.size->(W5.setCell ⟨tp,2,none⟩ v').heap[g]?=W.heap[g]?:=fun g h1 h2=>hkk g h2 h1.2.1 (by omega)
 have hm:∀g,(W8.heap.size<=g/\Fv.ownBlock≠some g/\Tv.ownBlock≠some g)->g<W.heap.size->(W8.heap.size<=g/\v'.ownBlock≠some g/\Tv.ownBlock≠some g):=fun g h1 h2=>⟨h1.1,hvq g h2 h1.2.1,h1.2.2⟩
 have mv:∀{B:EL} {cs:EO},au (fun g=>W8.heap.size<=g/\Fv.ownBlock≠some g/\Tv.ownBlock≠some g) W B cs->au (fun g=>W8.heap.size<=g/\v'.ownBlock≠some g/\Tv.ownBlock≠some g) (W5.setCell ⟨tp,2,none⟩ v') B cs:=fun hA=>(hA.lt.keep fun g hg=>hq g hg.1 hg.2).mono fun g hg=>hm g hg.1 hg.2
 have s6:(W5.setCell ⟨tp,2,none⟩ v').heap.size=W5.heap.size:=by simp[World.setCell]
 have hT5:aD W5 tp [.string sn,.int .i64 (o:Nat),Fv,Tv] 58:=(k5 tp (by omega) (fun e=>by have:=hbF tp e;omega)).trans h.T
 refine⟨(hkk rb (by omega) (fun e=>by have:=hbF rb e;omega) h.hrt).trans h.P,aI hT5 2 v',hr,ht,h.hrt,?_,aN h.ownT fun g hg=>hkk g (hbT g hg).2 (fun e=>h.ne g e hg) (by have:=hbT g hg;omega),fun g hg e=>?_,fun v hv=>?_,fun y hy=>(h.tb y hy).keep hq hm,⟨gr.os.trans (hba.os.trans h.only.os),gr.tape.trans (hba.tape.trans h.only.tape),gr.output.trans (hba.output.trans h.only.output),by rw[s6];omega,fun k hk h1 h2=>(hkk k (by omega) (fun e=>by have:=hbF k e;omega) (fun e=>h2 (congrArg some e))).trans (h.only.block k hk h1 h2)⟩⟩
 ·rw[Vq,hn]
  have e:bJ (fv++[x])=bJ fv++[.slice x.A x.l.length x.a]:=by simp[bJ]
  rw[e]
  exact aN own6 fun g hg=>k6 g (by have:=hb' g hg;omega)
 ·rcases hat with h3|h3
  ·exact h.ne g (h3.symm.trans hg) e
  ·rw[hg] at h3;have:=Jj h3;have:=(hbT g e).2;omega
 ·rcases X5.1 hv with h1|h1
  ·exact mv (h.fl v h1)
  ·simp at h1;subst h1;exact mv hx
theorem kv.addT {W8 W:EQ} {rb tp o:Nat} {s sn:EP} {am:Bool} {Fv Tv:ER} {fv:List FV} {tv:List bB} (h:kv W8 W rb tp s am sn o Fv Tv fv tv) {x:bB} (hx:x.P3 (fun g=>W8.heap.size<=g/\Fv.ownBlock≠some g/\Tv.ownBlock≠some g) W) {n:Nat} (hn:tv.length=n) {ob:Obj} {W5:EQ} {v':ER} (own6:W5.ownsRow W8.heap.size 110 3 v' (n+1) (ah tv++x.cells)) (gr:(W.alloc ob).grownBy W5 Tv.ownBlock) (hat:v'.ownBlock=Tv.ownBlock\/v'.ownBlock=some (W.alloc ob).heap.size):
 kv W8 (W5.setCell ⟨tp,3,none⟩ v') rb tp s am sn o Fv v' fv (tv++[x]):=by
 obtain⟨Wa,hWa⟩:∃Wa,W.alloc ob=Wa:=⟨_,rfl⟩
 have hba:Below W.heap.size W Wa:=by rw[<-hWa];exact aA ob
 have hza:W.heap.size<Wa.heap.size:=by rw[<-hWa];simp
 rw[hWa] at gr hat
 have hr:=h.hr
 have ht:=h.ht
 have hz:=h.only.size
 have hz5:=gr.size
 have k5:∀k,k<W.heap.size->Tv.ownBlock≠some k->W5.heap[k]?=W.heap[k]?:=fun k hk hn=>(gr.block k (by omega) (fun e=>hn e.symm)).trans (hba.block k hk)
 have k6:∀k,k≠tp->(W5.setCell ⟨tp,3,none⟩ v').heap[k]?=W5.heap[k]?:=fun k hn=>J5 _ _ _ _ hn
 have hbF:∀g,Tv.ownBlock=some g->W8.heap.size<=g:=fun g hg=>aF h.ownT g hg
 have hbT:∀g,Fv.ownBlock=some g->W8.heap.size<=g/\g<W.heap.size:=fun g hg=>⟨aF h.ownF g hg,aY h.ownF g hg⟩
 have hb':∀g,v'.ownBlock=some g->W8.heap.size<=g:=fun g hg=>aF own6 g hg
 have hkk:∀g,g<W.heap.size->Tv.ownBlock≠some g->g≠tp->(W5.setCell ⟨tp,3,none⟩ v').heap[g]?=W.heap[g]?:=fun g h1 h2 h3=>(k6 g h3).trans (k5 g h1 h2)
 have hvq:∀g,g<W.heap.size->Tv.ownBlock≠some g->v'.ownBlock≠some g:=fun g h1 h2 e=>by
  rcases hat with h3|h3
  ·exact h2 (h3.symm.trans e)
  ·rw[e] at h3;have:=Jj h3;omega
 have hq:∀g,(W8.heap.size<=g/\Fv.ownBlock≠some g/\Tv.ownBlock≠some g)->g<W.heap.size->(W5.setCell ⟨tp,3,none⟩ v').heap[g]?=W.heap[g]?:=fun g h1 h2=>hkk g h2 h1.2.2 (by omega)
 have hm:∀g,(W8.heap.size<=g/\Fv.ownBlock≠some g/\Tv.ownBlock≠some g)->g<W.heap.size->(W8.heap.size<=g/\Fv.ownBlock≠some g/\v'.ownBlock≠some g):=fun g h1 h2=>⟨h1.1,h1.2.1,hvq g h2 h1.2.2⟩
 have mv:∀{B:EL} {cs:EO},au (fun g=>W8.heap.size<=g/\Fv.ownBlock≠some g/\Tv.ownBlock≠some g) W B cs->au (fun g=>W8.heap.size<=g/\Fv.ownBlock≠some g/\v'.ownBlock≠some g) (W5.setCell ⟨tp,3,none⟩ v') B cs:=fun hA=>(hA.lt.keep fun g hg=>hq g hg.1 hg.2).mono fun g hg=>hm g hg.1 hg.2
 have s6:(W5.setCell ⟨tp,3,none⟩ v').heap.size=W5.heap.size:=by simp[World.setCell]
 have hT5:aD W5 tp [.string sn,.int .i64 (o:Nat),Fv,Tv] 58:=(k5 tp (by omega) (fun e=>by have:=hbF tp e;omega)).trans h.T
 refine⟨(hkk rb (by omega) (fun e=>by have:=hbF rb e;omega) h.hrt).trans h.P,aI hT5 3 v',hr,ht,h.hrt,aN h.ownF fun g hg=>hkk g (hbT g hg).2 (fun e=>h.ne g hg e) (by have:=hbT g hg;omega),?_,fun g hg e=>?_,fun v hv=>mv (h.fl v hv),fun y hy=>?_,⟨gr.os.trans (hba.os.trans h.only.os),gr.tape.trans (hba.tape.trans h.only.tape),gr.output.trans (hba.output.trans h.only.output),by rw[s6];omega,fun k hk h1 h2=>(hkk k (by omega) (fun e=>by have:=hbF k e;omega) (fun e=>h2 (congrArg some e))).trans (h.only.block k hk h1 h2)⟩⟩
 ·rw[Vq,hn,gg]
  have e:ah [x]=x.cells:=by simp[ah]
  rw[e]
  exact aN own6 fun g hg=>k6 g (by have:=hb' g hg;omega)
 ·rcases hat with h3|h3
  ·exact h.ne g hg (h3.symm.trans e)
  ·rw[e] at h3;have:=Jj h3;have:=(hbT g hg).2;omega
 ·rcases X5.1 hy with h1|h1
  ·exact(h.tb y h1).keep hq hm
  ·simp at h1;subst h1;exact hx.keep hq hm
theorem kv.tyv {W8 W:EQ} {rb tp o:Nat} {s sn:EP} {am:Bool} {Fv Tv:ER} {fv:List FV} {tv:List bB} (h:kv W8 W rb tp s am sn o Fv Tv fv tv) {ts:List Tb} (e1:fv.map (·.l)=ts.map (·.n)) (e2:tv.map (·.t)=ts.tail) (h0:tv=[]->Tv=.slice none 0 0):∃x:bk,x.y=⟨sn,o,ts⟩/\x.fv=fv/\x.tv=tv/\Fv=.slice x.F fv.length x.f/\Tv=.slice x.T tv.length x.t/\x.Is (fun _=>True) W:=by
 obtain⟨F,f,hF,hf,_,rF⟩:=aL h.ownF
 obtain⟨T,t,hT,ht,_,rT⟩:=aL h.ownT
 refine⟨⟨⟨sn,o,ts⟩,F,f,T,t,fv,tv⟩,rfl,rfl,rfl,hF,hT,⟨au.mk rF (fun _ _=>trivial),au.mk rT (fun _ _=>trivial),fun v hv=>(h.fl v hv).rd,fun v hv=>⟨(h.tb v hv).1.rd,(h.tb v hv).2.1.rd,(h.tb v hv).2.2.rd⟩,e1,e2,hf,fun hn=>?_⟩⟩
 have h1:=h0 hn
 rw[hT] at h1
 injection h1 with a b c
 exact⟨a,c⟩
theorem bk.Is.nor {Q:Nat->Prop} {W W':EQ} {x:bk} (h:x.Is Q W) {rb:Nat} {s:EP} {b:Bool} (hb:aD W rb [.string s,.bool b] 124) (hk:∀g,g<W.heap.size->g≠rb->W'.heap[g]?=W.heap[g]?):x.Is (fun _=>True) W':=
 ⟨au.mk (h.rF.rd.nor (rj.rows _) hb hk) (fun _ _=>trivial),au.mk (h.rT.rd.nor (rj.tabs _) hb hk) (fun _ _=>trivial),fun v hv=>(h.fl v hv).nor (rj.flds _) hb hk,fun v hv=>⟨(h.tb v hv).1.nor (rj.flds _) hb hk,(h.tb v hv).2.1.nor (rj.flds _) hb hk,(h.tb v hv).2.2.nor (rj.moves _) hb hk⟩,h.eF,h.eT,h.cF,h.cT⟩
theorem bZ.nor {Q:Nat->Prop} {W W':EQ} {A:EL} {c:Nat} {X:List bk} (h:bZ Q W A c X) {rb:Nat} {s:EP} {b:Bool} (hb:aD W rb [.string s,.bool b] 124) (hk:∀g,g<W.heap.size->g≠rb->W'.heap[g]?=W.heap[g]?):bZ (fun _=>True) W' A c X:=
 ⟨h.row.nor (rj.types X) hb hk,fun x hx=>(h.ty x hx).nor hb hk,h.cap,h.non⟩
end
end Go.Proofs.YteembinfgbapgaaGreat
