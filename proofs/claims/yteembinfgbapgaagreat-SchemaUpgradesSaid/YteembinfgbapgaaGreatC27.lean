/- Merged out of: Oj Ok Sa Qf Qg Qh. -/
import Derived.Test.YteembinfgbapgaaGreatC00
import Derived.Test.YteembinfgbapgaaGreatC26
import Derived.Test.YteembinfgbapgaaGreatC01
import Derived.Test.YteembinfgbapgaaGreatC10
import Derived.Deep.Slices
import Derived.ChangeSame
import Derived.Test.YteembinfgbapgaaGreatC20
import Derived.Deep.RegionHeld3
set_option linter.unusedSimpArgs false
set_option linter.unusedVariables false
set_option maxRecDepth 100000
set_option maxHeartbeats 8000000
namespace Go.Proofs.YteembinfgbapgaaGreat
section
open Go.RowKit Go.Lib
def cellsC (cs:List (Ch×Value)):List Value:=cs.flatMap fun p=>chL p.1 p.2
theorem cellsC_get {cs:List (Ch×Value)} {i:Nat} {p:Ch×Value} (h:cs[i]?=some p):∀j,j<9→(cellsC cs)[i * 9+j]?=(chL p.1 p.2)[j]?:=by
 induction cs generalizing i with
 |nil=>simp at h
 |cons a r ih=>
  have e:cellsC (a :: r)=chL a.1 a.2++cellsC r:=by simp[cellsC]
  intro j hj
  cases i with
  |zero=>simp at h;subst h;rw[e,Nat.zero_mul,Nat.zero_add,Xk (by simp[chL];omega)]
  |succ i=>rw[e,Q8 (by simp[chL];omega),show(i+1) * 9+j - (chL a.1 a.2).length=i * 9+j by simp[chL];omega];exact ih (by simpa using h) j hj
def ChO (w:World) (p:Ch×Value):Prop:=∃Q qc,p.2=.slice Q p.1.q.length qc∧p.1.q.length≤qc∧qc≤maxLen∧Rd w Q (cellsI p.1.q)
theorem ChO.below {w w':World} {p:Ch×Value} (h:ChO w p) (hb:Below w.heap.size w w'):ChO w' p:=by
 obtain⟨Q,qc,e,h1,h2,hr⟩:=h
 exact⟨Q,qc,e,h1,h2,hr.below hb⟩
theorem Rd.ch {w:World} {A:Option Addr} {cs:List (Ch×Value)} (h:Rd w A (cellsC cs)) {k:Nat} {p:Ch×Value} (hp:cs[k]?=some p):∃ad,A=some ad∧w.cell? (ad.add (k * 9))=some (.int .i64 p.1.op)∧w.cell? ⟨(ad.add (k * 9)).block,(ad.add (k * 9)).off+(0+1),none⟩=some (.string p.1.s)∧w.cell? ⟨(ad.add (k * 9)).block,(ad.add (k * 9)).off+(1+1),none⟩=some (.string p.1.g.s)∧
 w.cell? ⟨(ad.add (k * 9)).block,(ad.add (k * 9)).off+(2+1),none⟩=some (.int .i64 p.1.g.k)∧w.cell? ⟨(ad.add (k * 9)).block,(ad.add (k * 9)).off+(3+1),none⟩=some (.int .i64 p.1.g.l)∧w.cell? ⟨(ad.add (k * 9)).block,(ad.add (k * 9)).off+(4+1),none⟩=some (.int .i64 p.1.d.k)∧
 w.cell? ⟨(ad.add (k * 9)).block,(ad.add (k * 9)).off+(5+1),none⟩=some (.int .u64 p.1.d.b)∧w.cell? ⟨(ad.add (k * 9)).block,(ad.add (k * 9)).off+(6+1),none⟩=some (.string p.1.d.t)∧w.cell? ⟨(ad.add (k * 9)).block,(ad.add (k * 9)).off+(7+1),none⟩=some p.2:=by
 have g:=cellsC_get hp
 obtain⟨ad,rfl,h0⟩:=h.at (j:=k * 9+0) ((g 0 (by omega)).trans rfl)
 have key:∀j u,j+1<9→(chL p.1 p.2)[j+1]?=some u→w.cell? ⟨(ad.add (k * 9)).block,(ad.add (k * 9)).off+(j+1),none⟩=some u:=fun j u hj hu=>by
  obtain⟨_,e1,h1⟩:=h.at (j:=k * 9+(j+1)) ((g (j+1) hj).trans hu)
  cases e1
  rw[add_part _ _ j] at h1
  exact h1
 exact⟨ad,rfl,h0,key 0 _ (by omega) rfl,key 1 _ (by omega) rfl,key 2 _ (by omega) rfl,key 3 _ (by omega) rfl,key 4 _ (by omega) rfl,key 5 _ (by omega) rfl,key 6 _ (by omega) rfl,key 7 _ (by omega) rfl⟩
def ChS (p:Ch×Value):Prop:=p.1.s.size≤281474976710656∧p.1.g.s.size≤281474976710656∧p.1.d.t.size≤281474976710656∧p.1.q.length≤17592186044415
end
section
open Go.ChangeShapes Go.WideShapes Go.ChangeAt Go.RowKit Go.Joins Go.Deep
open Go.ChangeMaps (open_string shut_string)
def SzT {H:Type} (t:TypeId) (d:DataW H):Prop:=∀n∈DataW.weights Tryz.prog t d,n≤reachBytes
theorem SzT.of {H:Type} {ts:List TypeId} {ds:List (DataW H)} (h:(DataW.weightsEach Tryz.prog ts ds).all (·≤reachBytes)=true) {j:Nat} {t:TypeId} {d:DataW H} (ht:ts[j]?=some t) (hd:ds[j]?=some d):SzT t d:=fun n hn=>by
 have:=List.all_eq_true.1 h _ (DataW.weights_mem_each ht hd n hn)
 simpa using this
theorem weightsAll_in {H:Type} {e:TypeId}:∀{l:List (DataW H)} {d:DataW H},d∈l→∀n∈DataW.weights Tryz.prog e d,n∈DataW.weightsAll Tryz.prog e l
 |d' :: r,d,hd,n,hn=>by
  simp only[DataW.weightsAll,X7]
  rcases List.mem_cons.1 hd with rfl|h
  ·exact Or.inl hn
  ·exact Or.inr (weightsAll_in h n hn)
theorem SzT.part {H:Type} {t t1:TypeId} {fs:Array Field} {ps:List (DataW H)} {j:Nat} {f:Field} {d:DataW H} (h:SzT t (.agg ps)) (hu:Tryz.prog.underlying t=some (.struct fs)) (hf:fs[j]?=some f) (ht:f.type=t1) (hd:ps[j]?=some d):SzT t1 d:=fun n hn=>by
 refine h n ?_
 simp only[DataW.weights,hu]
 refine DataW.weights_mem_each (j:=j) (t:=t1) ?_ hd n hn
 rw[Kv,Array.getElem?_toList,hf,←ht]
 rfl
theorem SzT.elem {H:Type} {t e:TypeId} {l sp:List (DataW H)} {d:DataW H} (h:SzT t (.slice l sp)) (hu:Tryz.prog.underlying t=some (.slice e)) (hd:d∈l):SzT e d:=fun n hn=>by
 refine h n ?_
 simp only[DataW.weights,hu,List.mem_cons,X7]
 exact .inr (.inl (weightsAll_in hd n hn))
theorem SzT.len {H:Type} {t e:TypeId} {l sp:List (DataW H)} (h:SzT t (.slice l sp)) (hu:Tryz.prog.underlying t=some (.slice e)) (hb:1≤Tryz.prog.bytesOf e):l.length≤reachBytes:=by
 have h1:(l.length+sp.length) * Tryz.prog.bytesOf e≤reachBytes:=h _ (by simp only[DataW.weights,hu,List.mem_cons,true_or])
 have:l.length+sp.length≤(l.length+sp.length) * Tryz.prog.bytesOf e:=Nat.le_mul_of_pos_right _ hb
 omega
theorem SzT.lenB {H:Type} {t e:TypeId} {l sp:List (DataW H)} (h:SzT t (.slice l sp)) (hu:Tryz.prog.underlying t=some (.slice e)):l.length * Tryz.prog.bytesOf e≤reachBytes:=by
 have h1:(l.length+sp.length) * Tryz.prog.bytesOf e≤reachBytes:=h _ (by simp only[DataW.weights,hu,List.mem_cons,true_or])
 have:l.length * Tryz.prog.bytesOf e≤(l.length+sp.length) * Tryz.prog.bytesOf e:=Nat.mul_le_mul_right _ (by omega)
 omega
theorem SzT.str {H:Type} {t:TypeId} {s:ByteArray} (h:SzT (H:=H) t (.lit (.string s.data.toList))):s.size≤reachBytes:=by
 have:=h s.data.toList.length (by simp[DataW.weights])
 simpa using this
theorem reach48 {n:Nat} (h:n≤reachBytes):n≤281474976710656:=by
 have:=reachBytes_lt
 omega
section
variable {H:Type} {enc:TypeId×Value→H} {w:World} {base b0:Nat} {r:Reach} {spare:Nat→Bool} {held:Bool} {v:Value} {d:DataW H} {p:List MemPlace}
theorem elem_fld {n:Nat} {cs:List Value} {x:DataW H×List MemPlace} (h:DataW.trod enc Tryz.prog w base spare held n 68 cs=some x):
 ∃f:Fd,cs=[.string f.s,.int .i64 f.k,.int .i64 f.l]∧f.s.size≤maxLen∧(SzT 68 x.1→f.s.size≤281474976710656):=by
 obtain⟨y0,y1,y2,m,rfl,hl,h0,h1,h2⟩:=trod_struct3 Tryz.underlying68 h
 have c3:Tryz.prog.cellsOf 68=3:=by kernel_rfl
 have k0:Tryz.prog.cellsOf 9=1:=by kernel_rfl
 have k1:Tryz.prog.cellsOf 3=1:=by kernel_rfl
 rw[c3] at hl
 obtain⟨c0,c1,c2,rfl⟩:∃a b c,cs=[a,b,c]:=by
  match cs,hl with
  |[a,b,c],_=>exact⟨a,b,c,rfl⟩
 simp only[k0,k1] at h0 h1 h2
 obtain⟨s,e0,e3,w0⟩:=DataW.trod_string Tryz.underlying9 h0
 obtain⟨k,e1,_,w1⟩:=DataW.trod_int Tryz.underlying3 h1
 obtain⟨l,e2,_,w2⟩:=DataW.trod_int Tryz.underlying3 h2
 simp at e0 e1 e2
 subst e0 e1 e2
 refine⟨⟨s,k,l⟩,rfl,w0,fun hz=>reach48 ?_⟩
 subst e3
 exact(hz.part Tryz.underlying68 (j:=0) rfl rfl rfl).str
theorem elem_val {n:Nat} {cs:List Value} {x:DataW H×List MemPlace} (h:DataW.trod enc Tryz.prog w base spare held n 71 cs=some x):
 ∃f:Vl,cs=[.int .i64 f.k,.int .u64 f.b,.string f.t]∧(0≤f.b∧f.b<18446744073709551616)∧(SzT 71 x.1→f.t.size≤281474976710656):=by
 obtain⟨y0,y1,y2,m,rfl,hl,h0,h1,h2⟩:=trod_struct3 Tryz.underlying71 h
 have c3:Tryz.prog.cellsOf 71=3:=by kernel_rfl
 have k0:Tryz.prog.cellsOf 9=1:=by kernel_rfl
 have k1:Tryz.prog.cellsOf 3=1:=by kernel_rfl
 have k2:Tryz.prog.cellsOf 69=1:=by kernel_rfl
 rw[c3] at hl
 obtain⟨c0,c1,c2,rfl⟩:∃a b c,cs=[a,b,c]:=by
  match cs,hl with
  |[a,b,c],_=>exact⟨a,b,c,rfl⟩
 simp only[k0,k1,k2] at h0 h1 h2
 obtain⟨k,e0,_,w0⟩:=DataW.trod_int Tryz.underlying3 h0
 obtain⟨b,e1,_,w1⟩:=DataW.trod_int Tryz.underlying69 h1
 obtain⟨s,e2,e3,w2⟩:=DataW.trod_string Tryz.underlying9 h2
 simp at e0 e1 e2
 subst e0 e1 e2
 refine⟨⟨k,b,s⟩,rfl,wf_u64 w1,fun hz=>reach48 ?_⟩
 subst e3
 exact(hz.part Tryz.underlying71 (j:=2) rfl rfl rfl).str
theorem elem_ints {n:Nat} {cs:List Value} {x:DataW H×List MemPlace} (h:DataW.trod enc Tryz.prog w base spare held n 29 cs=some x):
 ∃Q q qc,cs=[.slice Q q.length qc]∧q.length≤qc∧qc≤maxLen∧Rd w Q (cellsI q)∧(SzT 29 x.1→q.length≤17592186044415):=by
 rcases open_ints Tryz.underlying29 Tryz.underlying3 (by kernel_rfl) h with ⟨hcs,_⟩|⟨a,l,c,zs,hcs,_,hl,hm,hz,hx,hcell,hwz⟩
 ·exact⟨none,[],0,hcs,J9 _,X8 _,Rd.nil _ _,fun _=>X8 _⟩
 ·have hzl:l≤zs.length:=by rw[hz];split <;> omega
  have hlen:(zs.take l).length=l:=by rw[Qv];omega
  refine⟨some a,zs.take l,c,by rw[hlen];exact hcs,by rw[hlen];exact hl,hm,fun _=>⟨a,rfl,fun j u hj=>?_⟩,fun hs=>?_⟩
  ·have hjl:j<l:=by
    rcases Nat.lt_or_ge j l with h'|h'
    ·exact h'
    ·rw[Xy (by rw[cellsI_length,hlen];exact h')] at hj;cases hj
   have hjz:j<zs.length:=by omega
   rw[hcell j hjz]
   simp only[cellsI,Kv,X9,if_pos hjl,J4 hjz,Option.map_some,Option.some.injEq] at hj
   rw[←hj]
   simp[List.getD_eq_getElem?_getD,J4 hjz]
  ·subst hx
   have h8:Tryz.prog.bytesOf 3=8:=by kernel_rfl
   have:=hs.lenB Tryz.underlying29
   rw[h8] at this
   have hr:=reachBytes_lt
   simp[lits] at this
   rw[hlen]
   simp at hlen
   omega
theorem elem_chg {n:Nat} {cs:List Value} {x:DataW H×List MemPlace} (h:DataW.trod enc Tryz.prog w base spare held n 73 cs=some x):
 ∃(c:Ch) (Q:Option Addr) (qc:Nat),cs=chL c (.slice Q c.q.length qc)∧(-9223372036854775808≤c.op∧c.op≤9223372036854775807)∧(0≤c.d.b∧c.d.b<18446744073709551616)∧c.q.length≤qc∧qc≤maxLen∧Rd w Q (cellsI c.q)∧
  (SzT 73 x.1→c.s.size≤281474976710656∧c.g.s.size≤281474976710656∧c.d.t.size≤281474976710656∧c.q.length≤17592186044415):=by
 obtain⟨xs,m,_,rfl,hl,hxl,hf⟩:=DataW.trod_struct Tryz.underlying73 h
 have c9:Tryz.prog.cellsOf 73=9:=by kernel_rfl
 have k0:Tryz.prog.cellsOf 9=1:=by kernel_rfl
 have k1:Tryz.prog.cellsOf 3=1:=by kernel_rfl
 have k3:Tryz.prog.cellsOf 68=3:=by kernel_rfl
 have k4:Tryz.prog.cellsOf 71=3:=by kernel_rfl
 have k5:Tryz.prog.cellsOf 29=1:=by kernel_rfl
 rw[c9] at hl
 obtain⟨c0,c1,c2,c3,c4,c5,c6,c7,c8,rfl⟩:∃a b c d e f g h i,cs=[a,b,c,d,e,f,g,h,i]:=by
  match cs,hl with
  |[a,b,c,d,e,f,g,h,i],_=>exact⟨a,b,c,d,e,f,g,h,i,rfl⟩
 obtain⟨y0,y1,y2,y3,y4,rfl⟩:∃a b c d e,xs=[a,b,c,d,e]:=by
  match xs,hxl with
  |[a,b,c,d,e],_=>exact⟨a,b,c,d,e,rfl⟩
 have h0:DataW.trod enc Tryz.prog w base spare held m 3 (([c0,c1,c2,c3,c4,c5,c6,c7,c8].drop 0).take (Tryz.prog.cellsOf 3))=some y0:=hf 0 _ rfl
 rw[k1] at h0
 have h1:DataW.trod enc Tryz.prog w base spare held m 9 (([c0,c1,c2,c3,c4,c5,c6,c7,c8].drop 1).take (Tryz.prog.cellsOf 9))=some y1:=hf 1 _ rfl
 rw[k0] at h1
 have h2:DataW.trod enc Tryz.prog w base spare held m 68 (([c0,c1,c2,c3,c4,c5,c6,c7,c8].drop 2).take (Tryz.prog.cellsOf 68))=some y2:=hf 2 _ rfl
 rw[k3] at h2
 have h3:DataW.trod enc Tryz.prog w base spare held m 71 (([c0,c1,c2,c3,c4,c5,c6,c7,c8].drop 5).take (Tryz.prog.cellsOf 71))=some y3:=hf 3 _ rfl
 rw[k4] at h3
 have h4:DataW.trod enc Tryz.prog w base spare held m 29 (([c0,c1,c2,c3,c4,c5,c6,c7,c8].drop 8).take (Tryz.prog.cellsOf 29))=some y4:=hf 4 _ rfl
 rw[k5] at h4
 obtain⟨o,e0,_,w0⟩:=DataW.trod_int Tryz.underlying3 h0
 obtain⟨s,e1,e3,w1⟩:=DataW.trod_string Tryz.underlying9 h1
 obtain⟨g,e2,_,hg⟩:=elem_fld h2
 obtain⟨vl,e4,hb,hv⟩:=elem_val h3
 obtain⟨Q,q,qc,e5,hq1,hq2,hR,hq⟩:=elem_ints h4
 simp at e0 e1 e2 e4 e5
 obtain⟨rfl,rfl,rfl⟩:=e2
 obtain⟨rfl,rfl,rfl⟩:=e4
 subst e0 e1 e5
 refine⟨⟨o,s,g,vl,q⟩,Q,qc,rfl,wf_i64 w0,hb,hq1,hq2,hR,fun hz=>?_⟩
 have z1:=hz.part Tryz.underlying73 (j:=1) rfl rfl rfl
 have z2:=hz.part Tryz.underlying73 (j:=2) rfl rfl rfl
 have z3:=hz.part Tryz.underlying73 (j:=3) rfl rfl rfl
 have z4:=hz.part Tryz.underlying73 (j:=4) rfl rfl rfl
 subst e3
 exact⟨reach48 z1.str,hg z2,hv z3,hq z4⟩
theorem flat_get {α:Type} {F:α→List Value} {k:Nat} (hk:∀a,(F a).length=k) {l:List α} {i:Nat} {a:α} (h:l[i]?=some a):∀r,r<k→(l.flatMap F)[i * k+r]?=(F a)[r]?:=by
 induction l generalizing i with
 |nil=>simp at h
 |cons b t ih=>
  intro r hr
  cases i with
  |zero=>simp at h;subst h;rw[List.flatMap_cons,Nat.zero_mul,Nat.zero_add,Xk (by rw[hk];exact hr)]
  |succ i=>rw[List.flatMap_cons,Q8 (by rw[hk,Nat.succ_mul];omega),show(i+1) * k+r - (F b).length=i * k+r by rw[hk,Nat.succ_mul];omega];exact ih (by simpa using h) r hr
theorem flat_len {α:Type} {F:α→List Value} {k:Nat} (hk:∀a,(F a).length=k) (l:List α):(l.flatMap F).length=l.length * k:=by
 induction l with
 |nil=>simp
 |cons b t ih=>rw[List.flatMap_cons,Qz,hk,ih,Xx,Nat.succ_mul];omega
theorem open_row {α:Type} (a0:α) {F:α→List Value} {k:Nat} (hk:∀a,(F a).length=k) (hk1:0<k) {t e:TypeId} (hu:Tryz.prog.underlying t=some (.slice e)) (hc:Tryz.prog.cellsOf e=k) (hb:1≤Tryz.prog.bytesOf e) {G Z:α→Prop}
 (E:∀{n:Nat} {cs:List Value} {x:DataW H×List MemPlace},DataW.trod enc Tryz.prog w base spare held n e cs=some x→∃a,cs=F a∧G a∧(SzT e x.1→Z a))
 (hv:Value.okWide Tryz.prog w r b0 t v) (h:DataW.Trod enc Tryz.prog w base spare held t v d p):
 ∃(A:Option Addr) (c:Nat) (l:List α),v=.slice A l.length c∧l.length≤c∧c≤maxLen∧Rd w A (l.flatMap F)∧(∀a∈l,G a)∧(SzT t d→(∀a∈l,Z a)∧l.length≤281474976710656):=by
 obtain⟨a,len,cap,rfl⟩:=okWide_slice hu hv
 obtain⟨fuel,hf⟩:=h
 rcases open_slice hu hf with ⟨hcs,_⟩|⟨x,l,c,m,n,D,Pl,hcs,_,hl,hm,hmm,hx,hi⟩
 ·simp[Value.cells] at hcs
  obtain⟨rfl,rfl,rfl⟩:=hcs
  exact⟨none,0,[],rfl,J9 _,X8 _,Rd.nil _ _,by simp,fun _=>⟨by simp,X8 _⟩⟩
 ·simp[Value.cells] at hcs
  obtain⟨rfl,rfl,rfl⟩:=hcs
  have hlm:len≤m:=by rw[hmm];split <;> omega
  have hel:∀i,∃a:α,i<len→G a∧(SzT e (D i)→Z a)∧∀j,j<k→w.cell? ((x.add (i * k)).add j)=(F a)[j]?:=fun i=>by
   by_cases hlt:i<len
   ·obtain⟨cs',hc',ht⟩:=hi i (by omega)
    rw[hc] at hc'
    obtain⟨_,_,hat⟩:=World.cells?_some hc'
    obtain⟨a,rfl,hG,hZ⟩:=E ht
    exact⟨a,fun _=>⟨hG,hZ,fun j hj=>hat j hj⟩⟩
   ·exact⟨a0,fun h=>absurd h hlt⟩
  let B:=fun i=>Classical.choose (hel i)
  have hB:∀i,i<len→G (B i)∧(SzT e (D i)→Z (B i))∧∀j,j<k→w.cell? ((x.add (i * k)).add j)=(F (B i))[j]?:=fun i=>Classical.choose_spec (hel i)
  have hlen:((List.range len).map B).length=len:=by simp
  refine⟨some x,cap,(List.range len).map B,by rw[hlen],by rw[hlen];exact hl,hm,fun _=>⟨x,rfl,fun j u hj=>?_⟩,?_,fun hz=>⟨?_,?_⟩⟩
  ·have hjl:j<len * k:=by
    have:=(J6.1 hj).1
    rw[flat_len hk,hlen] at this;exact this
   have hq:j / k<len:=Nat.div_lt_of_lt_mul (by rw[Nat.mul_comm];exact hjl)
   have hr:j % k<k:=Nat.mod_lt _ hk1
   have hj2:j=j / k * k+j % k:=by rw[Nat.mul_comm];exact(Nat.div_add_mod j k).symm
   rw[hj2,flat_get hk (l:=(List.range len).map B) (i:=j / k) (a:=B (j / k)) (by simp[hq]) _ hr] at hj
   rw[hj2,←Addr.add_add,(hB _ hq).2.2 _ hr,hj]
  ·intro b hb
   simp at hb
   obtain⟨i,hi,rfl⟩:=hb
   exact(hB i hi).1
  ·intro b hb
   simp at hb
   obtain⟨i,hi,rfl⟩:=hb
   refine(hB i hi).2.1 ?_
   have hx1:d=.slice ((List.range len).map D) ((List.range (m - len)).map fun j=>D (len+j)):=congrArg Prod.fst hx
   rw[hx1] at hz
   exact hz.elem hu (X5.2 ⟨i,by simp[hi],rfl⟩)
  ·rw[hlen]
   have hx1:d=.slice ((List.range len).map D) ((List.range (m - len)).map fun j=>D (len+j)):=congrArg Prod.fst hx
   rw[hx1] at hz
   have:=hz.len hu hb
   simp at this
   exact reach48 this
def ChG (w:World) (x:Ch×Value):Prop:=(-9223372036854775808≤x.1.op∧x.1.op≤9223372036854775807)∧(0≤x.1.d.b∧x.1.d.b<18446744073709551616)∧ChO w x
end
end
section
open Go.RowKit Go.Lib
structure CoS (w W:World) (T:TypeId) (P Q N:List Value):Prop where
 B:Below w.heap.size w W
 P:OBox W w.heap.size P T
 Q:OBox W (w.heap.size+1) Q T
 N:OBox W (w.heap.size+2) N T
theorem CoS.below {w W W':World} {T:TypeId} {P Q N:List Value} (h:CoS w W T P Q N) (hb:Below W.heap.size W W'):CoS w W' T P Q N:=
 ⟨below_seq h.B hb,h.P.below hb,h.Q.below hb,h.N.below hb⟩
theorem CoS.new (w:World) (T:TypeId) (P Q N:List Value):CoS w (((w.alloc (.cells P.toArray T)).alloc (.cells Q.toArray T)).alloc (.cells N.toArray T)) T P Q N:=by
 refine⟨below_seq (below_new _) (below_seq (below_new _) (below_new _)),((OBox.new w P T).below (below_new _)).below (below_new _),?_,?_⟩
 ·have:=(OBox.new (w.alloc (.cells P.toArray T)) Q T).below (below_new (.cells N.toArray T))
  rw[Jq] at this;exact this
 ·have:=OBox.new ((w.alloc (.cells P.toArray T)).alloc (.cells Q.toArray T)) N T
  rw[Jq,Jq] at this;exact this
theorem CoS.two {w W0 W:World} {T:TypeId} {x0 x1 x2 y0 y1 y2:Value} {N:List Value} (h:CoS w W0 T [x0,x1,x2] [y0,y1,y2] N) (hb:Below W0.heap.size W0 W):
 W.cell? ⟨w.heap.size,0,none⟩=some x0∧W.cell? ⟨w.heap.size+1,1,none⟩=some y1∧Below W0.heap.size W0 W:=⟨(h.below hb).P.f3.1,(h.below hb).Q.f3.2.1,hb⟩
theorem RdP.up {P:Nat→Prop} {w w':World} {A:Option Addr} {cs:List Value} (h:RdP P w A cs) (hb:Below w.heap.size w w'):RdP P w' A cs:=
 (h.lt.keep (fun g hg=>hb.block g hg.2)).mono fun g hg=>hg.1
theorem RdP.set3 {P:Nat→Prop} {w:World} {A:Option Addr} {cs:List Value} (h:RdP P w A cs) (p:Nat) (hp:∀g,P g→g≠p) (i j k:Nat) (x y z:Value):RdP P (((w.setCell ⟨p,i,none⟩ x).setCell ⟨p,j,none⟩ y).setCell ⟨p,k,none⟩ z) A cs:=
 h.keep (fun g hg=>(J5 _ _ _ _ (hp g hg)).trans ((J5 _ _ _ _ (hp g hg)).trans (J5 _ _ _ _ (hp g hg))))
theorem own_PL {w:World} {base n c:Nat} {e:TypeId} {K:Nat} {A:Option Addr} {xs:List Value} (h:w.ownsRow base e K (.slice A n c) n xs):RdP (fun g=>base≤g∧g<w.heap.size) w A xs:=
 own_P h fun g hg=>⟨own_base h g hg,own_lt h g hg⟩
theorem rightT_16 {t:Tb} (h:rightT t=true):t.o.length≤16∧t.n.length≤16∧t.m.length≤16:=by
 obtain⟨h1,h2,h3,-⟩:=rightT_iff.1 h
 have a:=(rightF_may h1).2
 have b:=(rightF_may h2).2
 omega
theorem meet_no {a b:Tb} (h:meetB a b=false):composeE a b=70∧composeT a b=Tb.z:=by
 have e:composeE a b=70:=by rw[composeE,if_neg (by rw[h];rintro ⟨h,_⟩;cases h)]
 exact⟨e,by rw[composeT,if_neg (by rw[e];decide)]⟩
theorem CoS.step {w W W':World} {T:TypeId} {P Q N:List Value} (h:CoS w W T P Q N) {M:Nat} (hM:w.heap.size+2<M) (BG:Below M W W') {p:Nat} (hp:w.heap.size+2<p) (j:Nat) (v:Value):CoS w (W'.setCell ⟨p,j,none⟩ v) T P Q N:=by
 have k:∀g,g≤w.heap.size+2→(W'.setCell ⟨p,j,none⟩ v).heap[g]?=W.heap[g]?:=fun g hg=>(J5 _ _ _ _ (by show g≠p;omega)).trans (BG.block g (by omega))
 exact⟨(h.B.trans (BG.mono (by omega))).setCell (by show _≤p;omega) _,(k _ (by omega)).trans h.P,(k _ (by omega)).trans h.Q,(k _ (by omega)).trans h.N⟩
theorem comp_cells (a b:Tb) {k:Nat} {y:Mv} (h:compMv a b k=y):cellsM (compM a b (k+1))=cellsM (compM a b k)++[.int .i64 y.f,.int .i64 y.d.k,.int .u64 y.d.b,.string y.d.t]:=by
 rw[compM_succ,cellsM_append,h];rfl
theorem castL_va (v:Vl) (f g:Fd):castV v.k v.b v.t f.k f.l g.k g.l=.agg #[.int .i64 (castL v f g).k,.int .u64 (castL v f g).b,.string (castL v f g).t]:=castL_v v f g
theorem MBox.of {w:World} {b:Nat} {m:Mv} {T:TypeId} (h:OBox w b [.int .i64 m.f,.int .i64 m.d.k,.int .u64 m.d.b,.string m.d.t] T):MBox w b m:=⟨h.cell rfl,h.cell rfl,h.cell rfl,h.cell rfl⟩
theorem OBox.far {w:World} {b:Nat} {cs:List Value} {T:TypeId} (h:OBox w b cs T) {p:Addr} (hp:p.block≠b) (v:Value):OBox (w.setCell p v) b cs T:=(J5 w p v b (fun e=>hp e.symm)).trans h
theorem FBox3 {w:World} {b:Nat} {f:Fd} {T:TypeId} (h:OBox w b [.string f.s,.int .i64 f.k,.int .i64 f.l] T):w.cell? ⟨b,0,none⟩=some (.string f.s)∧w.cell? ⟨b,1,none⟩=some (.int .i64 f.k)∧w.cell? ⟨b,2,none⟩=some (.int .i64 f.l):=⟨h.cell rfl,h.cell rfl,h.cell rfl⟩
theorem MBox4 {w:World} {b:Nat} {m:Mv} {T:TypeId} (h:OBox w b [.int .i64 m.f,.int .i64 m.d.k,.int .u64 m.d.b,.string m.d.t] T):w.cell? ⟨b,0,none⟩=some (.int .i64 m.f)∧w.cell? ⟨b,1,none⟩=some (.int .i64 m.d.k)∧w.cell? ⟨b,2,none⟩=some (.int .u64 m.d.b)∧w.cell? ⟨b,3,none⟩=some (.string m.d.t)∧w.frozen? ⟨b,0,none⟩=false∧w.frozen? ⟨b,1,none⟩=false∧w.frozen? ⟨b,2,none⟩=false∧w.frozen? ⟨b,3,none⟩=false:=⟨h.cell rfl,h.cell rfl,h.cell rfl,h.cell rfl,h.frz 0,h.frz 1,h.frz 2,h.frz 3⟩
def CoR (t:Tb) (code:Int) (w:World) (e:Ending) (w':World):Prop:=
 ∃X0 z0 X1 z1 X2 z2,e=.returned (.tuple #[.agg #[.slice X0 t.o.length z0,.slice X1 t.n.length z1,.slice X2 t.m.length z2],.int .i64 code])∧Rd w' X0 (cellsF t.o)∧Rd w' X1 (cellsF t.n)∧Rd w' X2 (cellsM t.m)∧Below w.heap.size w w'
theorem rCast_is (vk bits:Int) (tx s s2:ByteArray) (k l k2 l2:Int) (h0:0≤bits) (h1:bits<18446744073709551616) (v:Value) (q:Int) (hv:castV vk bits tx k l k2 l2=v) (hq:castE vk bits tx k l k2 l2=q) (w:World):
 Calls Tryz.prog 80 #[.agg #[.int .i64 vk,.int .u64 bits,.string tx],.agg #[.string s,.int .i64 k,.int .i64 l],.agg #[.string s2,.int .i64 k2,.int .i64 l2]] w fun e w'=>e=.returned (.tuple #[v,.int .i64 q])∧Below w.heap.size w w':=by
 subst hv hq;exact rCast_calls vk bits tx s s2 k l k2 l2 h0 h1 w
theorem rCompose_no (a b:Tb) (X0 X1 X2 Z0 Z1 Z2:Option Addr) (x0 x1 x2 z0 z1 z2 ao an am bo bn bm:Nat) (hao:a.o.length=ao) (han:a.n.length=an) (ham:a.m.length=am) (hbo:b.o.length=bo) (hbn:b.n.length=bn) (hbm:b.m.length=bm) (l0:ao≤9223372036854775807) (l1:an≤9223372036854775807) (l2:am≤9223372036854775807) (l3:bo≤9223372036854775807) (l4:bn≤9223372036854775807) (l5:bm≤9223372036854775807) (wa:MvW a.m) (wb:MvW b.m) (sa:FdS a.o) (sb:FdS a.n) (sc:FdS b.o) (sd:FdS b.n) (w:World) (r0:Rd w X0 (cellsF a.o)) (r1:Rd w X1 (cellsF a.n)) (r2:Rd w X2 (cellsM a.m)) (s0:Rd w Z0 (cellsF b.o)) (s1:Rd w Z1 (cellsF b.n)) (s2:Rd w Z2 (cellsM b.m)) (hmeet:meetB a b=false):
 Calls Tryz.prog 155 #[.agg #[.slice X0 ao x0,.slice X1 an x1,.slice X2 am x2],.agg #[.slice Z0 bo z0,.slice Z1 bn z1,.slice Z2 bm z2]] w fun e w'=>CoR Tb.z 70 w e w':=by
 obtain⟨q1,hq1⟩:∃r,rightT a=r:=⟨_,rfl⟩
 obtain⟨q2,hq2⟩:∃r,rightT b=r:=⟨_,rfl⟩
 obtain⟨q3,hq3⟩:∃r,sameFB a.n b.o=r:=⟨_,rfl⟩
 rw[meetB,hq1,hq2,hq3] at hmeet
 have S:CoS w _ 110 [.slice X0 ao x0,.slice X1 an x1,.slice X2 am x2] [.slice Z0 bo z0,.slice Z1 bn z1,.slice Z2 bm z2] [.slice none 0 0,.slice none 0 0,.slice none 0 0]:=CoS.new w _ _ _ _
 obtain⟨P0,P1,P2,P3,P4,P5⟩:=S.P.f3
 obtain⟨Q0,Q1,Q2,Q3,Q4,Q5⟩:=S.Q.f3
 obtain⟨N0,N1,N2,N3,N4,N5⟩:=S.N.f3
 have HAO:=J0 hao;have HAN:=J0 han;have HAM:=J0 ham
 have HBO:=J0 hbo;have HBN:=J0 hbn;have HBM:=J0 hbm
 have HR1:=J0 hq1;have HR2:=J0 hq2;have HR3:=J0 hq3
 have WA:=J0 wa;have WB:=J0 wb;have SA:=J0 sa;have SB:=J0 sb;have SC:=J0 sc;have SD:=J0 sd
 have tok1:=True.intro
 clear hao han ham hbo hbn hbm hq1 hq2 hq3 wa wb sa sb sc sd
 cases q1
 ·clear hmeet
  go_enter Tryz.func155,Tryz.ntmps155
  go_wp2_with (first|(have _t:=tok1;go_at_call 79;refine(rTRight_m a X0 X1 X2 x0 x1 x2 ao an am HAO.out HAN.out HAM.out l0 l1 l2 WA.out SA.out SB.out _ (r0.below S.B) (r1.below S.B) (r2.below S.B)).mono ?_;rintro e W1 ⟨rfl,hb⟩;rw[HR1.out];replace S:=S.below hb;clear P0 P1 P2 P3 P4 P5 Q0 Q1 Q2 Q3 Q4 Q5 N0 N1 N2 N3 N4 N5;obtain⟨P0,P1,P2,P3,P4,P5⟩:=S.P.f3;obtain⟨Q0,Q1,Q2,Q3,Q4,Q5⟩:=S.Q.f3;obtain⟨N0,N1,N2,N3,N4,N5⟩:=S.N.f3;clear hb tok1;have tok2:=True.intro))
  refine bodyPost_ret (v:=.tuple #[.agg #[.slice none 0 0,.slice none 0 0,.slice none 0 0],.int .i64 70]) (by simp[results,Tryz.results155,go_sem, *];done) rfl ⟨none,0,none,0,none,0,rfl,fun h=>absurd rfl h,fun h=>absurd rfl h,fun h=>absurd rfl h,?_⟩
  have HB:=S.B
  (repeat (first|exact HB|refine J8 ?_ (by dsimp only;omega) _|refine Jk ?_ (by have hs_:=HB.size;first|(simp;done)|(simp;omega)|omega) _|apply Jv))
 cases q2
 ·clear hmeet
  go_enter Tryz.func155,Tryz.ntmps155
  go_wp2_with (first|(have _t:=tok1;go_at_call 79;refine(rTRight_m a X0 X1 X2 x0 x1 x2 ao an am HAO.out HAN.out HAM.out l0 l1 l2 WA.out SA.out SB.out _ (r0.below S.B) (r1.below S.B) (r2.below S.B)).mono ?_;rintro e W1 ⟨rfl,hb⟩;rw[HR1.out];replace S:=S.below hb;clear P0 P1 P2 P3 P4 P5 Q0 Q1 Q2 Q3 Q4 Q5 N0 N1 N2 N3 N4 N5;obtain⟨P0,P1,P2,P3,P4,P5⟩:=S.P.f3;obtain⟨Q0,Q1,Q2,Q3,Q4,Q5⟩:=S.Q.f3;obtain⟨N0,N1,N2,N3,N4,N5⟩:=S.N.f3;clear hb tok1;have tok2:=True.intro)|(have _t:=tok2;go_at_call 79;refine(rTRight_m b Z0 Z1 Z2 z0 z1 z2 bo bn bm HBO.out HBN.out HBM.out l3 l4 l5 WB.out SC.out SD.out _ (s0.below S.B) (s1.below S.B) (s2.below S.B)).mono ?_;rintro e W2 ⟨rfl,hb⟩;rw[HR2.out];replace S:=S.below hb;clear P0 P1 P2 P3 P4 P5 Q0 Q1 Q2 Q3 Q4 Q5 N0 N1 N2 N3 N4 N5;obtain⟨P0,P1,P2,P3,P4,P5⟩:=S.P.f3;obtain⟨Q0,Q1,Q2,Q3,Q4,Q5⟩:=S.Q.f3;obtain⟨N0,N1,N2,N3,N4,N5⟩:=S.N.f3;clear hb tok2))
  refine bodyPost_ret (v:=.tuple #[.agg #[.slice none 0 0,.slice none 0 0,.slice none 0 0],.int .i64 70]) (by simp[results,Tryz.results155,go_sem, *];done) rfl ⟨none,0,none,0,none,0,rfl,fun h=>absurd rfl h,fun h=>absurd rfl h,fun h=>absurd rfl h,?_⟩
  have HB:=S.B
  (repeat (first|exact HB|refine J8 ?_ (by dsimp only;omega) _|refine Jk ?_ (by have hs_:=HB.size;first|(simp;done)|(simp;omega)|omega) _|apply Jv))
 obtain rfl:q3=false:=by simpa using hmeet
 clear hmeet
 go_enter Tryz.func155,Tryz.ntmps155
 go_wp2_with (first|(have _t:=tok1;go_at_call 79;refine(rTRight_m a X0 X1 X2 x0 x1 x2 ao an am HAO.out HAN.out HAM.out l0 l1 l2 WA.out SA.out SB.out _ (r0.below S.B) (r1.below S.B) (r2.below S.B)).mono ?_;rintro e W1 ⟨rfl,hb⟩;rw[HR1.out];replace S:=S.below hb;clear P0 P1 P2 P3 P4 P5 Q0 Q1 Q2 Q3 Q4 Q5 N0 N1 N2 N3 N4 N5;obtain⟨P0,P1,P2,P3,P4,P5⟩:=S.P.f3;obtain⟨Q0,Q1,Q2,Q3,Q4,Q5⟩:=S.Q.f3;obtain⟨N0,N1,N2,N3,N4,N5⟩:=S.N.f3;clear hb tok1;have tok2:=True.intro)|(have _t:=tok2;go_at_call 79;refine(rTRight_m b Z0 Z1 Z2 z0 z1 z2 bo bn bm HBO.out HBN.out HBM.out l3 l4 l5 WB.out SC.out SD.out _ (s0.below S.B) (s1.below S.B) (s2.below S.B)).mono ?_;rintro e W2 ⟨rfl,hb⟩;rw[HR2.out];replace S:=S.below hb;clear P0 P1 P2 P3 P4 P5 Q0 Q1 Q2 Q3 Q4 Q5 N0 N1 N2 N3 N4 N5;obtain⟨P0,P1,P2,P3,P4,P5⟩:=S.P.f3;obtain⟨Q0,Q1,Q2,Q3,Q4,Q5⟩:=S.Q.f3;obtain⟨N0,N1,N2,N3,N4,N5⟩:=S.N.f3;clear hb tok2)|(go_at_call 22;refine(Same6_m X1 Z0 x1 z0 an bo a.n b.o HAN.out HBO.out _ HR3.out _ (r1.below S.B) (s0.below S.B) l1 l3).mono ?_;rintro e W3 ⟨rfl,hb⟩;replace S:=S.below hb;clear P0 P1 P2 P3 P4 P5 Q0 Q1 Q2 Q3 Q4 Q5 N0 N1 N2 N3 N4 N5;obtain⟨P0,P1,P2,P3,P4,P5⟩:=S.P.f3;obtain⟨Q0,Q1,Q2,Q3,Q4,Q5⟩:=S.Q.f3;obtain⟨N0,N1,N2,N3,N4,N5⟩:=S.N.f3;clear hb))
 refine bodyPost_ret (v:=.tuple #[.agg #[.slice none 0 0,.slice none 0 0,.slice none 0 0],.int .i64 70]) (by simp[results,Tryz.results155,go_sem, *];done) rfl ⟨none,0,none,0,none,0,rfl,fun h=>absurd rfl h,fun h=>absurd rfl h,fun h=>absurd rfl h,?_⟩
 have HB:=S.B
 (repeat (first|exact HB|refine J8 ?_ (by dsimp only;omega) _|refine Jk ?_ (by have hs_:=HB.size;first|(simp;done)|(simp;omega)|omega) _|apply Jv))
end
end Go.Proofs.YteembinfgbapgaaGreat
