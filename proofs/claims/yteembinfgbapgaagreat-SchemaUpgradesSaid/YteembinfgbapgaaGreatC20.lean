/- Merged out of: Nn. -/
import Derived.Test.YteembinfgbapgaaGreatC00
import Derived.Test.YteembinfgbapgaaGreatC19
set_option linter.unusedSimpArgs false
set_option linter.unusedVariables false
set_option maxRecDepth 100000
set_option maxHeartbeats 8000000
namespace Go.Proofs.YteembinfgbapgaaGreat
section
open Go.RowKit Go.Lib Go.Maps
def MkP (t:Tb) (code:Int) (w:World) (e:Ending) (w':World):Prop:=
 ∃X0 y0 z0 X1 y1 z1 X2 y2 z2,e=.returned (.tuple #[.agg #[.slice X0 y0 z0,.slice X1 y1 z1,.slice X2 y2 z2],.int .i64 code])∧TVP (fun g=>w.heap.size≤g) w' (.agg #[.slice X0 y0 z0,.slice X1 y1 z1,.slice X2 y2 z2]) t∧Below w.heap.size w w'
theorem TVP.z (P:Nat→Prop) (w:World):TVP P w (.agg #[.slice none 0 0,.slice none 0 0,.slice none 0 0]) Tb.z:=⟨none,0,none,0,none,0,rfl,J9 _,fun h=>absurd rfl h,fun h=>absurd rfl h,fun h=>absurd rfl h⟩
theorem RdP.lt {P:Nat→Prop} {w:World} {A:Option Addr} {cs:List Value} (h:RdP P w A cs):RdP (fun g=>P g∧g<w.heap.size) w A cs:=fun hn=>by
 obtain⟨ad,e,hp,hc⟩:=h hn
 refine⟨ad,e,⟨hp,?_⟩,hc⟩
 cases cs with
 |nil=>exact absurd rfl hn
 |cons u r=>
  have h0:=World.block_lt_of_cell? w _ (hc 0 u rfl)
  have:(ad.add 0).block=ad.block:=by unfold Addr.add;split <;> rfl
  rw[this] at h0;exact h0
theorem TVP.lt {P:Nat→Prop} {w:World} {v:Value} {t:Tb} (h:TVP P w v t):TVP (fun g=>P g∧g<w.heap.size) w v t:=by
 obtain⟨A,c,B,d,C,e,hv,hd,h0,h1,h2⟩:=h
 exact⟨A,c,B,d,C,e,hv,hd,h0.lt,h1.lt,h2.lt⟩
theorem meet_make {w W0 W1 W2 W3 W4:World} {a p:Nat} {r2 r3:Option Nat} {x y z v:Value} {t:Tb} {C:Prop} {T T':TypeId} (HB0:Below w.heap.size w W0) (ha:W0.heap.size≤a) (ha1:a≤W1.heap.size) (haw:w.heap.size+1<W0.heap.size) (h01:Below W0.heap.size W0 W1) (hX:Below W1.heap.size W1 W2) (hO:Only r2 r3 W2 W3)
 (hr2:∀g,r2=some g→W0.heap.size≤g) (hr3:∀g,r3=some g→W0.heap.size≤g) (hT:C→TVP (fun g=>(a≤g∧g<W1.heap.size)∨W2.heap.size≤g) W3 v t) (h34:Below W3.heap.size W3 W4) (PB:OBox W4 p [.slice none 0 0,.slice none 0 0,.slice none 0 0] T)
 (hp:p<a∨(W1.heap.size≤p∧p<W2.heap.size)∨W3.heap.size≤p) (hpw:W0.heap.size≤p) (N0:OBox W0 (w.heap.size+1) [.slice none 0 0,.slice none 0 0,.slice none 0 0] T'):
 OBox (((W4.setCell ⟨p,0,none⟩ x).setCell ⟨p,1,none⟩ y).setCell ⟨p,2,none⟩ z) p [x,y,z] T∧(C→TVP (fun g=>w.heap.size+2≤g) (((W4.setCell ⟨p,0,none⟩ x).setCell ⟨p,1,none⟩ y).setCell ⟨p,2,none⟩ z) v t)∧
 OBox (((W4.setCell ⟨p,0,none⟩ x).setCell ⟨p,1,none⟩ y).setCell ⟨p,2,none⟩ z) (w.heap.size+1) [.slice none 0 0,.slice none 0 0,.slice none 0 0] T'∧Below w.heap.size w (((W4.setCell ⟨p,0,none⟩ x).setCell ⟨p,1,none⟩ y).setCell ⟨p,2,none⟩ z):=by
 have h1:=h01.size
 have h2:=hX.size
 have h3:=hO.size
 have h4:=h34.size
 have ks:∀g,g≠p→(((W4.setCell ⟨p,0,none⟩ x).setCell ⟨p,1,none⟩ y).setCell ⟨p,2,none⟩ z).heap[g]?=W4.heap[g]?:=fun g hg=>(J5 _ _ _ _ hg).trans ((J5 _ _ _ _ hg).trans (J5 _ _ _ _ hg))
 have B2:Below W0.heap.size W0 W3:=(h01.trans (hX.mono h1)).trans (hO.low (by omega) hr2 hr3)
 have B4:Below W0.heap.size W0 W4:=B2.trans (h34.mono B2.size)
 refine⟨?_,fun hc=>?_,?_,?_⟩
 ·have:=obox_set (obox_set (obox_set PB 0 x) 1 y) 2 z
  simpa using this
 ·refine TVP.mono (P:=fun g=>((a≤g∧g<W1.heap.size)∨W2.heap.size≤g)∧g<W3.heap.size) ?_ (fun g hg=>?_)
  ·refine TVP.keep (w:=W3) (hT hc).lt (fun g hg=>(ks g ?_).trans (h34.block g hg.2))
   intro e
   obtain⟨hg1,hg2⟩:=hg
   rcases hg1 with ⟨h5,h6⟩|h5 <;> omega
  ·show w.heap.size+2≤g
   obtain⟨hg1,hg2⟩:=hg
   rcases hg1 with ⟨h5,h6⟩|h5 <;> omega
 ·exact(ks _ (by omega)).trans ((B4.block _ (by omega)).trans N0)
 ·exact(((HB0.trans (B4.mono (by omega))).setCell (by show w.heap.size≤p;omega) _).setCell (by show w.heap.size≤p;omega) _).setCell (by show w.heap.size≤p;omega) _
theorem meet_last {w W0 W1 W2 W3:World} {a:Nat} {r2 r3:Option Nat} {x y z v:Value} {t:Tb} {C:Prop} {T T':TypeId} (HB0:Below w.heap.size w W0) (ha:W0.heap.size≤a) (ha1:a≤W1.heap.size) (haw:w.heap.size+1<W0.heap.size) (h01:Below W0.heap.size W0 W1) (hX:Below W1.heap.size W1 W2) (hO:Only r2 r3 W2 W3)
 (hr2:∀g,r2=some g→W0.heap.size≤g) (hr3:∀g,r3=some g→W0.heap.size≤g) (hT:C→TVP (fun g=>(a≤g∧g<W1.heap.size)∨W2.heap.size≤g) W3 v t) (N0:OBox W0 (w.heap.size+1) [.slice none 0 0,.slice none 0 0,.slice none 0 0] T'):
 OBox (W3.alloc (.cells #[x,y,z] T)) W3.heap.size [x,y,z] T∧(C→TVP (fun g=>w.heap.size+2≤g) (W3.alloc (.cells #[x,y,z] T)) v t)∧OBox (W3.alloc (.cells #[x,y,z] T)) (w.heap.size+1) [.slice none 0 0,.slice none 0 0,.slice none 0 0] T'∧Below w.heap.size w (W3.alloc (.cells #[x,y,z] T)):=by
 have h1:=h01.size
 have h2:=hX.size
 have h3:=hO.size
 have B2:Below W0.heap.size W0 W3:=(h01.trans (hX.mono h1)).trans (hO.low (by omega) hr2 hr3)
 have nb:=below_new (w:=W3) (.cells #[x,y,z] T)
 refine⟨OBox.new W3 [x,y,z] T,fun hc=>?_,?_,?_⟩
 ·refine TVP.mono (P:=fun g=>((a≤g∧g<W1.heap.size)∨W2.heap.size≤g)∧g<W3.heap.size) ?_ (fun g hg=>?_)
  ·exact TVP.keep (w:=W3) (hT hc).lt (fun g hg=>nb.block g hg.2)
  ·show w.heap.size+2≤g
   obtain⟨hg1,hg2⟩:=hg
   rcases hg1 with ⟨h5,h6⟩|h5 <;> omega
 ·exact(nb.block _ (by omega)).trans ((B2.block _ (by omega)).trans N0)
 ·exact(HB0.trans (B2.mono (by omega))).trans (nb.mono (by omega))
theorem adds_no_at {W1 W2:World} (hX:Below W1.heap.size W1 W2) (l:List Fd) (c:Ch) (m:Nat) (hm:l.length=m) (h16:m≤16) (B:Option Addr) (d b1 b2 a:Nat) (v2 v3:Value) (Q:Option Addr) (n qc:Nat) (hn:c.q.length=n) (hn1:n≤17592186044415) (hqc:n≤qc) (RQ:Rd W1 Q (cellsI c.q)) (ha1:a≤b1) (h12:b1≤b2) (h2:b2≤W1.heap.size) (R1:RdB b1 W1 B (cellsF l)) (hBa:∀ad,B=some ad→a≤ad.block) (own2:W1.ownsRow b1 68 3 v2 m (cellsF l)) (lt2:OwnLt b2 v2) (own3:W1.ownsRow b2 137 4 v3 m (cellsM (kM m))) (x0:0≤c.d.b) (x1:c.d.b<18446744073709551616) (hBu:∀ad,B=some ad→ad.block<W1.heap.size) (hr:rightB c.d.k c.d.b c.d.t c.g.k c.g.l=false):
 Calls Tryz.prog 135 #[.agg #[.slice B m d,v2,v3],.agg #[.int .i64 c.op,.string c.s,.string c.g.s,.int .i64 c.g.k,.int .i64 c.g.l,.int .i64 c.d.k,.int .u64 c.d.b,.string c.d.t,.slice Q n qc]] W2 fun e w'=>StepP v2.ownBlock v3.ownBlock (fun g=>(a≤g∧g<W1.heap.size)∨W2.heap.size≤g) Tb.z 80 W2 e w':=by
 have hP1:∀ad,B=some ad→(a≤ad.block∧ad.block<W1.heap.size)∨W2.heap.size≤ad.block:=fun ad e=>by
  refine .inl ⟨hBa ad e,hBu ad e⟩
 have hz:=hX.size
 exact adds_no l c m hm h16 B d b1 b2 v2 v3 (.slice Q n qc) W2 h12 (by omega) (R1.below (hX.mono (by omega))) (own_below own2 hX) lt2 (own_below own3 hX) _ (hP1) (fun g hg=>.inl ⟨Q7 ha1 (own_base own2 g hg),own_lt own2 g hg⟩) (fun g hg=>.inl ⟨by have:=own_base own3 g hg;omega,own_lt own3 g hg⟩) (fun g hg=>.inr hg) x0 x1 hr
theorem adds_yes_at {W1 W2:World} (hX:Below W1.heap.size W1 W2) (l:List Fd) (c:Ch) (m:Nat) (hm:l.length=m) (h16:m≤16) (B:Option Addr) (d b1 b2 a:Nat) (v2 v3:Value) (Q:Option Addr) (n qc:Nat) (hn:c.q.length=n) (hn1:n≤17592186044415) (hqc:n≤qc) (RQ:Rd W1 Q (cellsI c.q)) (ha1:a≤b1) (h12:b1≤b2) (h2:b2≤W1.heap.size) (R1:RdB b1 W1 B (cellsF l)) (hBa:∀ad,B=some ad→a≤ad.block) (own2:W1.ownsRow b1 68 3 v2 m (cellsF l)) (lt2:OwnLt b2 v2) (own3:W1.ownsRow b2 137 4 v3 m (cellsM (kM m))) (x0:0≤c.d.b) (x1:c.d.b<18446744073709551616) (hBu:∀ad,B=some ad→ad.block<W1.heap.size) (hr:rightB c.d.k c.d.b c.d.t c.g.k c.g.l=true):
 Calls Tryz.prog 135 #[.agg #[.slice B m d,v2,v3],.agg #[.int .i64 c.op,.string c.s,.string c.g.s,.int .i64 c.g.k,.int .i64 c.g.l,.int .i64 c.d.k,.int .u64 c.d.b,.string c.d.t,.slice Q n qc]] W2 fun e w'=>StepP v2.ownBlock v3.ownBlock (fun g=>(a≤g∧g<W1.heap.size)∨W2.heap.size≤g) ⟨l,l++[c.g],kM m++[⟨-1,c.d⟩]⟩ 0 W2 e w':=by
 have hP1:∀ad,B=some ad→(a≤ad.block∧ad.block<W1.heap.size)∨W2.heap.size≤ad.block:=fun ad e=>by
  refine .inl ⟨hBa ad e,hBu ad e⟩
 have hz:=hX.size
 exact adds_yes l c m hm h16 B d b1 b2 v2 v3 (.slice Q n qc) W2 h12 (by omega) (R1.below (hX.mono (by omega))) (own_below own2 hX) lt2 (own_below own3 hX) _ (hP1) (fun g hg=>.inl ⟨Q7 ha1 (own_base own2 g hg),own_lt own2 g hg⟩) (fun g hg=>.inl ⟨by have:=own_base own3 g hg;omega,own_lt own3 g hg⟩) (fun g hg=>.inr hg) x0 x1 hr
theorem named_no_at {W1 W2:World} (hX:Below W1.heap.size W1 W2) (l:List Fd) (c:Ch) (m:Nat) (hm:l.length=m) (h16:m≤16) (B:Option Addr) (d b1 b2 a:Nat) (v2 v3:Value) (Q:Option Addr) (n qc:Nat) (hn:c.q.length=n) (hn1:n≤17592186044415) (hqc:n≤qc) (RQ:Rd W1 Q (cellsI c.q)) (ha1:a≤b1) (h12:b1≤b2) (h2:b2≤W1.heap.size) (R1:RdB b1 W1 B (cellsF l)) (hBa:∀ad,B=some ad→a≤ad.block) (own2:W1.ownsRow b1 68 3 v2 m (cellsF l)) (lt2:OwnLt b2 v2) (own3:W1.ownsRow b2 137 4 v3 m (cellsM (kM m))) (x0:0≤c.d.b) (x1:c.d.b<18446744073709551616) (hBu:∀ad,B=some ad→ad.block<W1.heap.size) (bp:Nat) (F:Value) (hfn:W1.cell? ⟨bp,0,none⟩=some F) (hz:findZ l c.s<0):
 Calls Tryz.prog 161 #[.agg #[.slice B m d,v2,v3],.agg #[.int .i64 c.op,.string c.s,.string c.g.s,.int .i64 c.g.k,.int .i64 c.g.l,.int .i64 c.d.k,.int .u64 c.d.b,.string c.d.t,.slice Q n qc],.pointer (some ⟨bp,0,none⟩)] W2 fun e w'=>StepP v2.ownBlock v3.ownBlock (fun g=>(a≤g∧g<W1.heap.size)∨W2.heap.size≤g) Tb.z 61 W2 e w':=by
 have hP1:∀ad,B=some ad→(a≤ad.block∧ad.block<W1.heap.size)∨W2.heap.size≤ad.block:=fun ad e=>by
  refine .inl ⟨hBa ad e,hBu ad e⟩
 have hzz:=hX.size
 exact named_no l c m hm h16 B d b1 b2 v2 v3 (.slice Q n qc) W2 h12 (by omega) (R1.below (hX.mono (by omega))) (own_below own2 hX) lt2 (own_below own3 hX) _ (hP1) (fun g hg=>.inl ⟨Q7 ha1 (own_base own2 g hg),own_lt own2 g hg⟩) (fun g hg=>.inl ⟨by have:=own_base own3 g hg;omega,own_lt own3 g hg⟩) (fun g hg=>.inr hg) bp F (cell_below (B:=0) hX hfn) hz
theorem named_drops_at {W1 W2:World} (hX:Below W1.heap.size W1 W2) (l:List Fd) (c:Ch) (m:Nat) (hm:l.length=m) (h16:m≤16) (B:Option Addr) (d b1 b2 a:Nat) (v2 v3:Value) (Q:Option Addr) (n qc:Nat) (hn:c.q.length=n) (hn1:n≤17592186044415) (hqc:n≤qc) (RQ:Rd W1 Q (cellsI c.q)) (ha1:a≤b1) (h12:b1≤b2) (h2:b2≤W1.heap.size) (R1:RdB b1 W1 B (cellsF l)) (hBa:∀ad,B=some ad→a≤ad.block) (own2:W1.ownsRow b1 68 3 v2 m (cellsF l)) (lt2:OwnLt b2 v2) (own3:W1.ownsRow b2 137 4 v3 m (cellsM (kM m))) (x0:0≤c.d.b) (x1:c.d.b<18446744073709551616) (hBu:∀ad,B=some ad→ad.block<W1.heap.size) (bp:Nat) (hfn:W1.cell? ⟨bp,0,none⟩=some (.func (.func 137) #[] #[])) (k:Nat) (hz:findZ l c.s=k)  :
 Calls Tryz.prog 161 #[.agg #[.slice B m d,v2,v3],.agg #[.int .i64 c.op,.string c.s,.string c.g.s,.int .i64 c.g.k,.int .i64 c.g.l,.int .i64 c.d.k,.int .u64 c.d.b,.string c.d.t,.slice Q n qc],.pointer (some ⟨bp,0,none⟩)] W2 fun e w'=>StepP v2.ownBlock v3.ownBlock (fun g=>(a≤g∧g<W1.heap.size)∨W2.heap.size≤g) ⟨l,l.eraseIdx k,(kM m).eraseIdx k⟩ 0 W2 e w':=by
 have hP1:∀ad,B=some ad→(a≤ad.block∧ad.block<W1.heap.size)∨W2.heap.size≤ad.block:=fun ad e=>by
  refine .inl ⟨hBa ad e,hBu ad e⟩
 have hzz:=hX.size
 exact named_drops l c m hm h16 B d b1 b2 v2 v3 (.slice Q n qc) W2 h12 (by omega) (R1.below (hX.mono (by omega))) (own_below own2 hX) lt2 (own_below own3 hX) _ (hP1) (fun g hg=>.inl ⟨Q7 ha1 (own_base own2 g hg),own_lt own2 g hg⟩) (fun g hg=>.inl ⟨by have:=own_base own3 g hg;omega,own_lt own3 g hg⟩) (fun g hg=>.inr hg) bp (cell_below (B:=0) hX hfn) k hz
theorem named_renames_at {W1 W2:World} (hX:Below W1.heap.size W1 W2) (l:List Fd) (c:Ch) (m:Nat) (hm:l.length=m) (h16:m≤16) (B:Option Addr) (d b1 b2 a:Nat) (v2 v3:Value) (Q:Option Addr) (n qc:Nat) (hn:c.q.length=n) (hn1:n≤17592186044415) (hqc:n≤qc) (RQ:Rd W1 Q (cellsI c.q)) (ha1:a≤b1) (h12:b1≤b2) (h2:b2≤W1.heap.size) (R1:RdB b1 W1 B (cellsF l)) (hBa:∀ad,B=some ad→a≤ad.block) (own2:W1.ownsRow b1 68 3 v2 m (cellsF l)) (lt2:OwnLt b2 v2) (own3:W1.ownsRow b2 137 4 v3 m (cellsM (kM m))) (x0:0≤c.d.b) (x1:c.d.b<18446744073709551616) (hBu:∀ad,B=some ad→ad.block<W1.heap.size) (bp:Nat) (hfn:W1.cell? ⟨bp,0,none⟩=some (.func (.func 138) #[] #[])) (k:Nat) (hz:findZ l c.s=k) (f:Fd) (hf:l[k]?=some f):
 Calls Tryz.prog 161 #[.agg #[.slice B m d,v2,v3],.agg #[.int .i64 c.op,.string c.s,.string c.g.s,.int .i64 c.g.k,.int .i64 c.g.l,.int .i64 c.d.k,.int .u64 c.d.b,.string c.d.t,.slice Q n qc],.pointer (some ⟨bp,0,none⟩)] W2 fun e w'=>StepP v2.ownBlock v3.ownBlock (fun g=>(a≤g∧g<W1.heap.size)∨W2.heap.size≤g) ⟨l,l.set k ⟨c.g.s,f.k,f.l⟩,kM m⟩ 0 W2 e w':=by
 have hP1:∀ad,B=some ad→(a≤ad.block∧ad.block<W1.heap.size)∨W2.heap.size≤ad.block:=fun ad e=>by
  refine .inl ⟨hBa ad e,hBu ad e⟩
 have hzz:=hX.size
 exact named_renames l c m hm h16 B d b1 b2 v2 v3 (.slice Q n qc) W2 h12 (by omega) (R1.below (hX.mono (by omega))) (own_below own2 hX) lt2 (own_below own3 hX) _ (hP1) (fun g hg=>.inl ⟨Q7 ha1 (own_base own2 g hg),own_lt own2 g hg⟩) (fun g hg=>.inl ⟨by have:=own_base own3 g hg;omega,own_lt own3 g hg⟩) (fun g hg=>.inr hg) bp (cell_below (B:=0) hX hfn) k hz f hf
theorem named_recasts_yes_at {W1 W2:World} (hX:Below W1.heap.size W1 W2) (l:List Fd) (c:Ch) (m:Nat) (hm:l.length=m) (h16:m≤16) (B:Option Addr) (d b1 b2 a:Nat) (v2 v3:Value) (Q:Option Addr) (n qc:Nat) (hn:c.q.length=n) (hn1:n≤17592186044415) (hqc:n≤qc) (RQ:Rd W1 Q (cellsI c.q)) (ha1:a≤b1) (h12:b1≤b2) (h2:b2≤W1.heap.size) (R1:RdB b1 W1 B (cellsF l)) (hBa:∀ad,B=some ad→a≤ad.block) (own2:W1.ownsRow b1 68 3 v2 m (cellsF l)) (lt2:OwnLt b2 v2) (own3:W1.ownsRow b2 137 4 v3 m (cellsM (kM m))) (x0:0≤c.d.b) (x1:c.d.b<18446744073709551616) (hBu:∀ad,B=some ad→ad.block<W1.heap.size) (bp:Nat) (hfn:W1.cell? ⟨bp,0,none⟩=some (.func (.func 139) #[] #[])) (k:Nat) (hz:findZ l c.s=k) (f:Fd) (hf:l[k]?=some f) (hr:castsB f.k f.l c.g.k c.g.l=true):
 Calls Tryz.prog 161 #[.agg #[.slice B m d,v2,v3],.agg #[.int .i64 c.op,.string c.s,.string c.g.s,.int .i64 c.g.k,.int .i64 c.g.l,.int .i64 c.d.k,.int .u64 c.d.b,.string c.d.t,.slice Q n qc],.pointer (some ⟨bp,0,none⟩)] W2 fun e w'=>StepP v2.ownBlock v3.ownBlock (fun g=>(a≤g∧g<W1.heap.size)∨W2.heap.size≤g) ⟨l,l.set k ⟨f.s,c.g.k,c.g.l⟩,kM m⟩ 0 W2 e w':=by
 have hP1:∀ad,B=some ad→(a≤ad.block∧ad.block<W1.heap.size)∨W2.heap.size≤ad.block:=fun ad e=>by
  refine .inl ⟨hBa ad e,hBu ad e⟩
 have hzz:=hX.size
 exact named_recasts_yes l c m hm h16 B d b1 b2 v2 v3 (.slice Q n qc) W2 h12 (by omega) (R1.below (hX.mono (by omega))) (own_below own2 hX) lt2 (own_below own3 hX) _ (hP1) (fun g hg=>.inl ⟨Q7 ha1 (own_base own2 g hg),own_lt own2 g hg⟩) (fun g hg=>.inl ⟨by have:=own_base own3 g hg;omega,own_lt own3 g hg⟩) (fun g hg=>.inr hg) bp (cell_below (B:=0) hX hfn) k hz f hf hr
theorem named_recasts_no_at {W1 W2:World} (hX:Below W1.heap.size W1 W2) (l:List Fd) (c:Ch) (m:Nat) (hm:l.length=m) (h16:m≤16) (B:Option Addr) (d b1 b2 a:Nat) (v2 v3:Value) (Q:Option Addr) (n qc:Nat) (hn:c.q.length=n) (hn1:n≤17592186044415) (hqc:n≤qc) (RQ:Rd W1 Q (cellsI c.q)) (ha1:a≤b1) (h12:b1≤b2) (h2:b2≤W1.heap.size) (R1:RdB b1 W1 B (cellsF l)) (hBa:∀ad,B=some ad→a≤ad.block) (own2:W1.ownsRow b1 68 3 v2 m (cellsF l)) (lt2:OwnLt b2 v2) (own3:W1.ownsRow b2 137 4 v3 m (cellsM (kM m))) (x0:0≤c.d.b) (x1:c.d.b<18446744073709551616) (hBu:∀ad,B=some ad→ad.block<W1.heap.size) (bp:Nat) (hfn:W1.cell? ⟨bp,0,none⟩=some (.func (.func 139) #[] #[])) (k:Nat) (hz:findZ l c.s=k) (f:Fd) (hf:l[k]?=some f) (hr:castsB f.k f.l c.g.k c.g.l=false):
 Calls Tryz.prog 161 #[.agg #[.slice B m d,v2,v3],.agg #[.int .i64 c.op,.string c.s,.string c.g.s,.int .i64 c.g.k,.int .i64 c.g.l,.int .i64 c.d.k,.int .u64 c.d.b,.string c.d.t,.slice Q n qc],.pointer (some ⟨bp,0,none⟩)] W2 fun e w'=>StepP v2.ownBlock v3.ownBlock (fun g=>(a≤g∧g<W1.heap.size)∨W2.heap.size≤g) Tb.z 80 W2 e w':=by
 have hP1:∀ad,B=some ad→(a≤ad.block∧ad.block<W1.heap.size)∨W2.heap.size≤ad.block:=fun ad e=>by
  refine .inl ⟨hBa ad e,hBu ad e⟩
 have hzz:=hX.size
 exact named_recasts_no l c m hm h16 B d b1 b2 v2 v3 (.slice Q n qc) W2 h12 (by omega) (R1.below (hX.mono (by omega))) (own_below own2 hX) lt2 (own_below own3 hX) _ (hP1) (fun g hg=>.inl ⟨Q7 ha1 (own_base own2 g hg),own_lt own2 g hg⟩) (fun g hg=>.inl ⟨by have:=own_base own3 g hg;omega,own_lt own3 g hg⟩) (fun g hg=>.inr hg) bp (cell_below (B:=0) hX hfn) k hz f hf hr
theorem orders_no_at {W1 W2:World} (hX:Below W1.heap.size W1 W2) (l:List Fd) (c:Ch) (m:Nat) (hm:l.length=m) (h16:m≤16) (B:Option Addr) (d b1 b2 a:Nat) (v2 v3:Value) (Q:Option Addr) (n qc:Nat) (hn:c.q.length=n) (hn1:n≤17592186044415) (hqc:n≤qc) (RQ:Rd W1 Q (cellsI c.q)) (ha1:a≤b1) (h12:b1≤b2) (h2:b2≤W1.heap.size) (R1:RdB b1 W1 B (cellsF l)) (hBa:∀ad,B=some ad→a≤ad.block) (own2:W1.ownsRow b1 68 3 v2 m (cellsF l)) (lt2:OwnLt b2 v2) (own3:W1.ownsRow b2 137 4 v3 m (cellsM (kM m))) (x0:0≤c.d.b) (x1:c.d.b<18446744073709551616) (hBu:∀ad,B=some ad→ad.block<W1.heap.size) (X2:Option Addr) (y2 z2:Nat) (e2:v2=.slice X2 y2 z2) (X3:Option Addr) (y3 z3:Nat) (e3:v3=.slice X3 y3 z3) (hq:permB c.q m=false):
 Calls Tryz.prog 140 #[.agg #[.slice B m d,v2,v3],.agg #[.int .i64 c.op,.string c.s,.string c.g.s,.int .i64 c.g.k,.int .i64 c.g.l,.int .i64 c.d.k,.int .u64 c.d.b,.string c.d.t,.slice Q n qc]] W2 fun e w'=>StepP v2.ownBlock v3.ownBlock (fun g=>(a≤g∧g<W1.heap.size)∨W2.heap.size≤g) Tb.z 80 W2 e w':=by
 have hP1:∀ad,B=some ad→(a≤ad.block∧ad.block<W1.heap.size)∨W2.heap.size≤ad.block:=fun ad e=>by
  refine .inl ⟨hBa ad e,hBu ad e⟩
 have hz:=hX.size
 subst e2 e3
 exact orders_no l c m hm h16 B d X2 y2 z2 X3 y3 z3 Q n qc hn hn1 hqc W2 (R1.rd.below hX) (RQ.below hX) _ _ _ hP1 (fun g hg=>.inr hg) hq
theorem orders_yes_at {W1 W2:World} (hX:Below W1.heap.size W1 W2) (l:List Fd) (c:Ch) (m:Nat) (hm:l.length=m) (h16:m≤16) (B:Option Addr) (d b1 b2 a:Nat) (v2 v3:Value) (Q:Option Addr) (n qc:Nat) (hn:c.q.length=n) (hn1:n≤17592186044415) (hqc:n≤qc) (RQ:Rd W1 Q (cellsI c.q)) (ha1:a≤b1) (h12:b1≤b2) (h2:b2≤W1.heap.size) (R1:RdB b1 W1 B (cellsF l)) (hBa:∀ad,B=some ad→a≤ad.block) (own2:W1.ownsRow b1 68 3 v2 m (cellsF l)) (lt2:OwnLt b2 v2) (own3:W1.ownsRow b2 137 4 v3 m (cellsM (kM m))) (x0:0≤c.d.b) (x1:c.d.b<18446744073709551616) (hBu:∀ad,B=some ad→ad.block<W1.heap.size) (X2:Option Addr) (y2 z2:Nat) (e2:v2=.slice X2 y2 z2) (X3:Option Addr) (y3 z3:Nat) (e3:v3=.slice X3 y3 z3) (hq:permB c.q m=true):
 Calls Tryz.prog 140 #[.agg #[.slice B m d,v2,v3],.agg #[.int .i64 c.op,.string c.s,.string c.g.s,.int .i64 c.g.k,.int .i64 c.g.l,.int .i64 c.d.k,.int .u64 c.d.b,.string c.d.t,.slice Q n qc]] W2 fun e w'=>StepP v2.ownBlock v3.ownBlock (fun g=>(a≤g∧g<W1.heap.size)∨W2.heap.size≤g) ⟨l,c.q.map fun x=>(l[x.toNat]?).getD Fd.z,c.q.map fun x=>⟨x,Vl.z⟩⟩ 0 W2 e w':=by
 have hP1:∀ad,B=some ad→(a≤ad.block∧ad.block<W1.heap.size)∨W2.heap.size≤ad.block:=fun ad e=>by
  refine .inl ⟨hBa ad e,hBu ad e⟩
 have hz:=hX.size
 subst e2 e3
 exact orders_yes l c m hm h16 B d X2 y2 z2 X3 y3 z3 Q n qc hn hn1 hqc W2 (R1.rd.below hX) (RQ.below hX) _ _ _ hP1 (fun g hg=>.inr hg) hq
theorem Below.undrew {B:Nat} {w w':World} (h:Below B w.drew w'):Below B w w':=⟨h.os,h.tape,h.output,h.size,h.block⟩
theorem Below.undrewS {w w':World} (h:Below w.drew.heap.size w.drew w'):Below w.heap.size w w':=Below.undrew h
theorem Below.undrewA {w w':World} {o:Obj} (h:Below (w.drew.alloc o).heap.size (w.drew.alloc o) w'):Below w.heap.size w w':=Below.undrew ((below_new (w:=w.drew) o).trans (h.mono (by simp)))
theorem Below.undrewB {w w':World} {o:Obj} (h:Below (w.alloc o).drew.heap.size (w.alloc o).drew w'):Below w.heap.size w w':=(below_new (w:=w) o).trans ((Below.undrew h).mono (by show w.heap.size≤(w.alloc o).heap.size;simp))
theorem OBox.newA {w w':World} {cs:List Value} {T:TypeId} (h:Below (w.drew.alloc (.cells cs.toArray T)).heap.size (w.drew.alloc (.cells cs.toArray T)) w'):OBox w' w.heap.size cs T:=OBox.below (OBox.new w.drew cs T) h
theorem OBox.newB {w w':World} {cs:List Value} {T:TypeId} (h:Below (w.alloc (.cells cs.toArray T)).drew.heap.size (w.alloc (.cells cs.toArray T)).drew w'):OBox w' w.heap.size cs T:=OBox.below (w:=(w.alloc (.cells cs.toArray T)).drew) (OBox.new w cs T) h
end
end Go.Proofs.YteembinfgbapgaaGreat
