/- Merged out of: Ni Ns Nj. -/
import Derived.Test.YteembinfgbapgaaGreatC00
import Derived.Test.YteembinfgbapgaaGreatC17
import Derived.Shelf.SortM.Plain
import Derived.Shelf.SortM.SortNone
import Derived.Test.YteembinfgbapgaaGreatProg
import Derived.Sort.OwnSortedInts
import Derived.Deep.RegionLawGrows
set_option linter.unusedSimpArgs false
set_option linter.unusedVariables false
set_option maxRecDepth 100000
set_option maxHeartbeats 8000000
namespace Go.Proofs.YteembinfgbapgaaGreat
section
open Go.RowKit Go.Lib
theorem named_func (fn:Fn) (first cap:Array Value) (w:World):Calls Tryz.prog 136 #[.func fn first cap] w fun e w'=>e=.returned (.func (.func 161) #[] #[.pointer (some ⟨w.heap.size,0,none⟩)])∧w'=w.alloc (.cells #[.func fn first cap] 205):=by
 have hmf:∀(fn:Fn) (first cap:Array Value) (w:World),(Instr.makeFunc fn first cap).run Tryz.prog w=.ok (.func fn first cap) w:=fun _ _ _ _=>rfl
 go_enter Tryz.func136,Tryz.ntmps136
 go_wp2
 go_ret
 exact⟨rfl,rfl⟩
theorem named_no (l:List Fd) (c:Ch) (m:Nat) (hm:l.length=m) (h16:m≤16) (B:Option Addr) (d b1 b2:Nat) (v2 v3 qv:Value) (w:World) (h1:b1≤b2) (h2:b2≤w.heap.size) (R1:RdB b1 w B (cellsF l)) (own2:w.ownsRow b1 68 3 v2 m (cellsF l)) (lt2:OwnLt b2 v2) (own3:w.ownsRow b2 137 4 v3 m (cellsM (kM m))) (P:Nat→Prop) (hP1:∀ad,B=some ad→P ad.block) (hP2:∀g,v2.ownBlock=some g→P g) (hP3:∀g,v3.ownBlock=some g→P g) (hPn:∀g,w.heap.size≤g→P g) (bp:Nat) (F:Value) (hfn:w.cell? ⟨bp,0,none⟩=some F) (hz:findZ l c.s<0):
 Calls Tryz.prog 161 #[.agg #[.slice B m d,v2,v3],.agg #[.int .i64 c.op,.string c.s,.string c.g.s,.int .i64 c.g.k,.int .i64 c.g.l,.int .i64 c.d.k,.int .u64 c.d.b,.string c.d.t,qv],.pointer (some ⟨bp,0,none⟩)] w fun e w'=>StepP v2.ownBlock v3.ownBlock P Tb.z 61 w e w':=by
 obtain⟨z,hzz⟩:∃z,findZ l c.s=z:=⟨_,rfl⟩
 rw[hzz] at hz
 have hd:decide (z<0)=true:=by simpa using hz
 obtain⟨B2,d2,rfl,hd2,hmx2,rd2⟩:=own_rd own2
 obtain⟨B3,d3,rfl,hd3,hmx3,rd3⟩:=own_rd own3
 have bb1:=below_new (w:=w) (.cells #[.slice B m d,.slice B2 m d2,.slice B3 m d3] 96)
 have bb2:=below_new (w:=w.alloc (.cells #[.slice B m d,.slice B2 m d2,.slice B3 m d3] 96)) (.cells #[.int .i64 c.op,.string c.s,.string c.g.s,.int .i64 c.g.k,.int .i64 c.g.l,.int .i64 c.d.k,.int .u64 c.d.b,.string c.d.t,qv] 76)
 have bb3:=below_new (w:=(w.alloc (.cells #[.slice B m d,.slice B2 m d2,.slice B3 m d3] 96)).alloc (.cells #[.int .i64 c.op,.string c.s,.string c.g.s,.int .i64 c.g.k,.int .i64 c.g.l,.int .i64 c.d.k,.int .u64 c.d.b,.string c.d.t,qv] 76)) (.cells #[.slice none 0 0,.slice none 0 0,.slice none 0 0] 96)
 have T1:=((OBox.new w [.slice B m d,.slice B2 m d2,.slice B3 m d3] 96).below bb2).below bb3
 have C1:CBox _ _ c qv 76:=(OBox.new (w.alloc (.cells #[.slice B m d,.slice B2 m d2,.slice B3 m d3] 96)) (chL c qv) 76).below bb3
 have N1:=OBox.new ((w.alloc (.cells #[.slice B m d,.slice B2 m d2,.slice B3 m d3] 96)).alloc (.cells #[.int .i64 c.op,.string c.s,.string c.g.s,.int .i64 c.g.k,.int .i64 c.g.l,.int .i64 c.d.k,.int .u64 c.d.b,.string c.d.t,qv] 76)) [.slice none 0 0,.slice none 0 0,.slice none 0 0] 96
 have HB:=below_seq (below_seq bb1 bb2) bb3
 rw[Jq] at C1
 rw[Jq,Jq] at N1
 obtain⟨i1,i2,i3,j1,j2,j3⟩:=T1.f3
 obtain⟨n1,n2,n3,o1,o2,o3⟩:=N1.f3
 obtain⟨a0,a1,a2,a3,a4,a5,a6,a7,a8⟩:=C1.c9
 have HM:=J0 hm
 have HP1:=J0 hP1
 have HP2:=J0 hP2
 have HP3:=J0 hP3
 have HPN:=J0 hPn
 clear hm bb1 bb2 bb3 hP1 hP2 hP3 hPn
 have HZ:=J0 hzz
 have RO:=R1.rd.below HB
 clear hzz hz own2 own3 R1 rd2 rd3
 go_enter Tryz.func161,Tryz.ntmps161
 go_wp2_with (go_at_call 96;refine(Find_m B d m l HM.out c.s z HZ.out _ RO (by omega)).mono ?_;rintro e wM ⟨rfl,hb⟩;replace HB:=HB.trans (hb.mono HB.size);replace T1:=T1.below hb;replace C1:=C1.below hb;replace N1:=N1.below hb;clear hb i1 i2 i3 j1 j2 j3 n1 n2 n3 o1 o2 o3 a0 a1 a2 a3 a4 a5 a6 a7 a8;obtain⟨i1,i2,i3,j1,j2,j3⟩:=T1.f3;obtain⟨n1,n2,n3,o1,o2,o3⟩:=N1.f3;obtain⟨a0,a1,a2,a3,a4,a5,a6,a7,a8⟩:=C1.c9;have hfn2:=cell_below (B:=0) HB hfn)
 refine bodyPost_ret (v:=.tuple #[.agg #[.slice B m d,.slice B2 m d2,.slice B3 m d3],.int .i64 61]) (by simp[results,Tryz.results161,go_sem, *];done) rfl ⟨_,_,_,_,_,_,_,_,_,rfl,fun h=>absurd h (by decide),Only.of ?_⟩
 (repeat (first|exact HB|refine J8 ?_ (by dsimp only;omega) _|refine Jk ?_ (by have hs_:=HB.size;first|(simp;done)|(simp;omega)|omega) _|apply Jv))
theorem named_drops (l:List Fd) (c:Ch) (m:Nat) (hm:l.length=m) (h16:m≤16) (B:Option Addr) (d b1 b2:Nat) (v2 v3 qv:Value) (w:World) (h1:b1≤b2) (h2:b2≤w.heap.size) (R1:RdB b1 w B (cellsF l)) (own2:w.ownsRow b1 68 3 v2 m (cellsF l)) (lt2:OwnLt b2 v2) (own3:w.ownsRow b2 137 4 v3 m (cellsM (kM m))) (P:Nat→Prop) (hP1:∀ad,B=some ad→P ad.block) (hP2:∀g,v2.ownBlock=some g→P g) (hP3:∀g,v3.ownBlock=some g→P g) (hPn:∀g,w.heap.size≤g→P g) (bp:Nat) (hfn:w.cell? ⟨bp,0,none⟩=some (.func (.func 137) #[] #[])) (k:Nat) (hz:findZ l c.s=k)  :
 Calls Tryz.prog 161 #[.agg #[.slice B m d,v2,v3],.agg #[.int .i64 c.op,.string c.s,.string c.g.s,.int .i64 c.g.k,.int .i64 c.g.l,.int .i64 c.d.k,.int .u64 c.d.b,.string c.d.t,qv],.pointer (some ⟨bp,0,none⟩)] w fun e w'=>StepP v2.ownBlock v3.ownBlock P ⟨l,l.eraseIdx k,(kM m).eraseIdx k⟩ 0 w e w':=by
 have hk:k<m:=by have:=findZ_ge l c.s;omega
 obtain⟨B2,d2,rfl,hd2,hmx2,rd2⟩:=own_rd own2
 obtain⟨B3,d3,rfl,hd3,hmx3,rd3⟩:=own_rd own3
 have bb1:=below_new (w:=w) (.cells #[.slice B m d,.slice B2 m d2,.slice B3 m d3] 96)
 have bb2:=below_new (w:=w.alloc (.cells #[.slice B m d,.slice B2 m d2,.slice B3 m d3] 96)) (.cells #[.int .i64 c.op,.string c.s,.string c.g.s,.int .i64 c.g.k,.int .i64 c.g.l,.int .i64 c.d.k,.int .u64 c.d.b,.string c.d.t,qv] 76)
 have bb3:=below_new (w:=(w.alloc (.cells #[.slice B m d,.slice B2 m d2,.slice B3 m d3] 96)).alloc (.cells #[.int .i64 c.op,.string c.s,.string c.g.s,.int .i64 c.g.k,.int .i64 c.g.l,.int .i64 c.d.k,.int .u64 c.d.b,.string c.d.t,qv] 76)) (.cells #[.slice none 0 0,.slice none 0 0,.slice none 0 0] 96)
 have T1:=((OBox.new w [.slice B m d,.slice B2 m d2,.slice B3 m d3] 96).below bb2).below bb3
 have C1:CBox _ _ c qv 76:=(OBox.new (w.alloc (.cells #[.slice B m d,.slice B2 m d2,.slice B3 m d3] 96)) (chL c qv) 76).below bb3
 have N1:=OBox.new ((w.alloc (.cells #[.slice B m d,.slice B2 m d2,.slice B3 m d3] 96)).alloc (.cells #[.int .i64 c.op,.string c.s,.string c.g.s,.int .i64 c.g.k,.int .i64 c.g.l,.int .i64 c.d.k,.int .u64 c.d.b,.string c.d.t,qv] 76)) [.slice none 0 0,.slice none 0 0,.slice none 0 0] 96
 have HB:=below_seq (below_seq bb1 bb2) bb3
 rw[Jq] at C1
 rw[Jq,Jq] at N1
 obtain⟨i1,i2,i3,j1,j2,j3⟩:=T1.f3
 obtain⟨n1,n2,n3,o1,o2,o3⟩:=N1.f3
 obtain⟨a0,a1,a2,a3,a4,a5,a6,a7,a8⟩:=C1.c9
 have HM:=J0 hm
 have HP1:=J0 hP1
 have HP2:=J0 hP2
 have HP3:=J0 hP3
 have HPN:=J0 hPn
 clear hm bb1 bb2 bb3 hP1 hP2 hP3 hPn
 have HZ:=J0 hz
 have RO:=R1.rd.below HB
 have l3:=own_lt own3
 have hbl:Hid (∀ad,B=some ad→ad.block<w.heap.size):=J0 (fun ad e=>by
  obtain⟨ad',e',hlt,_⟩:=R1 (by intro e;have:=congrArg List.length e;rw[cellsF_length,HM.out] at this;simp at this;omega)
  rw[e] at e';cases e';omega)
 have hnn:decide ((k:Int)<0)=false:=by simp
 clear hz rd2 rd3
 go_enter Tryz.func161,Tryz.ntmps161
 go_wp2_with (first
  |(go_at_call 96;refine(Find_m B d m l HM.out c.s k HZ.out _ RO (by omega)).mono ?_;rintro e wM ⟨rfl,hb⟩;replace HB:=HB.trans (hb.mono HB.size);replace T1:=T1.below hb;replace C1:=C1.below hb;replace N1:=N1.below hb;clear hb i1 i2 i3 j1 j2 j3 n1 n2 n3 o1 o2 o3 a0 a1 a2 a3 a4 a5 a6 a7 a8;obtain⟨i1,i2,i3,j1,j2,j3⟩:=T1.f3;obtain⟨n1,n2,n3,o1,o2,o3⟩:=N1.f3;obtain⟨a0,a1,a2,a3,a4,a5,a6,a7,a8⟩:=C1.c9;have hfn2:=cell_below (B:=0) HB hfn)
  |(go_at_call 137;refine(drops_m l c m HM.out h16 B d b1 b2 _ _ qv wM h1 (by have:=HB.size;omega) (R1.below (HB.mono (Q7 h1 h2))) (own_below own2 HB) lt2 (own_below own3 HB) (fun g=>(P g∧g<w.heap.size)∨wM.heap.size≤g) (fun ad e=>.inl ⟨HP1.out ad e,hbl.out ad e⟩) (fun g hg=>.inl ⟨HP2.out g hg,by have:=lt2 g hg;omega⟩) (fun g hg=>.inl ⟨HP3.out g hg,l3 g hg⟩) (fun g hg=>.inr hg) k hk).mono ?_))
 rintro e W5 ⟨X0,y0,z0,X1,y1,z1,X2,y2,z2,rfl,hTV,hO⟩
 have HT:=J0 hTV
 clear hTV
 have zz:=N1.lt
 have N5:=N1.only hO (by intro e;have:=lt2 _ e.symm;omega) (by intro e;have:=l3 _ e.symm;omega)
 clear i1 i2 i3 j1 j2 j3 n1 n2 n3 o1 o2 o3 a0 a1 a2 a3 a4 a5 a6 a7 a8
 obtain⟨n1,n2,n3,o1,o2,o3⟩:=N5.f3
 go_wp2
 refine bodyPost_ret (v:=.tuple #[.agg #[.slice X0 y0 z0,.slice X1 y1 z1,.slice X2 y2 z2],.int .i64 0]) (by simp[results,Tryz.results161,go_sem, *];done) rfl ⟨_,_,_,_,_,_,_,_,_,rfl,fun h=>?_,?_⟩
 ·refine((HT.out (by first|exact h|trivial)).keep (fun g hg=>?_)).mono (fun g hg=>?_)
  ·have hne:g≠w.heap.size+2:=by rcases hg with hg|hg <;> omega
   exact(J5 _ _ _ _ hne).trans ((J5 _ _ _ _ hne).trans (J5 _ _ _ _ hne))
  ·rcases hg with hg|hg
   ·exact hg.1
   ·exact HPN.out g (by omega)
 ·exact((((Only.of HB).then hO).setCell (by show w.heap.size≤w.heap.size+2;omega) _).setCell (by show w.heap.size≤w.heap.size+2;omega) _).setCell (by show w.heap.size≤w.heap.size+2;omega) _
theorem named_renames (l:List Fd) (c:Ch) (m:Nat) (hm:l.length=m) (h16:m≤16) (B:Option Addr) (d b1 b2:Nat) (v2 v3 qv:Value) (w:World) (h1:b1≤b2) (h2:b2≤w.heap.size) (R1:RdB b1 w B (cellsF l)) (own2:w.ownsRow b1 68 3 v2 m (cellsF l)) (lt2:OwnLt b2 v2) (own3:w.ownsRow b2 137 4 v3 m (cellsM (kM m))) (P:Nat→Prop) (hP1:∀ad,B=some ad→P ad.block) (hP2:∀g,v2.ownBlock=some g→P g) (hP3:∀g,v3.ownBlock=some g→P g) (hPn:∀g,w.heap.size≤g→P g) (bp:Nat) (hfn:w.cell? ⟨bp,0,none⟩=some (.func (.func 138) #[] #[])) (k:Nat) (hz:findZ l c.s=k) (f:Fd) (hf:l[k]?=some f):
 Calls Tryz.prog 161 #[.agg #[.slice B m d,v2,v3],.agg #[.int .i64 c.op,.string c.s,.string c.g.s,.int .i64 c.g.k,.int .i64 c.g.l,.int .i64 c.d.k,.int .u64 c.d.b,.string c.d.t,qv],.pointer (some ⟨bp,0,none⟩)] w fun e w'=>StepP v2.ownBlock v3.ownBlock P ⟨l,l.set k ⟨c.g.s,f.k,f.l⟩,kM m⟩ 0 w e w':=by
 have hk:k<m:=by have:=findZ_ge l c.s;omega
 obtain⟨B2,d2,rfl,hd2,hmx2,rd2⟩:=own_rd own2
 obtain⟨B3,d3,rfl,hd3,hmx3,rd3⟩:=own_rd own3
 have bb1:=below_new (w:=w) (.cells #[.slice B m d,.slice B2 m d2,.slice B3 m d3] 96)
 have bb2:=below_new (w:=w.alloc (.cells #[.slice B m d,.slice B2 m d2,.slice B3 m d3] 96)) (.cells #[.int .i64 c.op,.string c.s,.string c.g.s,.int .i64 c.g.k,.int .i64 c.g.l,.int .i64 c.d.k,.int .u64 c.d.b,.string c.d.t,qv] 76)
 have bb3:=below_new (w:=(w.alloc (.cells #[.slice B m d,.slice B2 m d2,.slice B3 m d3] 96)).alloc (.cells #[.int .i64 c.op,.string c.s,.string c.g.s,.int .i64 c.g.k,.int .i64 c.g.l,.int .i64 c.d.k,.int .u64 c.d.b,.string c.d.t,qv] 76)) (.cells #[.slice none 0 0,.slice none 0 0,.slice none 0 0] 96)
 have T1:=((OBox.new w [.slice B m d,.slice B2 m d2,.slice B3 m d3] 96).below bb2).below bb3
 have C1:CBox _ _ c qv 76:=(OBox.new (w.alloc (.cells #[.slice B m d,.slice B2 m d2,.slice B3 m d3] 96)) (chL c qv) 76).below bb3
 have N1:=OBox.new ((w.alloc (.cells #[.slice B m d,.slice B2 m d2,.slice B3 m d3] 96)).alloc (.cells #[.int .i64 c.op,.string c.s,.string c.g.s,.int .i64 c.g.k,.int .i64 c.g.l,.int .i64 c.d.k,.int .u64 c.d.b,.string c.d.t,qv] 76)) [.slice none 0 0,.slice none 0 0,.slice none 0 0] 96
 have HB:=below_seq (below_seq bb1 bb2) bb3
 rw[Jq] at C1
 rw[Jq,Jq] at N1
 obtain⟨i1,i2,i3,j1,j2,j3⟩:=T1.f3
 obtain⟨n1,n2,n3,o1,o2,o3⟩:=N1.f3
 obtain⟨a0,a1,a2,a3,a4,a5,a6,a7,a8⟩:=C1.c9
 have HM:=J0 hm
 have HP1:=J0 hP1
 have HP2:=J0 hP2
 have HP3:=J0 hP3
 have HPN:=J0 hPn
 clear hm bb1 bb2 bb3 hP1 hP2 hP3 hPn
 have HZ:=J0 hz
 have RO:=R1.rd.below HB
 have l3:=own_lt own3
 have hbl:Hid (∀ad,B=some ad→ad.block<w.heap.size):=J0 (fun ad e=>by
  obtain⟨ad',e',hlt,_⟩:=R1 (by intro e;have:=congrArg List.length e;rw[cellsF_length,HM.out] at this;simp at this;omega)
  rw[e] at e';cases e';omega)
 have hnn:decide ((k:Int)<0)=false:=by simp
 clear hz rd2 rd3
 go_enter Tryz.func161,Tryz.ntmps161
 go_wp2_with (first
  |(go_at_call 96;refine(Find_m B d m l HM.out c.s k HZ.out _ RO (by omega)).mono ?_;rintro e wM ⟨rfl,hb⟩;replace HB:=HB.trans (hb.mono HB.size);replace T1:=T1.below hb;replace C1:=C1.below hb;replace N1:=N1.below hb;clear hb i1 i2 i3 j1 j2 j3 n1 n2 n3 o1 o2 o3 a0 a1 a2 a3 a4 a5 a6 a7 a8;obtain⟨i1,i2,i3,j1,j2,j3⟩:=T1.f3;obtain⟨n1,n2,n3,o1,o2,o3⟩:=N1.f3;obtain⟨a0,a1,a2,a3,a4,a5,a6,a7,a8⟩:=C1.c9;have hfn2:=cell_below (B:=0) HB hfn)
  |(go_at_call 138;refine(renames_m l c m HM.out h16 B d b1 b2 _ _ qv wM h1 (by have:=HB.size;omega) (R1.below (HB.mono (Q7 h1 h2))) (own_below own2 HB) lt2 (own_below own3 HB) (fun g=>(P g∧g<w.heap.size)∨wM.heap.size≤g) (fun ad e=>.inl ⟨HP1.out ad e,hbl.out ad e⟩) (fun g hg=>.inl ⟨HP2.out g hg,by have:=lt2 g hg;omega⟩) (fun g hg=>.inl ⟨HP3.out g hg,l3 g hg⟩) (fun g hg=>.inr hg) k f hf).mono ?_))
 rintro e W5 ⟨X0,y0,z0,X1,y1,z1,X2,y2,z2,rfl,hTV,hO⟩
 have HT:=J0 hTV
 clear hTV
 have zz:=N1.lt
 have N5:=N1.only hO (by intro e;have:=lt2 _ e.symm;omega) (by intro e;have:=l3 _ e.symm;omega)
 clear i1 i2 i3 j1 j2 j3 n1 n2 n3 o1 o2 o3 a0 a1 a2 a3 a4 a5 a6 a7 a8
 obtain⟨n1,n2,n3,o1,o2,o3⟩:=N5.f3
 go_wp2
 refine bodyPost_ret (v:=.tuple #[.agg #[.slice X0 y0 z0,.slice X1 y1 z1,.slice X2 y2 z2],.int .i64 0]) (by simp[results,Tryz.results161,go_sem, *];done) rfl ⟨_,_,_,_,_,_,_,_,_,rfl,fun h=>?_,?_⟩
 ·refine((HT.out (by first|exact h|trivial)).keep (fun g hg=>?_)).mono (fun g hg=>?_)
  ·have hne:g≠w.heap.size+2:=by rcases hg with hg|hg <;> omega
   exact(J5 _ _ _ _ hne).trans ((J5 _ _ _ _ hne).trans (J5 _ _ _ _ hne))
  ·rcases hg with hg|hg
   ·exact hg.1
   ·exact HPN.out g (by omega)
 ·exact((((Only.of HB).then hO).setCell (by show w.heap.size≤w.heap.size+2;omega) _).setCell (by show w.heap.size≤w.heap.size+2;omega) _).setCell (by show w.heap.size≤w.heap.size+2;omega) _
theorem named_recasts_yes (l:List Fd) (c:Ch) (m:Nat) (hm:l.length=m) (h16:m≤16) (B:Option Addr) (d b1 b2:Nat) (v2 v3 qv:Value) (w:World) (h1:b1≤b2) (h2:b2≤w.heap.size) (R1:RdB b1 w B (cellsF l)) (own2:w.ownsRow b1 68 3 v2 m (cellsF l)) (lt2:OwnLt b2 v2) (own3:w.ownsRow b2 137 4 v3 m (cellsM (kM m))) (P:Nat→Prop) (hP1:∀ad,B=some ad→P ad.block) (hP2:∀g,v2.ownBlock=some g→P g) (hP3:∀g,v3.ownBlock=some g→P g) (hPn:∀g,w.heap.size≤g→P g) (bp:Nat) (hfn:w.cell? ⟨bp,0,none⟩=some (.func (.func 139) #[] #[])) (k:Nat) (hz:findZ l c.s=k) (f:Fd) (hf:l[k]?=some f) (hr:castsB f.k f.l c.g.k c.g.l=true):
 Calls Tryz.prog 161 #[.agg #[.slice B m d,v2,v3],.agg #[.int .i64 c.op,.string c.s,.string c.g.s,.int .i64 c.g.k,.int .i64 c.g.l,.int .i64 c.d.k,.int .u64 c.d.b,.string c.d.t,qv],.pointer (some ⟨bp,0,none⟩)] w fun e w'=>StepP v2.ownBlock v3.ownBlock P ⟨l,l.set k ⟨f.s,c.g.k,c.g.l⟩,kM m⟩ 0 w e w':=by
 have hk:k<m:=by have:=findZ_ge l c.s;omega
 obtain⟨B2,d2,rfl,hd2,hmx2,rd2⟩:=own_rd own2
 obtain⟨B3,d3,rfl,hd3,hmx3,rd3⟩:=own_rd own3
 have bb1:=below_new (w:=w) (.cells #[.slice B m d,.slice B2 m d2,.slice B3 m d3] 96)
 have bb2:=below_new (w:=w.alloc (.cells #[.slice B m d,.slice B2 m d2,.slice B3 m d3] 96)) (.cells #[.int .i64 c.op,.string c.s,.string c.g.s,.int .i64 c.g.k,.int .i64 c.g.l,.int .i64 c.d.k,.int .u64 c.d.b,.string c.d.t,qv] 76)
 have bb3:=below_new (w:=(w.alloc (.cells #[.slice B m d,.slice B2 m d2,.slice B3 m d3] 96)).alloc (.cells #[.int .i64 c.op,.string c.s,.string c.g.s,.int .i64 c.g.k,.int .i64 c.g.l,.int .i64 c.d.k,.int .u64 c.d.b,.string c.d.t,qv] 76)) (.cells #[.slice none 0 0,.slice none 0 0,.slice none 0 0] 96)
 have T1:=((OBox.new w [.slice B m d,.slice B2 m d2,.slice B3 m d3] 96).below bb2).below bb3
 have C1:CBox _ _ c qv 76:=(OBox.new (w.alloc (.cells #[.slice B m d,.slice B2 m d2,.slice B3 m d3] 96)) (chL c qv) 76).below bb3
 have N1:=OBox.new ((w.alloc (.cells #[.slice B m d,.slice B2 m d2,.slice B3 m d3] 96)).alloc (.cells #[.int .i64 c.op,.string c.s,.string c.g.s,.int .i64 c.g.k,.int .i64 c.g.l,.int .i64 c.d.k,.int .u64 c.d.b,.string c.d.t,qv] 76)) [.slice none 0 0,.slice none 0 0,.slice none 0 0] 96
 have HB:=below_seq (below_seq bb1 bb2) bb3
 rw[Jq] at C1
 rw[Jq,Jq] at N1
 obtain⟨i1,i2,i3,j1,j2,j3⟩:=T1.f3
 obtain⟨n1,n2,n3,o1,o2,o3⟩:=N1.f3
 obtain⟨a0,a1,a2,a3,a4,a5,a6,a7,a8⟩:=C1.c9
 have HM:=J0 hm
 have HP1:=J0 hP1
 have HP2:=J0 hP2
 have HP3:=J0 hP3
 have HPN:=J0 hPn
 clear hm bb1 bb2 bb3 hP1 hP2 hP3 hPn
 have HZ:=J0 hz
 have RO:=R1.rd.below HB
 have l3:=own_lt own3
 have hbl:Hid (∀ad,B=some ad→ad.block<w.heap.size):=J0 (fun ad e=>by
  obtain⟨ad',e',hlt,_⟩:=R1 (by intro e;have:=congrArg List.length e;rw[cellsF_length,HM.out] at this;simp at this;omega)
  rw[e] at e';cases e';omega)
 have hnn:decide ((k:Int)<0)=false:=by simp
 clear hz rd2 rd3
 go_enter Tryz.func161,Tryz.ntmps161
 go_wp2_with (first
  |(go_at_call 96;refine(Find_m B d m l HM.out c.s k HZ.out _ RO (by omega)).mono ?_;rintro e wM ⟨rfl,hb⟩;replace HB:=HB.trans (hb.mono HB.size);replace T1:=T1.below hb;replace C1:=C1.below hb;replace N1:=N1.below hb;clear hb i1 i2 i3 j1 j2 j3 n1 n2 n3 o1 o2 o3 a0 a1 a2 a3 a4 a5 a6 a7 a8;obtain⟨i1,i2,i3,j1,j2,j3⟩:=T1.f3;obtain⟨n1,n2,n3,o1,o2,o3⟩:=N1.f3;obtain⟨a0,a1,a2,a3,a4,a5,a6,a7,a8⟩:=C1.c9;have hfn2:=cell_below (B:=0) HB hfn)
  |(go_at_call 139;refine(recasts_yes l c m HM.out h16 B d b1 b2 _ _ qv wM h1 (by have:=HB.size;omega) (R1.below (HB.mono (Q7 h1 h2))) (own_below own2 HB) lt2 (own_below own3 HB) (fun g=>(P g∧g<w.heap.size)∨wM.heap.size≤g) (fun ad e=>.inl ⟨HP1.out ad e,hbl.out ad e⟩) (fun g hg=>.inl ⟨HP2.out g hg,by have:=lt2 g hg;omega⟩) (fun g hg=>.inl ⟨HP3.out g hg,l3 g hg⟩) (fun g hg=>.inr hg) k f hf hr).mono ?_))
 rintro e W5 ⟨X0,y0,z0,X1,y1,z1,X2,y2,z2,rfl,hTV,hO⟩
 have HT:=J0 hTV
 clear hTV
 have zz:=N1.lt
 have N5:=N1.only hO (by intro e;have:=lt2 _ e.symm;omega) (by intro e;have:=l3 _ e.symm;omega)
 clear i1 i2 i3 j1 j2 j3 n1 n2 n3 o1 o2 o3 a0 a1 a2 a3 a4 a5 a6 a7 a8
 obtain⟨n1,n2,n3,o1,o2,o3⟩:=N5.f3
 go_wp2
 refine bodyPost_ret (v:=.tuple #[.agg #[.slice X0 y0 z0,.slice X1 y1 z1,.slice X2 y2 z2],.int .i64 0]) (by simp[results,Tryz.results161,go_sem, *];done) rfl ⟨_,_,_,_,_,_,_,_,_,rfl,fun h=>?_,?_⟩
 ·refine((HT.out (by first|exact h|trivial)).keep (fun g hg=>?_)).mono (fun g hg=>?_)
  ·have hne:g≠w.heap.size+2:=by rcases hg with hg|hg <;> omega
   exact(J5 _ _ _ _ hne).trans ((J5 _ _ _ _ hne).trans (J5 _ _ _ _ hne))
  ·rcases hg with hg|hg
   ·exact hg.1
   ·exact HPN.out g (by omega)
 ·exact((((Only.of HB).then hO).setCell (by show w.heap.size≤w.heap.size+2;omega) _).setCell (by show w.heap.size≤w.heap.size+2;omega) _).setCell (by show w.heap.size≤w.heap.size+2;omega) _
theorem named_recasts_no (l:List Fd) (c:Ch) (m:Nat) (hm:l.length=m) (h16:m≤16) (B:Option Addr) (d b1 b2:Nat) (v2 v3 qv:Value) (w:World) (h1:b1≤b2) (h2:b2≤w.heap.size) (R1:RdB b1 w B (cellsF l)) (own2:w.ownsRow b1 68 3 v2 m (cellsF l)) (lt2:OwnLt b2 v2) (own3:w.ownsRow b2 137 4 v3 m (cellsM (kM m))) (P:Nat→Prop) (hP1:∀ad,B=some ad→P ad.block) (hP2:∀g,v2.ownBlock=some g→P g) (hP3:∀g,v3.ownBlock=some g→P g) (hPn:∀g,w.heap.size≤g→P g) (bp:Nat) (hfn:w.cell? ⟨bp,0,none⟩=some (.func (.func 139) #[] #[])) (k:Nat) (hz:findZ l c.s=k) (f:Fd) (hf:l[k]?=some f) (hr:castsB f.k f.l c.g.k c.g.l=false):
 Calls Tryz.prog 161 #[.agg #[.slice B m d,v2,v3],.agg #[.int .i64 c.op,.string c.s,.string c.g.s,.int .i64 c.g.k,.int .i64 c.g.l,.int .i64 c.d.k,.int .u64 c.d.b,.string c.d.t,qv],.pointer (some ⟨bp,0,none⟩)] w fun e w'=>StepP v2.ownBlock v3.ownBlock P Tb.z 80 w e w':=by
 have hk:k<m:=by have:=findZ_ge l c.s;omega
 obtain⟨B2,d2,rfl,hd2,hmx2,rd2⟩:=own_rd own2
 obtain⟨B3,d3,rfl,hd3,hmx3,rd3⟩:=own_rd own3
 have bb1:=below_new (w:=w) (.cells #[.slice B m d,.slice B2 m d2,.slice B3 m d3] 96)
 have bb2:=below_new (w:=w.alloc (.cells #[.slice B m d,.slice B2 m d2,.slice B3 m d3] 96)) (.cells #[.int .i64 c.op,.string c.s,.string c.g.s,.int .i64 c.g.k,.int .i64 c.g.l,.int .i64 c.d.k,.int .u64 c.d.b,.string c.d.t,qv] 76)
 have bb3:=below_new (w:=(w.alloc (.cells #[.slice B m d,.slice B2 m d2,.slice B3 m d3] 96)).alloc (.cells #[.int .i64 c.op,.string c.s,.string c.g.s,.int .i64 c.g.k,.int .i64 c.g.l,.int .i64 c.d.k,.int .u64 c.d.b,.string c.d.t,qv] 76)) (.cells #[.slice none 0 0,.slice none 0 0,.slice none 0 0] 96)
 have T1:=((OBox.new w [.slice B m d,.slice B2 m d2,.slice B3 m d3] 96).below bb2).below bb3
 have C1:CBox _ _ c qv 76:=(OBox.new (w.alloc (.cells #[.slice B m d,.slice B2 m d2,.slice B3 m d3] 96)) (chL c qv) 76).below bb3
 have N1:=OBox.new ((w.alloc (.cells #[.slice B m d,.slice B2 m d2,.slice B3 m d3] 96)).alloc (.cells #[.int .i64 c.op,.string c.s,.string c.g.s,.int .i64 c.g.k,.int .i64 c.g.l,.int .i64 c.d.k,.int .u64 c.d.b,.string c.d.t,qv] 76)) [.slice none 0 0,.slice none 0 0,.slice none 0 0] 96
 have HB:=below_seq (below_seq bb1 bb2) bb3
 rw[Jq] at C1
 rw[Jq,Jq] at N1
 obtain⟨i1,i2,i3,j1,j2,j3⟩:=T1.f3
 obtain⟨n1,n2,n3,o1,o2,o3⟩:=N1.f3
 obtain⟨a0,a1,a2,a3,a4,a5,a6,a7,a8⟩:=C1.c9
 have HM:=J0 hm
 have HP1:=J0 hP1
 have HP2:=J0 hP2
 have HP3:=J0 hP3
 have HPN:=J0 hPn
 clear hm bb1 bb2 bb3 hP1 hP2 hP3 hPn
 have HZ:=J0 hz
 have RO:=R1.rd.below HB
 have l3:=own_lt own3
 have hbl:Hid (∀ad,B=some ad→ad.block<w.heap.size):=J0 (fun ad e=>by
  obtain⟨ad',e',hlt,_⟩:=R1 (by intro e;have:=congrArg List.length e;rw[cellsF_length,HM.out] at this;simp at this;omega)
  rw[e] at e';cases e';omega)
 have hnn:decide ((k:Int)<0)=false:=by simp
 clear hz rd2 rd3
 go_enter Tryz.func161,Tryz.ntmps161
 go_wp2_with (first
  |(go_at_call 96;refine(Find_m B d m l HM.out c.s k HZ.out _ RO (by omega)).mono ?_;rintro e wM ⟨rfl,hb⟩;replace HB:=HB.trans (hb.mono HB.size);replace T1:=T1.below hb;replace C1:=C1.below hb;replace N1:=N1.below hb;clear hb i1 i2 i3 j1 j2 j3 n1 n2 n3 o1 o2 o3 a0 a1 a2 a3 a4 a5 a6 a7 a8;obtain⟨i1,i2,i3,j1,j2,j3⟩:=T1.f3;obtain⟨n1,n2,n3,o1,o2,o3⟩:=N1.f3;obtain⟨a0,a1,a2,a3,a4,a5,a6,a7,a8⟩:=C1.c9;have hfn2:=cell_below (B:=0) HB hfn)
  |(go_at_call 139;refine(recasts_no l c m HM.out h16 B d b1 b2 _ _ qv wM h1 (by have:=HB.size;omega) (R1.below (HB.mono (Q7 h1 h2))) (own_below own2 HB) lt2 (own_below own3 HB) (fun g=>(P g∧g<w.heap.size)∨wM.heap.size≤g) (fun ad e=>.inl ⟨HP1.out ad e,hbl.out ad e⟩) (fun g hg=>.inl ⟨HP2.out g hg,by have:=lt2 g hg;omega⟩) (fun g hg=>.inl ⟨HP3.out g hg,l3 g hg⟩) (fun g hg=>.inr hg) k f hf hr).mono ?_))
 rintro e W5 ⟨X0,y0,z0,X1,y1,z1,X2,y2,z2,rfl,hTV,hO⟩
 have HT:=J0 hTV
 clear hTV
 have zz:=N1.lt
 have N5:=N1.only hO (by intro e;have:=lt2 _ e.symm;omega) (by intro e;have:=l3 _ e.symm;omega)
 clear i1 i2 i3 j1 j2 j3 n1 n2 n3 o1 o2 o3 a0 a1 a2 a3 a4 a5 a6 a7 a8
 obtain⟨n1,n2,n3,o1,o2,o3⟩:=N5.f3
 go_wp2
 refine bodyPost_ret (v:=.tuple #[.agg #[.slice X0 y0 z0,.slice X1 y1 z1,.slice X2 y2 z2],.int .i64 80]) (by simp[results,Tryz.results161,go_sem, *];done) rfl ⟨_,_,_,_,_,_,_,_,_,rfl,fun h=>?_,?_⟩
 ·exact absurd h (by decide)
 ·exact((((Only.of HB).then hO).setCell (by show w.heap.size≤w.heap.size+2;omega) _).setCell (by show w.heap.size≤w.heap.size+2;omega) _).setCell (by show w.heap.size≤w.heap.size+2;omega) _
end
end Go.Proofs.YteembinfgbapgaaGreat
namespace Go.Proofs
open Go.Shelf
def Tryz.laysSort_ren:Go.Shelf.Ren:=⟨fun|5=>165|8=>101|7=>175|19=>151|20=>152|10=>179|11=>180|12=>181|13=>182|14=>183|15=>184|16=>185|17=>186|18=>187|30=>188|31=>167|32=>168|33=>189|34=>190|35=>191|40=>192|n=>n,fun|23=>29|25=>3|3=>3|32=>180|22=>29|0=>0|44=>218|46=>69|4=>4|36=>210|35=>209|41=>215|5=>5|9=>9|53=>231|57=>235|63=>238|64=>239|n=>n,fun|n=>n⟩
theorem Tryz.laysSort:Go.Proofs.SlLaysM.n5 Tryz.prog Tryz.laysSort_ren:={
 mixed:=by kernel_rfl
 f5:=⟨Tryz.f165.name,by decide,Tryz.func165.trans (congrArg some (by kernel_rfl))⟩
 f7:=⟨Tryz.f175.name,by decide,Tryz.func175.trans (congrArg some (by kernel_rfl))⟩
 f8:=Tryz.func101.trans (congrArg some (by kernel_rfl))
 f10:=⟨Tryz.f179.name,by decide,Tryz.func179.trans (congrArg some (by kernel_rfl))⟩
 f11:=⟨Tryz.f180.name,by decide,Tryz.func180.trans (congrArg some (by kernel_rfl))⟩
 f12:=⟨Tryz.f181.name,by decide,Tryz.func181.trans (congrArg some (by kernel_rfl))⟩
 f13:=⟨Tryz.f182.name,by decide,Tryz.func182.trans (congrArg some (by kernel_rfl))⟩
 f14:=⟨Tryz.f183.name,by decide,Tryz.func183.trans (congrArg some (by kernel_rfl))⟩
 f15:=⟨Tryz.f184.name,by decide,Tryz.func184.trans (congrArg some (by kernel_rfl))⟩
 f16:=⟨Tryz.f185.name,by decide,Tryz.func185.trans (congrArg some (by kernel_rfl))⟩
 f17:=⟨Tryz.f186.name,by decide,Tryz.func186.trans (congrArg some (by kernel_rfl))⟩
 f18:=⟨Tryz.f187.name,by decide,Tryz.func187.trans (congrArg some (by kernel_rfl))⟩
 f19:=Tryz.func151.trans (congrArg some (by kernel_rfl))
 f20:=Tryz.func152.trans (congrArg some (by kernel_rfl))
 f30:=⟨Tryz.f188.name,by decide,Tryz.func188.trans (congrArg some (by kernel_rfl))⟩
 f31:=Tryz.func167.trans (congrArg some (by kernel_rfl))
 f32:=Tryz.func168.trans (congrArg some (by kernel_rfl))
 f33:=⟨Tryz.f189.name,by decide,Tryz.func189.trans (congrArg some (by kernel_rfl))⟩
 f34:=⟨Tryz.f190.name,by decide,Tryz.func190.trans (congrArg some (by kernel_rfl))⟩
 f35:=⟨Tryz.f191.name,by decide,Tryz.func191.trans (congrArg some (by kernel_rfl))⟩
 f40:=⟨Tryz.f192.name,by decide,Tryz.func192.trans (congrArg some (by kernel_rfl))⟩
 t0:=Tryz.underlying0
 a0:=Tryz.isAgg0
 z0:=Tryz.sizeOf0
 v0:=Tryz.zeroValue0
 t3:=Tryz.underlying3
 a3:=Tryz.isAgg3
 z3:=Tryz.sizeOf3
 v3:=Tryz.zeroValue3
 t4:=Tryz.underlying4
 a4:=Tryz.isAgg4
 z4:=Tryz.sizeOf4
 v4:=Tryz.zeroValue4
 t5:=Tryz.underlying5
 a5:=Tryz.isAgg5
 z5:=Tryz.sizeOf5
 v5:=Tryz.zeroValue5
 t9:=Tryz.underlying9
 a9:=Tryz.isAgg9
 z9:=Tryz.sizeOf9
 v9:=Tryz.zeroValue9
 t22:=Tryz.underlying29
 a22:=Tryz.isAgg29
 z22:=Tryz.sizeOf29
 v22:=Tryz.zeroValue29
 t23:=Tryz.underlying29
 a23:=Tryz.isAgg29
 z23:=Tryz.sizeOf29
 v23:=Tryz.zeroValue29
 t25:=Tryz.underlying3
 a25:=Tryz.isAgg3
 z25:=Tryz.sizeOf3
 v25:=Tryz.zeroValue3
 t32:=Tryz.underlying180
 a32:=Tryz.isAgg180
 z32:=Tryz.sizeOf180
 v32:=Tryz.zeroValue180
 t35:=Tryz.underlying209
 a35:=Tryz.isAgg209
 z35:=Tryz.sizeOf209
 v35:=Tryz.zeroValue209
 t36:=Tryz.underlying210
 a36:=Tryz.isAgg210
 z36:=Tryz.sizeOf210
 v36:=Tryz.zeroValue210
 t41:=Tryz.underlying215
 a41:=Tryz.isAgg215
 z41:=Tryz.sizeOf215
 v41:=Tryz.zeroValue215
 t44:=Tryz.underlying218
 a44:=Tryz.isAgg218
 z44:=Tryz.sizeOf218
 v44:=Tryz.zeroValue218
 t46:=Tryz.underlying69
 a46:=Tryz.isAgg69
 z46:=Tryz.sizeOf69
 v46:=Tryz.zeroValue69
 t53:=Tryz.underlying231
 a53:=Tryz.isAgg231
 z53:=Tryz.sizeOf231
 v53:=Tryz.zeroValue231
 t57:=Tryz.underlying235
 a57:=Tryz.isAgg235
 z57:=Tryz.sizeOf235
 v57:=Tryz.zeroValue235
 t63:=Tryz.underlying238
 a63:=Tryz.isAgg238
 z63:=Tryz.sizeOf238
 v63:=Tryz.zeroValue238
 t64:=Tryz.underlying239
 a64:=Tryz.isAgg239
 z64:=Tryz.sizeOf239
 v64:=Tryz.zeroValue239 }
end Go.Proofs
namespace Go.Proofs.YteembinfgbapgaaGreat
section
open Go.RowKit Go.Lib Go.Sort Go.Shelf
def cellsI (q:List Int):List Value:=q.map (Value.int .i64)
theorem cellsI_length (q:List Int):(cellsI q).length=q.length:=by simp[cellsI]
theorem infoI:(Tryz.prog.info? 3).map (fun i=>(i.zero,i.size,i.bytes))=some (some (.int .i64 0),1,8):=by kernel_rfl
theorem CloneI_m (A:Option Addr) (c n:Nat) (q:List Int) (hn:q.length=n) (w:World) (hA:Rd w A (cellsI q)) (hl:n≤17592186044415) (hlc:n≤c):
 Calls Tryz.prog 164 #[.slice A n c] w fun e w'=>∃B d,e=.returned (.slice B n d)∧w'.ownsRow w.heap.size 3 1 (.slice B n d) n (cellsI q)∧Below w.heap.size w w':=by
 obtain⟨i0,hi,hz0,hz1,hz2⟩:=info_parts infoI
 cases A with
 |none=>
  obtain rfl:q=[]:=by
   cases q with
   |nil=>rfl
   |cons x r=>obtain⟨ad,e,_⟩:=hA (by simp[cellsI]);cases e
  have heq:∀w:World,(binOp .eql 29 (.slice none n c) (.slice none 0 0)).run Tryz.prog w=.ok (.bool true) w:=fun w=>Lib.run_eql_slice_nil (P:=Tryz.prog) w 29 3 none n c 0 0 Tryz.underlying29
  obtain rfl:n=0:=hn.symm
  go_enter Tryz.func164,Tryz.ntmps164
  go_wp2
  go_ret
  exact⟨none,0,rfl,own_nil _ _ _ _,Jy _ _⟩
 |some ad=>
  have heq:∀w:World,(binOp .eql 29 (.slice (some ad) n c) (.slice none 0 0)).run Tryz.prog w=.ok (.bool false) w:=fun w=>Lib.run_eql_slice_nil (P:=Tryz.prog) w 29 3 (some ad) n c 0 0 Tryz.underlying29
  have hown:(w.alloc (.cells #[] 3)).ownsRow w.heap.size 3 1 (.slice (some ⟨w.heap.size,0,none⟩) 0 0) 0 []:=⟨rfl,.inr ⟨_,0,#[],rfl,J9 _,World.alloc_heap_new _ _,J9 _,X8 _,rfl,rfl⟩⟩
  have hA2:=hA.below (below_new (.cells #[] 3))
  go_enter Tryz.func164,Tryz.ntmps164
  go_wp2_with (at_builtin;refine wpList_append_own _ rfl _ _ 29 rfl w.heap.size 3 i0 (.int .i64 0) 1 8 Tryz.underlying29 hi hz0 hz1 hz2 rfl (by decide) _ _ _ rfl hown ad n c (cellsI q) rfl ?c0 ?c1 ?c2 ?c3 ?c4 ?c5 ?_)
  case c0=>rw[cellsI_length];omega
  case c1=>
   intro j u hj
   obtain⟨ad',e,h⟩:=hA2 (by rintro e;rw[e] at hj;simp at hj)
   cases e;exact h j u hj
  case c2=>
   intro u hu
   simp only[cellsI,X5] at hu
   obtain⟨f,_,rfl⟩:=hu
   rfl
  case c3=>simp only[maxLen];omega
  case c4=>omega
  case c5=>simp
  intro v' w1 hown' hgrow _
  have hB:=(below_new (w:=w) (.cells #[] 3)).grown hgrow (by simp) (fun q hq=>own_base hown q hq)
  obtain⟨B,d,rfl,_,_,_⟩:=own_rd hown'
  clear hown hgrow
  go_wp2
  go_ret
  exact⟨B,d,by simp,by simpa using hown',hB⟩
theorem SortI_m (base n:Nat) (q:List Int) (hn:q.length=n) (v:Value) (w:World) (ho:w.ownsRow base 3 1 v n (cellsI q)) (hl:n<4611686018427387904):
 Calls Tryz.prog 165 #[v] w fun e w'=>e=.returned (.tuple #[])∧w'.ownsRow base 3 1 v n (cellsI (q.mergeSort fun x y=>decide (x≤y)))∧w.grownBy w' v.ownBlock:=by
 subst hn
 have ho':=ho
 rcases ho.2 with ⟨rfl,h0⟩|⟨g,cap,cur,rfl,hb,hg,hc,hm,hs,ht⟩
 ·obtain rfl:q=[]:=List.eq_nil_of_length_eq_zero h0
  refine(AnyM.slices_Sort_int_none Tryz.laysSort none 0 w).mono ?_
  rintro e w' ⟨rfl,rfl⟩
  exact⟨rfl,by simpa using ho',rfl,rfl,rfl,J9 _,fun _ _ _=>rfl⟩
 ·have hlt:g<w.heap.size:=(Qk.1 hg).1
  refine(AnyM.slices_Sort_int Tryz.laysSort g 0 cap q w (holds_of_blockI hg (by rw[Nat.mul_one] at ht;exact ht)) hlt (by omega)).mono ?_
  rintro e w' ⟨rfl,k,os,rfl⟩
  exact⟨rfl,ownsRow_sortedI (by rw[List.length_mergeSort]) hb hg hc hm hs,grownBy_sortedI _⟩
theorem step_append_own {P:Program} {ops:Array Oper} {o:Oper} {a:Act} {w:World} {K:Act→World→Prop} {Q:Exit→Act→World→Prop} {E:Prop}
 (hg:o.guard=none) (s x:Operand) (t:TypeId) (hop:o.op=Op.call { callee:=Callee.builtin Builtin.append,args:=#[s,x],argTypes:=#[t,t] })
 (base:Nat) (e:TypeId) (i:TypeInfo) (z:Value) (size bytes:Nat) (h1:P.underlying t=some (.slice e)) (h2:P.info? e=some i) (h3:i.zero=some z) (h4:i.size=size) (h5:i.bytes=bytes) (h6:z.cells.size=size) (h7:0<size)
 (v:Value) (n:Nat) (xs:List Value) (hs:a.eval s=v) (hown:w.ownsRow base e size v n xs)
 (ad:Addr) (m c:Nat) (news:List Value) (hx:a.eval x=.slice (some ad) m c) (hn:news.length=m * size) (hc:∀j u,news[j]?=some u→w.cell? (ad.add j)=some u) (h1c:∀u∈news,u.oneCell'=true)
 (b1:n+m≤maxLen) (b2:(n+m) * bytes≤140737488355328) (hbase:base≤w.heap.size)
 (hK:∀v' w',w'.ownsRow base e size v' (n+m) (xs++news)→w.grownBy w' v.ownBlock→(v'.ownBlock=v.ownBlock∨v'.ownBlock=some w.heap.size)→K (a.put o.dst v') w'):
 if Region.wanted o (yielded ops a.tmps)=true then Oper.wp P o a w K Q else E:=by
 have hw:Region.wanted o (yielded ops a.tmps)=true:=by simp[Region.wanted,hg]
 rw[if_pos hw]
 obtain⟨v',w',hrun,r2,r3,_,r5⟩:=run_append_own_at (P:=P) w base t o.type e i z size bytes h1 h2 h3 h4 h5 h6 h7 v n xs hown ad m c news hn hc h1c b1 b2 hbase
 unfold Oper.wp
 simp[execOp,hop,resolve,invoke,builtin,hs,hx,hrun,Result.andThen]
 exact hK v' w' r2 r3 r5
theorem rng_get {n k:Nat} (h:k<n):(rng n)[k]?=some (k:Int):=by simp[rng,h]
theorem sorted_rng {q:List Int} {m:Nat}:permB q m=true↔q.length=m∧∀k:Nat,k<q.length→(q.mergeSort fun x y=>decide (x≤y))[k]?=some (k:Int):=by
 have hp:=List.mergeSort_perm q (fun x y=>decide (x≤y))
 constructor
 ·intro h
  have hl:=perm_len h
  refine⟨hl,fun k hk=>?_⟩
  have h1:(q.mergeSort fun x y=>decide (x≤y)).Perm (rng m):=hp.trans (of_decide_eq_true h)
  have h2:(q.mergeSort fun x y=>decide (x≤y))=rng m:=by
   refine List.Perm.eq_of_pairwise (le:=fun x y:Int=>x≤y) (fun a b _ _ h1 h2=>by omega) ?_ ?_ h1
   ·have:=List.pairwise_mergeSort (le:=fun x y:Int=>decide (x≤y)) (fun a b c h1 h2=>by simp at *;omega) (fun a b=>by simp;omega) q
    exact this.imp (fun h=>by simpa using h)
   ·unfold rng
    rw[List.pairwise_map]
    exact List.pairwise_lt_range.imp (fun h=>by omega)
  rw[h2]
  exact rng_get (by omega)
 ·rintro ⟨hl,h⟩
  have h2:(q.mergeSort fun x y=>decide (x≤y))=rng m:=by
   apply Xv
   intro k
   by_cases hk:k<q.length
   ·rw[h k hk,rng_get (by omega)]
   ·rw[Xy (by rw[List.length_mergeSort];omega),Xy (by rw[rng_length];omega)]
  exact decide_eq_true (hp.symm.trans (by rw[h2]))
end
end Go.Proofs.YteembinfgbapgaaGreat
