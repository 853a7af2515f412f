/- Merged out of: Nf Ng. -/
import Derived.Test.YteembinfgbapgaaGreatC00
import Derived.Test.YteembinfgbapgaaGreatC15
import Derived.Maps.AppendAt
import Derived.BigRegion
set_option linter.unusedSimpArgs false
set_option linter.unusedVariables false
set_option maxRecDepth 100000
set_option maxHeartbeats 8000000
namespace Go.Proofs.YteembinfgbapgaaGreat
section
open Go.RowKit Go.Lib
theorem OBox.grown {w w':World} {b:Nat} {cs:List Value} {T:TypeId} {row:Option Nat} (h:OBox w b cs T) (hg:w.grownBy w' row) (hn:some b≠row):OBox w' b cs T:=(hg.block b h.lt hn).trans h
theorem own_grown {w w':World} {base:Nat} {e:TypeId} {size n:Nat} {v:Value} {xs:List Value} {row:Option Nat} (h:w.ownsRow base e size v n xs) (hg:w.grownBy w' row) (hn:∀g,v.ownBlock=some g→some g≠row):w'.ownsRow base e size v n xs:=
 own_keep h fun g hk=>hg.block g (own_lt h g hk) (hn g hk)
theorem RdB.grown {b:Nat} {w w':World} {A:Option Addr} {cs:List Value} {row:Option Nat} (h:RdB b w A cs) (hg:w.grownBy w' row) (hb:b≤w.heap.size) (hn:∀g,row=some g→b≤g):RdB b w' A cs:=
 h.below ((Jy b w).grown hg hb hn)
def chL (c:Ch) (qv:Value):List Value:=[.int .i64 c.op,.string c.s,.string c.g.s,.int .i64 c.g.k,.int .i64 c.g.l,.int .i64 c.d.k,.int .u64 c.d.b,.string c.d.t,qv]
def CBox (w:World) (b:Nat) (c:Ch) (qv:Value) (T:TypeId):Prop:=OBox w b (chL c qv) T
theorem CBox.c9 {w:World} {b:Nat} {c:Ch} {qv:Value} {T:TypeId} (h:CBox w b c qv T):w.cell? ⟨b,0,none⟩=some (.int .i64 c.op)∧w.cell? ⟨b,1,none⟩=some (.string c.s)∧w.cell? ⟨b,2,none⟩=some (.string c.g.s)∧w.cell? ⟨b,3,none⟩=some (.int .i64 c.g.k)∧w.cell? ⟨b,4,none⟩=some (.int .i64 c.g.l)∧
 w.cell? ⟨b,5,none⟩=some (.int .i64 c.d.k)∧w.cell? ⟨b,6,none⟩=some (.int .u64 c.d.b)∧w.cell? ⟨b,7,none⟩=some (.string c.d.t)∧w.cell? ⟨b,8,none⟩=some qv:=
 ⟨OBox.cell h rfl,OBox.cell h rfl,OBox.cell h rfl,OBox.cell h rfl,OBox.cell h rfl,OBox.cell h rfl,OBox.cell h rfl,OBox.cell h rfl,OBox.cell h rfl⟩
theorem CBox.below {w w1:World} {b:Nat} {c:Ch} {qv:Value} {T:TypeId} (h:CBox w b c qv T) (hb:Below w.heap.size w w1):CBox w1 b c qv T:=OBox.below h hb
structure Only (r2 r3:Option Nat) (w w':World):Prop where
 os:w'.os=w.os
 tape:w'.tape=w.tape
 output:w'.output=w.output
 size:w.heap.size≤w'.heap.size
 block:∀k,k<w.heap.size→some k≠r2→some k≠r3→w'.heap[k]?=w.heap[k]?
theorem Only.of {r2 r3:Option Nat} {w w':World} (h:Below w.heap.size w w'):Only r2 r3 w w':=⟨h.os,h.tape,h.output,h.size,fun k hk _ _=>h.block k hk⟩
theorem Only.low {r2 r3:Option Nat} {w w':World} {B:Nat} (h:Only r2 r3 w w') (hB:B≤w.heap.size) (h2:∀g,r2=some g→B≤g) (h3:∀g,r3=some g→B≤g):Below B w w':=
 ⟨h.os,h.tape,h.output,h.size,fun k hk=>h.block k (by omega) (fun e=>by have:=h2 k e.symm;omega) (fun e=>by have:=h3 k e.symm;omega)⟩
theorem Only.grown {r2 r3 row:Option Nat} {w W W':World} (h:Only r2 r3 w W) (hg:W.grownBy W' row) (hr:row=r2∨row=r3):Only r2 r3 w W':=
 ⟨hg.os.trans h.os,hg.tape.trans h.tape,hg.output.trans h.output,Q7 h.size hg.size,fun k hk n2 n3=>(hg.block k (by have:=h.size;omega) (by rcases hr with e|e <;> rw[e] <;> assumption)).trans (h.block k hk n2 n3)⟩
theorem Only.seq {r2 r3:Option Nat} {w W W':World} (h:Only r2 r3 w W) (hb:Below W.heap.size W W'):Only r2 r3 w W':=
 ⟨hb.os.trans h.os,hb.tape.trans h.tape,hb.output.trans h.output,Q7 h.size hb.size,fun k hk n2 n3=>(hb.block k (by have:=h.size;omega)).trans (h.block k hk n2 n3)⟩
theorem Only.setCell {r2 r3:Option Nat} {w W:World} (h:Only r2 r3 w W) {p:Addr} (hp:w.heap.size≤p.block) (u:Value):Only r2 r3 w (W.setCell p u):=
 ⟨h.os,h.tape,h.output,by simpa[World.setCell] using h.size,fun k hk n2 n3=>(J5 _ _ _ _ (by omega)).trans (h.block k hk n2 n3)⟩
theorem Only.then {r2 r3:Option Nat} {w W W':World} (h:Only r2 r3 w W) (hb:Only r2 r3 W W'):Only r2 r3 w W':=
 ⟨hb.os.trans h.os,hb.tape.trans h.tape,hb.output.trans h.output,Q7 h.size hb.size,fun k hk n2 n3=>(hb.block k (by have:=h.size;omega) n2 n3).trans (h.block k hk n2 n3)⟩
theorem OBox.only {r2 r3:Option Nat} {w w':World} {b:Nat} {cs:List Value} {T:TypeId} (h:OBox w b cs T) (ho:Only r2 r3 w w') (n2:some b≠r2) (n3:some b≠r3):OBox w' b cs T:=(ho.block b h.lt n2 n3).trans h
def RdP (P:Nat→Prop) (w:World) (A:Option Addr) (cs:List Value):Prop:=cs≠[]→∃ad,A=some ad∧P ad.block∧∀j u,cs[j]?=some u→w.cell? (ad.add j)=some u
theorem RdP.rd {P:Nat→Prop} {w:World} {A:Option Addr} {cs:List Value} (h:RdP P w A cs):Rd w A cs:=fun hn=>by
 obtain⟨ad,e,_,hc⟩:=h hn;exact⟨ad,e,hc⟩
theorem RdP.keep {P:Nat→Prop} {w w':World} {A:Option Addr} {cs:List Value} (h:RdP P w A cs) (hk:∀k,P k→w'.heap[k]?=w.heap[k]?):RdP P w' A cs:=fun hn=>by
 obtain⟨ad,e,hp,hc⟩:=h hn
 refine⟨ad,e,hp,fun j u hj=>(World.cell?_of_block ?_).trans (hc j u hj)⟩
 have:(ad.add j).block=ad.block:=by unfold Addr.add;split <;> rfl
 rw[this];exact hk _ hp
theorem RdP.mono {P Q:Nat→Prop} {w:World} {A:Option Addr} {cs:List Value} (h:RdP P w A cs) (hq:∀k,P k→Q k):RdP Q w A cs:=fun hn=>by
 obtain⟨ad,e,hp,hc⟩:=h hn;exact⟨ad,e,hq _ hp,hc⟩
theorem RdP.mk {P:Nat→Prop} {w:World} {A:Option Addr} {cs:List Value} (h:Rd w A cs) (hp:∀ad,A=some ad→P ad.block):RdP P w A cs:=fun hn=>by
 obtain⟨ad,e,hc⟩:=h hn;exact⟨ad,e,hp ad e,hc⟩
def TVP (P:Nat→Prop) (w:World) (v:Value) (t:Tb):Prop:=∃A c B d C e,v=.agg #[.slice A t.o.length c,.slice B t.n.length d,.slice C t.m.length e]∧t.n.length≤d∧RdP P w A (cellsF t.o)∧RdP P w B (cellsF t.n)∧RdP P w C (cellsM t.m)
theorem TVP.keep {P:Nat→Prop} {w w':World} {v:Value} {t:Tb} (h:TVP P w v t) (hk:∀k,P k→w'.heap[k]?=w.heap[k]?):TVP P w' v t:=by
 obtain⟨A,c,B,d,C,e,hv,hd,h0,h1,h2⟩:=h
 exact⟨A,c,B,d,C,e,hv,hd,h0.keep hk,h1.keep hk,h2.keep hk⟩
theorem TVP.mono {P Q:Nat→Prop} {w:World} {v:Value} {t:Tb} (h:TVP P w v t) (hq:∀k,P k→Q k):TVP Q w v t:=by
 obtain⟨A,c,B,d,C,e,hv,hd,h0,h1,h2⟩:=h
 exact⟨A,c,B,d,C,e,hv,hd,h0.mono hq,h1.mono hq,h2.mono hq⟩
def StepP (r2 r3:Option Nat) (P:Nat→Prop) (t:Tb) (code:Int) (w:World) (e:Ending) (w':World):Prop:=
 ∃A na ca B nb cb C nc cc,e=.returned (.tuple #[.agg #[.slice A na ca,.slice B nb cb,.slice C nc cc],.int .i64 code])∧(code=0→TVP P w' (.agg #[.slice A na ca,.slice B nb cb,.slice C nc cc]) t)∧Only r2 r3 w w'
theorem own_P {w:World} {P:Nat→Prop} {base n c:Nat} {e:TypeId} {K:Nat} {A:Option Addr} {xs:List Value} (h:w.ownsRow base e K (.slice A n c) n xs) (hp:∀g,(Value.slice A n c).ownBlock=some g→P g):RdP P w A xs:=by
 obtain⟨A',c',e1,_,_,hr⟩:=own_rd h
 cases e1
 exact RdP.mk hr fun ad e=>hp _ (by rw[e];rfl)
theorem own_TV {w:World} {P:Nat→Prop} {A:Option Addr} {m c n k b b':Nat} {v2 v3:Value} {t:Tb} (hm:t.o.length=m) (R:Rd w A (cellsF t.o)) (hp:∀ad,A=some ad→P ad.block) (o2:w.ownsRow b 68 3 v2 n (cellsF t.n)) (hn:t.n.length=n) (p2:∀g,v2.ownBlock=some g→P g)
 (o3:w.ownsRow b' 137 4 v3 k (cellsM t.m)) (hk:t.m.length=k) (p3:∀g,v3.ownBlock=some g→P g):TVP P w (.agg #[.slice A m c,v2,v3]) t:=by
 subst hm hn hk
 obtain⟨B,d,rfl,hd,_,_⟩:=own_rd o2
 obtain⟨C,e,rfl,_,_,_⟩:=own_rd o3
 exact⟨A,c,B,d,C,e,rfl,hd,RdP.mk R hp,own_P o2 p2,own_P o3 p3⟩
theorem adds_no (l:List Fd) (c:Ch) (m:Nat) (hm:l.length=m) (h16:m≤16) (B:Option Addr) (d b1 b2:Nat) (v2 v3 qv:Value) (w:World) (h1:b1≤b2) (h2:b2≤w.heap.size) (R1:RdB b1 w B (cellsF l)) (own2:w.ownsRow b1 68 3 v2 m (cellsF l)) (lt2:OwnLt b2 v2) (own3:w.ownsRow b2 137 4 v3 m (cellsM (kM m))) (P:Nat→Prop) (hP1:∀ad,B=some ad→P ad.block) (hP2:∀g,v2.ownBlock=some g→P g) (hP3:∀g,v3.ownBlock=some g→P g) (hPn:∀g,w.heap.size≤g→P g) (x0:0≤c.d.b) (x1:c.d.b<18446744073709551616) (hr:rightB c.d.k c.d.b c.d.t c.g.k c.g.l=false):
 Calls Tryz.prog 135 #[.agg #[.slice B m d,v2,v3],.agg #[.int .i64 c.op,.string c.s,.string c.g.s,.int .i64 c.g.k,.int .i64 c.g.l,.int .i64 c.d.k,.int .u64 c.d.b,.string c.d.t,qv]] w fun e w'=>StepP v2.ownBlock v3.ownBlock P Tb.z 80 w e w':=by
 obtain⟨B2,d2,rfl,hd2,hmx2,rd2⟩:=own_rd own2
 obtain⟨B3,d3,rfl,hd3,hmx3,rd3⟩:=own_rd own3
 have bb1:=below_new (w:=w) (.cells #[.slice B m d,.slice B2 m d2,.slice B3 m d3] 96)
 have bb2:=below_new (w:=w.alloc (.cells #[.slice B m d,.slice B2 m d2,.slice B3 m d3] 96)) (.cells #[.int .i64 c.op,.string c.s,.string c.g.s,.int .i64 c.g.k,.int .i64 c.g.l,.int .i64 c.d.k,.int .u64 c.d.b,.string c.d.t,qv] 76)
 have bb3:=below_new (w:=(w.alloc (.cells #[.slice B m d,.slice B2 m d2,.slice B3 m d3] 96)).alloc (.cells #[.int .i64 c.op,.string c.s,.string c.g.s,.int .i64 c.g.k,.int .i64 c.g.l,.int .i64 c.d.k,.int .u64 c.d.b,.string c.d.t,qv] 76)) (.cells #[.slice none 0 0,.slice none 0 0,.slice none 0 0] 96)
 have T1:=((OBox.new w [.slice B m d,.slice B2 m d2,.slice B3 m d3] 96).below bb2).below bb3
 have C1:CBox _ _ c qv 76:=(OBox.new (w.alloc (.cells #[.slice B m d,.slice B2 m d2,.slice B3 m d3] 96)) (chL c qv) 76).below bb3
 have N1:=OBox.new ((w.alloc (.cells #[.slice B m d,.slice B2 m d2,.slice B3 m d3] 96)).alloc (.cells #[.int .i64 c.op,.string c.s,.string c.g.s,.int .i64 c.g.k,.int .i64 c.g.l,.int .i64 c.d.k,.int .u64 c.d.b,.string c.d.t,qv] 76)) [.slice none 0 0,.slice none 0 0,.slice none 0 0] 96
 have HB:=below_seq (below_seq bb1 bb2) bb3
 rw[Jq] at C1
 rw[Jq,Jq] at N1
 obtain⟨i1,i2,i3,j1,j2,j3⟩:=T1.f3
 obtain⟨n1,n2,n3,o1,o2,o3⟩:=N1.f3
 obtain⟨a0,a1,a2,a3,a4,a5,a6,a7,a8⟩:=C1.c9
 have HM:=J0 hm
 have HP1:=J0 hP1
 have HP2:=J0 hP2
 have HP3:=J0 hP3
 have HPN:=J0 hPn
 clear hm bb1 bb2 bb3 hP1 hP2 hP3 hPn
 have HR:=J0 hr
 clear hr
 go_enter Tryz.func135,Tryz.ntmps135
 go_wp2_with (go_at_call 95;refine(Right_is c.d.k c.d.b c.d.t c.g.s c.g.k c.g.l x0 x1 false HR.out _).mono ?_;rintro e wM ⟨rfl,hb⟩;replace HB:=HB.trans (hb.mono HB.size);replace T1:=T1.below hb;replace N1:=N1.below hb;clear hb i1 i2 i3 j1 j2 j3 n1 n2 n3 o1 o2 o3 a0 a1 a2 a3 a4 a5 a6 a7 a8;obtain⟨i1,i2,i3,j1,j2,j3⟩:=T1.f3;obtain⟨n1,n2,n3,o1,o2,o3⟩:=N1.f3)
 refine bodyPost_ret (v:=.tuple #[.agg #[.slice B m d,.slice B2 m d2,.slice B3 m d3],.int .i64 80]) (by simp[results,Tryz.results135,go_sem, *];done) rfl ⟨_,_,_,_,_,_,_,_,_,rfl,fun h=>absurd h (by decide),Only.of ?_⟩
 (repeat (first|exact HB|refine J8 ?_ (by dsimp only;omega) _|refine Jk ?_ (by have hs_:=HB.size;first|(simp;done)|(simp;omega)|omega) _|apply Jv))
theorem adds_yes (l:List Fd) (c:Ch) (m:Nat) (hm:l.length=m) (h16:m≤16) (B:Option Addr) (d b1 b2:Nat) (v2 v3 qv:Value) (w:World) (h1:b1≤b2) (h2:b2≤w.heap.size) (R1:RdB b1 w B (cellsF l)) (own2:w.ownsRow b1 68 3 v2 m (cellsF l)) (lt2:OwnLt b2 v2) (own3:w.ownsRow b2 137 4 v3 m (cellsM (kM m))) (P:Nat→Prop) (hP1:∀ad,B=some ad→P ad.block) (hP2:∀g,v2.ownBlock=some g→P g) (hP3:∀g,v3.ownBlock=some g→P g) (hPn:∀g,w.heap.size≤g→P g) (x0:0≤c.d.b) (x1:c.d.b<18446744073709551616) (hr:rightB c.d.k c.d.b c.d.t c.g.k c.g.l=true):
 Calls Tryz.prog 135 #[.agg #[.slice B m d,v2,v3],.agg #[.int .i64 c.op,.string c.s,.string c.g.s,.int .i64 c.g.k,.int .i64 c.g.l,.int .i64 c.d.k,.int .u64 c.d.b,.string c.d.t,qv]] w fun e w'=>StepP v2.ownBlock v3.ownBlock P ⟨l,l++[c.g],kM m++[⟨-1,c.d⟩]⟩ 0 w e w':=by
 obtain⟨iF,hiF,hzF0,hzF1,hzF2⟩:=info_parts infoFd
 obtain⟨iM,hiM,hzM0,hzM1,hzM2⟩:=info_parts infoMv
 obtain⟨B2,d2,rfl,hd2,hmx2,rd2⟩:=own_rd own2
 obtain⟨B3,d3,rfl,hd3,hmx3,rd3⟩:=own_rd own3
 have bb1:=below_new (w:=w) (.cells #[.slice B m d,.slice B2 m d2,.slice B3 m d3] 96)
 have bb2:=below_new (w:=w.alloc (.cells #[.slice B m d,.slice B2 m d2,.slice B3 m d3] 96)) (.cells #[.int .i64 c.op,.string c.s,.string c.g.s,.int .i64 c.g.k,.int .i64 c.g.l,.int .i64 c.d.k,.int .u64 c.d.b,.string c.d.t,qv] 76)
 have bb3:=below_new (w:=(w.alloc (.cells #[.slice B m d,.slice B2 m d2,.slice B3 m d3] 96)).alloc (.cells #[.int .i64 c.op,.string c.s,.string c.g.s,.int .i64 c.g.k,.int .i64 c.g.l,.int .i64 c.d.k,.int .u64 c.d.b,.string c.d.t,qv] 76)) (.cells #[.slice none 0 0,.slice none 0 0,.slice none 0 0] 96)
 have T1:=((OBox.new w [.slice B m d,.slice B2 m d2,.slice B3 m d3] 96).below bb2).below bb3
 have C1:CBox _ _ c qv 76:=(OBox.new (w.alloc (.cells #[.slice B m d,.slice B2 m d2,.slice B3 m d3] 96)) (chL c qv) 76).below bb3
 have N1:=OBox.new ((w.alloc (.cells #[.slice B m d,.slice B2 m d2,.slice B3 m d3] 96)).alloc (.cells #[.int .i64 c.op,.string c.s,.string c.g.s,.int .i64 c.g.k,.int .i64 c.g.l,.int .i64 c.d.k,.int .u64 c.d.b,.string c.d.t,qv] 76)) [.slice none 0 0,.slice none 0 0,.slice none 0 0] 96
 have HB:=below_seq (below_seq bb1 bb2) bb3
 rw[Jq] at C1
 rw[Jq,Jq] at N1
 obtain⟨i1,i2,i3,j1,j2,j3⟩:=T1.f3
 obtain⟨n1,n2,n3,o1,o2,o3⟩:=N1.f3
 obtain⟨a0,a1,a2,a3,a4,a5,a6,a7,a8⟩:=C1.c9
 have HM:=J0 hm
 have HP1:=J0 hP1
 have HP2:=J0 hP2
 have HP3:=J0 hP3
 have HPN:=J0 hPn
 clear hm bb1 bb2 bb3 hP1 hP2 hP3 hPn
 have HR:=J0 hr
 have l2:=own_lt own2
 have l3:=own_lt own3
 clear hr
 go_enter Tryz.func135,Tryz.ntmps135
 go_wp2_with (first
  |(go_at_call 95;refine(Right_is c.d.k c.d.b c.d.t c.g.s c.g.k c.g.l x0 x1 true HR.out _).mono ?_;rintro e wM ⟨rfl,hb⟩;replace HB:=HB.trans (hb.mono HB.size);replace T1:=T1.below hb;replace C1:=C1.below hb;replace N1:=N1.below hb;clear hb i1 i2 i3 j1 j2 j3 n1 n2 n3 o1 o2 o3 a0 a1 a2 a3 a4 a5 a6 a7 a8;obtain⟨i1,i2,i3,j1,j2,j3⟩:=T1.f3;obtain⟨a0,a1,a2,a3,a4,a5,a6,a7,a8⟩:=C1.c9;have ow2:=own_below own2 HB;have ow3:=own_below own3 HB;have R2:=R1.below (HB.mono (Q7 h1 h2));clear own2 own3 R1;have zz:=N1.lt;have nf:=below_new (w:=wM) (.cells #[.string c.g.s,.int .i64 c.g.k,.int .i64 c.g.l] 68);have T2:=T1.below nf;obtain⟨p1,p2,p3,q1,q2,q3⟩:=T2.f3)
  |(at_builtin;refine wpList_append_own_at _ rfl _ _ 27 rfl b1 68 iF (.agg #[.string ⟨#[]⟩,.int .i64 0,.int .i64 0]) 3 32 Tryz.underlying27 hiF hzF0 hzF1 hzF2 rfl (by decide) _ _ _ rfl (own_below ow2 nf) ⟨wM.heap.size,0,none⟩ 1 1 [.string c.g.s,.int .i64 c.g.k,.int .i64 c.g.l] rfl rfl ?c1 ?c2 ?c3 ?c4 ?c5 ?_))
 case c1=>exact news3 _ _ _ _ _
 case c2=>intro u hu;simp at hu;rcases hu with rfl|rfl|rfl <;> rfl
 case c3=>simp only[maxLen];omega
 case c4=>omega
 case c5=>have:=nf.size;omega
 intro v' W2 ow2' hg2 _ hat2
 have T3:=T2.grown hg2 (by intro e;have:=l2 _ e.symm;omega)
 have C3:CBox W2 (w.heap.size+1) c qv 76:=OBox.grown (C1.below nf) hg2 (by intro e;have:=l2 _ e.symm;omega)
 have N3:=(N1.below nf).grown hg2 (by intro e;have:=l2 _ e.symm;omega)
 have ow3':=own_grown (own_below ow3 nf) hg2 (by intro g hg e;have h5:=lt2 _ e.symm;have h6:=own_base ow3 g hg;omega)
 have R3:=(R2.below (nf.mono (by have:=HB.size;omega))).grown hg2 (by have:=nf.size;have:=HB.size;omega) (fun g hg=>own_base ow2 g hg)
 have HB2:Only (Value.slice B2 m d2).ownBlock (Value.slice B3 m d3).ownBlock w W2:=((Only.of HB).seq nf).grown hg2 (.inl rfl)
 have z2:wM.heap.size+1≤W2.heap.size:=by have:=hg2.size;simpa using this
 have lv':∀g,v'.ownBlock=some g→g<b2∨wM.heap.size<g:=by
  intro g hg
  rcases hat2 with h|h
  ·exact .inl (lt2 g (by rw[←h];exact hg))
  ·rw[hg] at h;have h:=Jj h;(try simp at h);right;omega
 have pv':Hid (∀g,v'.ownBlock=some g→P g):=J0 (by
  intro g hg
  rcases hat2 with h|h
  ·exact HP2.out g (by rw[←h];exact hg)
  ·rw[hg] at h;have h:=Jj h;(try simp at h);exact HPN.out g (by omega))
 clear nf T2 T1 C1 N1 ow2 ow3 R2 HB hg2 hat2 i1 i2 i3 j1 j2 j3 a0 a1 a2 a3 a4 a5 a6 a7 a8 p1 p2 p3 q1 q2 q3
 obtain⟨i1,i2,i3,j1,j2,j3⟩:=T3.f3
 obtain⟨B2',d2',rfl,hd2',hmx2',rd2'⟩:=own_rd ow2'
 have T4:=obox_set T3 1 (.slice B2' (m+1) d2')
 have C4:CBox (W2.setCell ⟨w.heap.size,1,none⟩ (.slice B2' (m+1) d2')) (w.heap.size+1) c qv 76:=(J5 _ _ _ _ (by show _≠_;simp)).trans C3
 have N4:OBox (W2.setCell ⟨w.heap.size,1,none⟩ (.slice B2' (m+1) d2')) (w.heap.size+2) _ 96:=(J5 _ _ _ _ (by show _≠_;simp)).trans N3
 have ow2s:=own_keep (w1:=W2.setCell ⟨w.heap.size,1,none⟩ (.slice B2' (m+1) d2')) ow2' (fun g hg=>J5 _ _ _ _ (by show g≠w.heap.size;have:=lv' g hg;omega))
 have ow3s:=own_keep (w1:=W2.setCell ⟨w.heap.size,1,none⟩ (.slice B2' (m+1) d2')) ow3' (fun g hg=>J5 _ _ _ _ (by show g≠w.heap.size;have:=l3 g hg;omega))
 have R4:=R3.below ((Jy b1 W2).setCell (p:=⟨w.heap.size,1,none⟩) (by show b1≤w.heap.size;omega) (.slice B2' (m+1) d2'))
 have HB4:=HB2.setCell (p:=⟨w.heap.size,1,none⟩) (J9 _) (.slice B2' (m+1) d2')
 have z4:Hid (W2.heap.size=(W2.setCell ⟨w.heap.size,1,none⟩ (.slice B2' (m+1) d2')).heap.size):=J0 (by simp)
 have NM:=below_new (w:=W2.setCell ⟨w.heap.size,1,none⟩ (.slice B2' (m+1) d2')) (.cells #[.int .i64 (-1),.int .i64 c.d.k,.int .u64 c.d.b,.string c.d.t] 137)
 obtain⟨a0,a1,a2,a3,a4,a5,a6,a7,a8⟩:=C4.c9
 obtain⟨p1,p2,p3,q1,q2,q3⟩:=T4.f3
 obtain⟨s1,s2,s3,u1,u2,u3⟩:=(T4.below NM).f3
 go_wp2_with (at_builtin;refine wpList_append_own_at _ rfl _ _ 94 rfl b2 137 iM (.agg #[.int .i64 0,.int .i64 0,.int .u64 0,.string ⟨#[]⟩]) 4 40 Tryz.underlying94 hiM hzM0 hzM1 hzM2 rfl (by decide) _ _ _ rfl (own_below ow3s NM) ⟨W2.heap.size,0,none⟩ 1 1 [.int .i64 (-1),.int .i64 c.d.k,.int .u64 c.d.b,.string c.d.t] rfl rfl ?c1 ?c2 ?c3 ?c4 ?c5 ?_)
 case c1=>rw[z4.out];exact news4 _ _ _ _ _ _
 case c2=>intro u hu;simp at hu;rcases hu with rfl|rfl|rfl|rfl <;> rfl
 case c3=>simp only[maxLen];omega
 case c4=>omega
 case c5=>simp;omega
 intro v'' W5 ow3x hg5 _ hat5
 have T5:=(T4.below NM).grown hg5 (by intro e;have:=l3 _ e.symm;omega)
 have N5:=(N4.below NM).grown hg5 (by intro e;have:=l3 _ e.symm;omega)
 have ow2x:=own_grown (own_below ow2s NM) hg5 (by intro g hg e;have h5:=lv' g hg;have h6:=own_base ow3s g e.symm;have h7:=l3 g e.symm;omega)
 have nmz:b1≤(W2.setCell ⟨w.heap.size,1,none⟩ (.slice B2' (m+1) d2')).heap.size:=by rw[←z4.out];omega
 have R5:=(R4.below (NM.mono nmz)).grown hg5 (by have:=NM.size;omega) (fun g hg=>Q7 h1 (own_base ow3s g hg))
 have HB5:=(HB4.seq NM).grown hg5 (.inr rfl)
 have lw':∀g,v''.ownBlock=some g→g<w.heap.size∨wM.heap.size<g:=by
  intro g hg
  rcases hat5 with h|h
  ·exact .inl (l3 g (by rw[←h];exact hg))
  ·rw[hg] at h;have h:=Jj h;(try simp at h);right;omega
 have pw':Hid (∀g,v''.ownBlock=some g→P g):=J0 (by
  intro g hg
  rcases hat5 with h|h
  ·exact HP3.out g (by rw[←h];exact hg)
  ·rw[hg] at h;have h:=Jj h;(try simp at h);exact HPN.out g (by omega))
 obtain⟨B3',d3',rfl,hd3',hmx3',rd3'⟩:=own_rd ow3x
 clear i1 i2 i3 j1 j2 j3 a0 a1 a2 a3 a4 a5 a6 a7 a8 p1 p2 p3 q1 q2 q3 s1 s2 s3 u1 u2 u3
 obtain⟨i1,i2,i3,j1,j2,j3⟩:=T5.f3
 obtain⟨n1,n2,n3,o1,o2,o3⟩:=N5.f3
 go_wp2
 refine bodyPost_ret (v:=.tuple #[.agg #[.slice B m d,.slice B2' (m+1) d2',.slice B3' (m+1) d3'],.int .i64 0]) (by simp[results,Tryz.results135,go_sem, *];done) rfl ⟨_,_,_,_,_,_,_,_,_,rfl,fun _=>?_,?_⟩
 ·refine own_TV (t:=⟨l,l++[c.g],kM m++[⟨-1,c.d⟩]⟩) HM.out (RdB.rd (R5.below ?_)) HP1.out (own_eq (own_keep ow2x fun g hg=>?_) rfl (by simp[cellsF])) (by simp[HM.out]) pv'.out (own_eq (own_keep ow3x fun g hg=>?_) rfl (by simp[cellsM])) (by simp[kM_length]) pw'.out
  ·exact((((Jy b1 W5).setCell (by show b1≤w.heap.size;omega) _).setCell (by show b1≤w.heap.size+2;omega) _).setCell (by show b1≤w.heap.size+2;omega) _).setCell (by show b1≤w.heap.size+2;omega) _
  ·have h:=lv' g hg
   exact(J5 _ _ _ _ (by show g≠w.heap.size+2;omega)).trans ((J5 _ _ _ _ (by show g≠w.heap.size+2;omega)).trans ((J5 _ _ _ _ (by show g≠w.heap.size+2;omega)).trans (J5 _ _ _ _ (by show g≠w.heap.size;omega))))
  ·have h:=lw' g hg
   exact(J5 _ _ _ _ (by show g≠w.heap.size+2;omega)).trans ((J5 _ _ _ _ (by show g≠w.heap.size+2;omega)).trans ((J5 _ _ _ _ (by show g≠w.heap.size+2;omega)).trans (J5 _ _ _ _ (by show g≠w.heap.size;omega))))
 ·exact(((HB5.setCell (J9 _) _).setCell (by show w.heap.size≤w.heap.size+2;omega) _).setCell (by show w.heap.size≤w.heap.size+2;omega) _).setCell (by show w.heap.size≤w.heap.size+2;omega) _
theorem cellsF_one {l:List Fd}:∀u∈cellsF l,u.oneCell'=true:=by
 intro u hu
 simp only[cellsF,List.mem_flatMap] at hu
 obtain⟨f,_,hu⟩:=hu
 simp at hu
 rcases hu with rfl|rfl|rfl <;> rfl
theorem cellsM_one {l:List Mv}:∀u∈cellsM l,u.oneCell'=true:=by
 intro u hu
 simp only[cellsM,List.mem_flatMap] at hu
 obtain⟨f,_,hu⟩:=hu
 simp at hu
 rcases hu with rfl|rfl|rfl|rfl <;> rfl
theorem cellsF_take (l:List Fd) (k:Nat):cellsF (l.take k)=(cellsF l).take (k * 3)∧cellsF (l.drop k)=(cellsF l).drop (k * 3):=by
 induction l generalizing k with
 |nil=>simp[cellsF]
 |cons f r ih=>
  cases k with
  |zero=>simp[cellsF]
  |succ k=>
   have e:cellsF (f :: r)=[.string f.s,.int .i64 f.k,.int .i64 f.l]++cellsF r:=by simp[cellsF]
   have e2:cellsF (f :: r.take k)=[.string f.s,.int .i64 f.k,.int .i64 f.l]++cellsF (r.take k):=by simp[cellsF]
   obtain⟨h1,h2⟩:=ih k
   rw[List.take_succ_cons,List.drop_succ_cons,e,e2,h1,h2,show(k+1) * 3=k * 3+1+1+1 by omega]
   simp
theorem cellsM_take (l:List Mv) (k:Nat):cellsM (l.take k)=(cellsM l).take (k * 4)∧cellsM (l.drop k)=(cellsM l).drop (k * 4):=by
 induction l generalizing k with
 |nil=>simp[cellsM]
 |cons f r ih=>
  cases k with
  |zero=>simp[cellsM]
  |succ k=>
   have e:cellsM (f :: r)=[.int .i64 f.f,.int .i64 f.d.k,.int .u64 f.d.b,.string f.d.t]++cellsM r:=by simp[cellsM]
   have e2:cellsM (f :: r.take k)=[.int .i64 f.f,.int .i64 f.d.k,.int .u64 f.d.b,.string f.d.t]++cellsM (r.take k):=by simp[cellsM]
   obtain⟨h1,h2⟩:=ih k
   rw[List.take_succ_cons,List.drop_succ_cons,e,e2,h1,h2,show(k+1) * 4=k * 4+1+1+1+1 by omega]
   simp
theorem cellsF_erase (l:List Fd) (k:Nat):cellsF (l.eraseIdx k)=(cellsF l).take (k * 3)++(cellsF l).drop ((k+1) * 3):=by
 rw[List.eraseIdx_eq_take_drop_succ,cellsF_append,(cellsF_take l k).1,(cellsF_take l (k+1)).2]
theorem cellsM_erase (l:List Mv) (k:Nat):cellsM (l.eraseIdx k)=(cellsM l).take (k * 4)++(cellsM l).drop ((k+1) * 4):=by
 rw[List.eraseIdx_eq_take_drop_succ,cellsM_append,(cellsM_take l k).1,(cellsM_take l (k+1)).2]
theorem cellsF_set (l:List Fd) (k:Nat) (f g:Fd) (hf:l[k]?=some f):cellsF (l.set k g)=(((cellsF l).set (k * 3) (.string g.s)).set (k * 3+1) (.int .i64 g.k)).set (k * 3+2) (.int .i64 g.l):=by
 induction l generalizing k with
 |nil=>simp at hf
 |cons x r ih=>
  have e:cellsF (x :: r)=[.string x.s,.int .i64 x.k,.int .i64 x.l]++cellsF r:=by simp[cellsF]
  cases k with
  |zero=>simp[cellsF]
  |succ k=>
   have e2:cellsF (x :: r.set k g)=[.string x.s,.int .i64 x.k,.int .i64 x.l]++cellsF (r.set k g):=by simp[cellsF]
   rw[J2,e2,ih k (by simpa using hf),e,show(k+1) * 3=k * 3+1+1+1 by omega]
   simp only[List.cons_append,List.nil_append,J2]
theorem own_set {w:World} {base g n c:Nat} {T:TypeId} {K:Nat} {xs:List Value} (h:w.ownsRow base T K (.slice (some ⟨g,0,none⟩) n c) n xs) (j:Nat) (v:Value):(w.setCell ⟨g,j,none⟩ v).ownsRow base T K (.slice (some ⟨g,0,none⟩) n c) n (xs.set j v):=by
 obtain⟨h1,h2⟩:=h
 refine⟨by simp[h1],?_⟩
 rcases h2 with ⟨h,_⟩|⟨g',c',cur,hv,hb,hg,hc,hm,hs,ht⟩
 ·cases h
 ·cases hv
  have h3:(w.setCell ⟨g,j,none⟩ v).heap[g]?=some (.cells (cur.setIfInBounds j v) T (0,0)):=by
   obtain⟨hlt,hk⟩:=Qk.1 hg
   show(w.heap.modify g _)[g]?=_
   rw[Array.getElem?_eq_getElem (by rw[Array.size_modify];exact hlt),Array.getElem_modify_self,hk]
   simp
  refine .inr ⟨g,c,_,rfl,hb,h3,hc,hm,by simp[hs],?_⟩
  rw[Array.toList_setIfInBounds,List.take_set,ht]
theorem own_blk {w:World} {base n:Nat} {T:TypeId} {K:Nat} {v:Value} {xs:List Value} (h:w.ownsRow base T K v n xs) (hn:0<n):∃g c,v=.slice (some ⟨g,0,none⟩) n c∧base≤g∧g<w.heap.size∧n≤c∧c≤maxLen∧∀j u,xs[j]?=some u→w.cell? ⟨g,j,none⟩=some u∧w.frozen? ⟨g,j,none⟩=false:=by
 obtain⟨h1,h2⟩:=h
 rcases h2 with ⟨_,h⟩|⟨g,c,cur,rfl,hb,hg,hc,hm,hs,ht⟩
 ·omega
 ·refine⟨g,c,rfl,hb,(Qk.1 hg).1,hc,hm,fun j u hj=>⟨?_,by simp[World.frozen?,hg]⟩⟩
  rw[←ht,X9] at hj
  split at hj
  ·simp only[World.cell?,hg];simpa using hj
  ·cases hj
theorem grown_of_set {w:World} (g o:Nat) (v:Value):w.grownBy (w.setCell ⟨g,o,none⟩ v) (some g):=⟨rfl,rfl,rfl,by simp[World.setCell],fun k hk hne=>J5 _ _ _ _ (by rintro rfl;exact hne rfl)⟩
theorem drops_m (l:List Fd) (c:Ch) (m:Nat) (hm:l.length=m) (h16:m≤16) (B:Option Addr) (d b1 b2:Nat) (v2 v3 qv:Value) (w:World) (h1:b1≤b2) (h2:b2≤w.heap.size) (R1:RdB b1 w B (cellsF l)) (own2:w.ownsRow b1 68 3 v2 m (cellsF l)) (lt2:OwnLt b2 v2) (own3:w.ownsRow b2 137 4 v3 m (cellsM (kM m))) (P:Nat→Prop) (hP1:∀ad,B=some ad→P ad.block) (hP2:∀g,v2.ownBlock=some g→P g) (hP3:∀g,v3.ownBlock=some g→P g) (hPn:∀g,w.heap.size≤g→P g) (k:Nat) (hk:k<m):
 Calls Tryz.prog 137 #[.agg #[.slice B m d,v2,v3],.agg #[.int .i64 c.op,.string c.s,.string c.g.s,.int .i64 c.g.k,.int .i64 c.g.l,.int .i64 c.d.k,.int .u64 c.d.b,.string c.d.t,qv],.int .i64 k] w fun e w'=>StepP v2.ownBlock v3.ownBlock P ⟨l,l.eraseIdx k,(kM m).eraseIdx k⟩ 0 w e w':=by
 obtain⟨N,rfl⟩:∃N,m=N+1:=⟨m - 1,by omega⟩
 obtain⟨g2,d2,rfl,gb2,gz2,hd2,hmx2,rd2⟩:=own_blk own2 (by omega)
 obtain⟨g3,d3,rfl,gb3,gz3,hd3,hmx3,rd3⟩:=own_blk own3 (by omega)
 have g23:g2<b2:=lt2 g2 rfl
 have bb1:=below_new (w:=w) (.cells #[.slice B (N+1) d,.slice (some ⟨g2,0,none⟩) (N+1) d2,.slice (some ⟨g3,0,none⟩) (N+1) d3] 96)
 have bb2:=below_new (w:=w.alloc (.cells #[.slice B (N+1) d,.slice (some ⟨g2,0,none⟩) (N+1) d2,.slice (some ⟨g3,0,none⟩) (N+1) d3] 96)) (.cells #[.int .i64 c.op,.string c.s,.string c.g.s,.int .i64 c.g.k,.int .i64 c.g.l,.int .i64 c.d.k,.int .u64 c.d.b,.string c.d.t,qv] 76)
 have bb3:=below_new (w:=(w.alloc (.cells #[.slice B (N+1) d,.slice (some ⟨g2,0,none⟩) (N+1) d2,.slice (some ⟨g3,0,none⟩) (N+1) d3] 96)).alloc (.cells #[.int .i64 c.op,.string c.s,.string c.g.s,.int .i64 c.g.k,.int .i64 c.g.l,.int .i64 c.d.k,.int .u64 c.d.b,.string c.d.t,qv] 76)) (.cells #[.slice none 0 0,.slice none 0 0,.slice none 0 0] 96)
 have T1:=((OBox.new w [.slice B (N+1) d,.slice (some ⟨g2,0,none⟩) (N+1) d2,.slice (some ⟨g3,0,none⟩) (N+1) d3] 96).below bb2).below bb3
 have C1:CBox _ _ c qv 76:=(OBox.new (w.alloc (.cells #[.slice B (N+1) d,.slice (some ⟨g2,0,none⟩) (N+1) d2,.slice (some ⟨g3,0,none⟩) (N+1) d3] 96)) (chL c qv) 76).below bb3
 have N1:=OBox.new ((w.alloc (.cells #[.slice B (N+1) d,.slice (some ⟨g2,0,none⟩) (N+1) d2,.slice (some ⟨g3,0,none⟩) (N+1) d3] 96)).alloc (.cells #[.int .i64 c.op,.string c.s,.string c.g.s,.int .i64 c.g.k,.int .i64 c.g.l,.int .i64 c.d.k,.int .u64 c.d.b,.string c.d.t,qv] 76)) [.slice none 0 0,.slice none 0 0,.slice none 0 0] 96
 have HB:=below_seq (below_seq bb1 bb2) bb3
 rw[Jq] at C1
 rw[Jq,Jq] at N1
 obtain⟨i1,i2,i3,j1,j2,j3⟩:=T1.f3
 obtain⟨n1,n2,n3,o1,o2,o3⟩:=N1.f3
 obtain⟨a0,a1,a2,a3,a4,a5,a6,a7,a8⟩:=C1.c9
 have HM:=J0 hm
 have HP1:=J0 hP1
 have HP2:=J0 hP2
 have HP3:=J0 hP3
 have HPN:=J0 hPn
 clear hm bb1 bb2 bb3 hP1 hP2 hP3 hPn
 have ow2:=own_below own2 HB
 have ow3:=own_below own3 HB
 have R2:=R1.below (HB.mono (Q7 h1 h2))
 have hkn:k≤N:=by omega
 have hk1:(k:Int)+1≤17:=by omega
 have zz:=N1.lt
 clear own2 own3 R1 C1 a0 a1 a2 a3 a4 a5 a6 a7 a8 rd2 rd3
 go_enter Tryz.func137,Tryz.ntmps137
 go_wp2_with (go_at_call 162;refine(DeleteF_m b1 g2 d2 N k _ _ ow2 cellsF_one hkn).mono ?_)
 rintro e W2 ⟨rfl,ox2,gr2⟩
 have HB2:Only (some g2) (some g3) w W2:=(Only.of HB).grown gr2 (.inl rfl)
 have T2:=T1.grown gr2 (by intro e;cases e;omega)
 have N2:=N1.grown gr2 (by intro e;cases e;omega)
 have ox3:=own_grown ow3 gr2 (by intro g hg e;cases e;have:=own_base ow3 g2 hg;omega)
 have R3:=R2.grown gr2 (by have:=HB.size;omega) (fun g hg=>by cases hg;exact gb2)
 have z2:=gr2.size
 clear ow2 ow3 R2 HB T1 N1 gr2 i1 i2 i3 j1 j2 j3 n1 n2 n3 o1 o2 o3
 obtain⟨i1,i2,i3,j1,j2,j3⟩:=T2.f3
 have T3:=obox_set T2 1 (.slice (some ⟨g2,0,none⟩) N d2)
 have N3:OBox (W2.setCell ⟨w.heap.size,1,none⟩ (.slice (some ⟨g2,0,none⟩) N d2)) (w.heap.size+2) _ 96:=(J5 _ _ _ _ (by show _≠_;simp)).trans N2
 have oy2:=own_keep (w1:=W2.setCell ⟨w.heap.size,1,none⟩ (.slice (some ⟨g2,0,none⟩) N d2)) ox2 (fun g hg=>J5 _ _ _ _ (by cases hg;show g2≠w.heap.size;omega))
 have oy3:=own_keep (w1:=W2.setCell ⟨w.heap.size,1,none⟩ (.slice (some ⟨g2,0,none⟩) N d2)) ox3 (fun g hg=>J5 _ _ _ _ (by cases hg;show g3≠w.heap.size;omega))
 have R4:=R3.below ((Jy b1 W2).setCell (p:=⟨w.heap.size,1,none⟩) (by show b1≤w.heap.size;omega) (.slice (some ⟨g2,0,none⟩) N d2))
 have HB3:=HB2.setCell (p:=⟨w.heap.size,1,none⟩) (J9 _) (.slice (some ⟨g2,0,none⟩) N d2)
 have z3:(W2.setCell ⟨w.heap.size,1,none⟩ (.slice (some ⟨g2,0,none⟩) N d2)).heap.size=W2.heap.size:=by simp
 obtain⟨p1,p2,p3,q1,q2,q3⟩:=T3.f3
 go_wp2_with (go_at_call 163;refine(DeleteM_m b2 g3 d3 N k _ _ oy3 cellsM_one hkn).mono ?_)
 rintro e W5 ⟨rfl,oz3,gr5⟩
 have HB5:=HB3.grown gr5 (.inr rfl)
 have T5:=T3.grown gr5 (by intro e;cases e;omega)
 have N5:=N3.grown gr5 (by intro e;cases e;omega)
 have oz2:=own_grown oy2 gr5 (by intro g hg e;have e1:g2=g:=Jj hg;have e2:=Jj e;omega)
 have R5:=R4.grown gr5 (by omega) (fun g hg=>by have hh:=Jj hg;omega)
 clear i1 i2 i3 j1 j2 j3 p1 p2 p3 q1 q2 q3
 obtain⟨i1,i2,i3,j1,j2,j3⟩:=T5.f3
 obtain⟨n1,n2,n3,o1,o2,o3⟩:=N5.f3
 go_wp2
 refine bodyPost_ret (v:=.tuple #[.agg #[.slice B (N+1) d,.slice (some ⟨g2,0,none⟩) N d2,.slice (some ⟨g3,0,none⟩) N d3],.int .i64 0]) (by simp[results,Tryz.results137,go_sem, *];done) rfl ⟨_,_,_,_,_,_,_,_,_,rfl,fun _=>?_,?_⟩
 ·refine own_TV (t:=⟨l,l.eraseIdx k,(kM (N+1)).eraseIdx k⟩) HM.out (RdB.rd (R5.below ?_)) HP1.out (own_eq (own_keep oz2 fun g hg=>?_) rfl (cellsF_erase l k).symm) (by show(l.eraseIdx k).length=N;rw[List.length_eraseIdx_of_lt (by rw[HM.out];exact hk),HM.out];rfl) (fun g hg=>HP2.out g hg) (own_eq (own_keep oz3 fun g hg=>?_) rfl (cellsM_erase _ k).symm) (by show((kM (N+1)).eraseIdx k).length=N;rw[List.length_eraseIdx_of_lt (by rw[kM_length];exact hk),kM_length];rfl) (fun g hg=>HP3.out g hg)
  ·exact((((Jy b1 W5).setCell (by show b1≤w.heap.size;omega) _).setCell (by show b1≤w.heap.size+2;omega) _).setCell (by show b1≤w.heap.size+2;omega) _).setCell (by show b1≤w.heap.size+2;omega) _
  ·cases hg
   exact(J5 _ _ _ _ (by show g2≠w.heap.size+2;omega)).trans ((J5 _ _ _ _ (by show g2≠w.heap.size+2;omega)).trans ((J5 _ _ _ _ (by show g2≠w.heap.size+2;omega)).trans (J5 _ _ _ _ (by show g2≠w.heap.size;omega))))
  ·cases hg
   exact(J5 _ _ _ _ (by show g3≠w.heap.size+2;omega)).trans ((J5 _ _ _ _ (by show g3≠w.heap.size+2;omega)).trans ((J5 _ _ _ _ (by show g3≠w.heap.size+2;omega)).trans (J5 _ _ _ _ (by show g3≠w.heap.size;omega))))
 ·exact(((HB5.setCell (J9 _) _).setCell (by show w.heap.size≤w.heap.size+2;omega) _).setCell (by show w.heap.size≤w.heap.size+2;omega) _).setCell (by show w.heap.size≤w.heap.size+2;omega) _
end
end Go.Proofs.YteembinfgbapgaaGreat
