/- Merged out of: Nw Nu Nv. -/
import Derived.Test.YteembinfgbapgaaGreatC00
import Derived.Test.YteembinfgbapgaaGreatC20
set_option linter.unusedSimpArgs false
set_option linter.unusedVariables false
set_option maxRecDepth 100000
set_option maxHeartbeats 8000000
namespace Go.Proofs.YteembinfgbapgaaGreat
section
open Go.RowKit Go.Lib Go.Maps
theorem kM_w (n:Nat):MvW (kM n):=by
 intro m hm
 simp only[kM,X5] at hm
 obtain⟨j,_,rfl⟩:=hm
 exact⟨by show(0:Int)≤0;omega,by show(0:Int)<_;omega⟩
theorem w_add {a:List Mv} {d:Vl} {x:Int} (ha:MvW a) (x0:0≤d.b) (x1:d.b<18446744073709551616):MvW (a++[⟨x,d⟩]):=by
 intro m hm
 rcases X7.1 hm with h|h
 ·exact ha m h
 ·simp at h;subst h;exact⟨x0,x1⟩
theorem w_del {a:List Mv} (ha:MvW a) (k:Nat):MvW (a.eraseIdx k):=fun m hm=>ha m (List.mem_of_mem_eraseIdx hm)
theorem w_ord (q:List Int):MvW (q.map fun x=>⟨x,Vl.z⟩):=by
 intro m hm
 obtain⟨j,_,rfl⟩:=X5.1 hm
 exact⟨by show(0:Int)≤0;omega,by show(0:Int)<_;omega⟩
def WayC (l:List Fd) (c:Ch) (m:Nat) (T:Tb) (q:Int):Prop:=
 (c.op=1∧∃b,rightB c.d.k c.d.b c.d.t c.g.k c.g.l=b∧T=(bif b then⟨l,l++[c.g],kM m++[⟨-1,c.d⟩]⟩ else Tb.z)∧q=bif b then 0 else 80)∨
 ((c.op=2∨c.op=3∨c.op=4)∧findZ l c.s<0∧T=Tb.z∧q=61)∨
 (∃k:Nat,findZ l c.s=k∧(c.op=2∧T=⟨l,l.eraseIdx k,(kM m).eraseIdx k⟩∧q=0∨∃f:Fd,l[k]?=some f∧(c.op=3∧T=⟨l,l.set k ⟨c.g.s,f.k,f.l⟩,kM m⟩∧q=0∨c.op=4∧∃b,castsB f.k f.l c.g.k c.g.l=b∧T=(bif b then⟨l,l.set k ⟨f.s,c.g.k,c.g.l⟩,kM m⟩ else Tb.z)∧q=bif b then 0 else 80)))∨
 (c.op=5∧∃b,permB c.q m=b∧T=(bif b then⟨l,c.q.map fun x=>(l[x.toNat]?).getD Fd.z,c.q.map fun x=>⟨x,Vl.z⟩⟩ else Tb.z)∧q=bif b then 0 else 80)
theorem way_ok {l:List Fd} {c:Ch} {m:Nat} {T:Tb} (h:WayC l c m T 0) (x0:0≤c.d.b) (x1:c.d.b<18446744073709551616) (hm:l.length=m) (hl:m≤9223372036854775807) (h16:m≤16) (hq:c.q.length≤17592186044415):MvW T.m∧T.o.length≤9223372036854775807∧T.n.length≤9223372036854775807∧T.m.length≤9223372036854775807:=by
 have z:MvW Tb.z.m:=by intro m hm;cases hm
 rcases h with ⟨_,b,_,rfl,_⟩|⟨_,_,rfl,_⟩|⟨k,_,⟨_,rfl,_⟩|⟨f,_,⟨_,rfl,_⟩|⟨_,b,_,rfl,_⟩⟩⟩|⟨_,b,_,rfl,_⟩
 ·cases b
  ·exact⟨z,X8 _,X8 _,X8 _⟩
  ·exact⟨w_add (kM_w m) x0 x1,by show l.length≤_;omega,by simp;omega,by simp[kM_length];omega⟩
 ·exact⟨z,X8 _,X8 _,X8 _⟩
 ·exact⟨w_del (kM_w m) k,by show l.length≤_;omega,by simp only[List.length_eraseIdx];split <;> omega,by simp only[List.length_eraseIdx,kM_length];split <;> omega⟩
 ·exact⟨kM_w m,by show l.length≤_;omega,by simp;omega,by simp[kM_length];omega⟩
 ·cases b
  ·exact⟨z,X8 _,X8 _,X8 _⟩
  ·exact⟨kM_w m,by show l.length≤_;omega,by simp;omega,by simp[kM_length];omega⟩
 ·cases b
  ·exact⟨z,X8 _,X8 _,X8 _⟩
  ·exact⟨w_ord c.q,by show l.length≤_;omega,by simp;omega,by simp;omega⟩
def Way (l:List Fd) (c:Ch) (m:Nat) (Q:Option Addr) (n qc:Nat) (W:World) (f:Nat) (G:Value→Value→Array Value) (T:Tb) (q:Int):Prop:=
 ∀{W1 W2:World} (h0:Below W.heap.size W W1) (hX:Below W1.heap.size W1 W2) (B:Option Addr) (d b1 b2 a:Nat) (X2:Option Addr) (z2:Nat) (X3:Option Addr) (z3:Nat) (RQ:Rd W1 Q (cellsI c.q)) (ha1:a≤b1) (h12:b1≤b2) (h2:b2≤W1.heap.size) (R1:RdB b1 W1 B (cellsF l)) (hBa:∀ad,B=some ad→a≤ad.block) (own2:W1.ownsRow b1 68 3 (.slice X2 m z2) m (cellsF l)) (lt2:OwnLt b2 (.slice X2 m z2)) (own3:W1.ownsRow b2 137 4 (.slice X3 m z3) m (cellsM (kM m))) (hBu:∀ad,B=some ad→ad.block<W1.heap.size),
  Calls Tryz.prog f (G (.agg #[.slice B m d,.slice X2 m z2,.slice X3 m z3]) (.agg #[.int .i64 c.op,.string c.s,.string c.g.s,.int .i64 c.g.k,.int .i64 c.g.l,.int .i64 c.d.k,.int .u64 c.d.b,.string c.d.t,.slice Q n qc])) W2 fun e w'=>StepP (Value.slice X2 m z2).ownBlock (Value.slice X3 m z3).ownBlock (fun g=>(a≤g∧g<W1.heap.size)∨W2.heap.size≤g) T q W2 e w'
theorem look5 {V11:World} {b:Nat} {F1 F2 F3 F4 F5:Value} (M:MBk V11 b [ent (.int .i64 1) F1 0,ent (.int .i64 2) F2 1,ent (.int .i64 3) F3 2,ent (.int .i64 4) F4 3,ent (.int .i64 5) F5 4] 5) (k:Int) (i:Nat) (F:Value) (hk:1≤k∧k≤5) (hi:ent (.int .i64 k) F i∈[ent (.int .i64 1) F1 0,ent (.int .i64 2) F2 1,ent (.int .i64 3) F3 2,ent (.int .i64 4) F4 3,ent (.int .i64 5) F5 4]):
 (Instr.lookup 206 (.map (some b)) (.int .i64 k) true).run Tryz.prog V11=.ok (.tuple #[F,.bool true]) V11:=by
 rcases(by omega:k=1∨k=2∨k=3∨k=4∨k=5) with rfl|rfl|rfl|rfl|rfl
 all_goals
  have h0:=hi
  simp[ent] at hi
  obtain⟨rfl,rfl⟩:=hi
  exact map_some keyed5 Tryz.underlying206 M (keys5 (ks:=[1,2,3,4,5]) rfl (by simp)) (key5 (by omega) (by omega)) ⟨_,h0,rfl⟩ (by intro x hx hk;simp at hx;rcases hx with rfl|rfl|rfl|rfl|rfl <;> first|rfl|(simp[ent] at hk)) true
theorem way_at {l:List Fd} {c:Ch} {m:Nat} {T:Tb} {q:Int} {Q:Option Addr} {n qc:Nat} {V:World} {b p4 p6 p8:Nat}
 (M:MBk V b [ent (.int .i64 1) (.func (.func 135) #[] #[]) 0,ent (.int .i64 2) (.func (.func 161) #[] #[.pointer (some ⟨p4,0,none⟩)]) 1,ent (.int .i64 3) (.func (.func 161) #[] #[.pointer (some ⟨p6,0,none⟩)]) 2,ent (.int .i64 4) (.func (.func 161) #[] #[.pointer (some ⟨p8,0,none⟩)]) 3,ent (.int .i64 5) (.func (.func 140) #[] #[]) 4] 5)
 (c11:V.cell? ⟨p4,0,none⟩=some (.func (.func 137) #[] #[])) (d11:V.cell? ⟨p6,0,none⟩=some (.func (.func 138) #[] #[])) (e11:V.cell? ⟨p8,0,none⟩=some (.func (.func 139) #[] #[]))
 (hm:l.length=m) (h16:m≤16) (hn:c.q.length=n) (hn1:n≤17592186044415) (hqc:n≤qc) (x0:0≤c.d.b) (x1:c.d.b<18446744073709551616) (hw:WayC l c m T q):
 ∃(f:Nat) (x:Array Value) (G:Value→Value→Array Value),(Instr.lookup 206 (.map (some b)) (.int .i64 c.op) true).run Tryz.prog V=.ok (.tuple #[.func (.func f) #[] x,.bool true]) V∧
  ((f=135∧x=#[]∧G=fun a b=>#[a,b])∨(∃p:Nat,f=161∧x=#[.pointer (some ⟨p,0,none⟩)]∧G=fun a b=>#[a,b,.pointer (some ⟨p,0,none⟩)])∨(f=140∧x=#[]∧G=fun a b=>#[a,b]))∧Way l c m Q n qc V f G T q:=by
 have hc:∀{p:Nat} {F:Value} {W1:World},Below V.heap.size V W1→V.cell? ⟨p,0,none⟩=some F→W1.cell? ⟨p,0,none⟩=some F:=fun hb h=>cell_below (B:=0) hb h
 rcases hw with ⟨ho,b,hb,rfl,rfl⟩|⟨ho,hz,rfl,rfl⟩|⟨k,hz,⟨ho,rfl,rfl⟩|⟨f,hf,⟨ho,rfl,rfl⟩|⟨ho,b,hb,rfl,rfl⟩⟩⟩|⟨ho,b,hb,rfl,rfl⟩
 ·refine⟨135,#[],_,look5 M c.op 0 _ (by omega) (by rw[ho];simp),.inl ⟨rfl,rfl,rfl⟩,?_⟩
  intro W1 W2 h0 hX B d b1 b2 a X2 z2 X3 z3 RQ ha1 h12 h2 R1 hBa own2 lt2 own3 hBu
  cases b
  ·exact adds_no_at hX l c m hm h16 B d b1 b2 a _ _ Q n qc hn hn1 hqc RQ ha1 h12 h2 R1 hBa own2 lt2 own3 x0 x1 hBu hb
  ·exact adds_yes_at hX l c m hm h16 B d b1 b2 a _ _ Q n qc hn hn1 hqc RQ ha1 h12 h2 R1 hBa own2 lt2 own3 x0 x1 hBu hb
 ·rcases ho with ho|ho|ho
  ·refine⟨161,#[.pointer (some ⟨p4,0,none⟩)],_,look5 M c.op 1 _ (by omega) (by rw[ho];simp),.inr (.inl ⟨p4,rfl,rfl,rfl⟩),?_⟩
   intro W1 W2 h0 hX B d b1 b2 a X2 z2 X3 z3 RQ ha1 h12 h2 R1 hBa own2 lt2 own3 hBu
   exact named_no_at hX l c m hm h16 B d b1 b2 a _ _ Q n qc hn hn1 hqc RQ ha1 h12 h2 R1 hBa own2 lt2 own3 x0 x1 hBu p4 _ (hc h0 c11) hz
  ·refine⟨161,#[.pointer (some ⟨p6,0,none⟩)],_,look5 M c.op 2 _ (by omega) (by rw[ho];simp),.inr (.inl ⟨p6,rfl,rfl,rfl⟩),?_⟩
   intro W1 W2 h0 hX B d b1 b2 a X2 z2 X3 z3 RQ ha1 h12 h2 R1 hBa own2 lt2 own3 hBu
   exact named_no_at hX l c m hm h16 B d b1 b2 a _ _ Q n qc hn hn1 hqc RQ ha1 h12 h2 R1 hBa own2 lt2 own3 x0 x1 hBu p6 _ (hc h0 d11) hz
  ·refine⟨161,#[.pointer (some ⟨p8,0,none⟩)],_,look5 M c.op 3 _ (by omega) (by rw[ho];simp),.inr (.inl ⟨p8,rfl,rfl,rfl⟩),?_⟩
   intro W1 W2 h0 hX B d b1 b2 a X2 z2 X3 z3 RQ ha1 h12 h2 R1 hBa own2 lt2 own3 hBu
   exact named_no_at hX l c m hm h16 B d b1 b2 a _ _ Q n qc hn hn1 hqc RQ ha1 h12 h2 R1 hBa own2 lt2 own3 x0 x1 hBu p8 _ (hc h0 e11) hz
 ·refine⟨161,#[.pointer (some ⟨p4,0,none⟩)],_,look5 M c.op 1 _ (by omega) (by rw[ho];simp),.inr (.inl ⟨p4,rfl,rfl,rfl⟩),?_⟩
  intro W1 W2 h0 hX B d b1 b2 a X2 z2 X3 z3 RQ ha1 h12 h2 R1 hBa own2 lt2 own3 hBu
  exact named_drops_at hX l c m hm h16 B d b1 b2 a _ _ Q n qc hn hn1 hqc RQ ha1 h12 h2 R1 hBa own2 lt2 own3 x0 x1 hBu p4 (hc h0 c11) k hz
 ·refine⟨161,#[.pointer (some ⟨p6,0,none⟩)],_,look5 M c.op 2 _ (by omega) (by rw[ho];simp),.inr (.inl ⟨p6,rfl,rfl,rfl⟩),?_⟩
  intro W1 W2 h0 hX B d b1 b2 a X2 z2 X3 z3 RQ ha1 h12 h2 R1 hBa own2 lt2 own3 hBu
  exact named_renames_at hX l c m hm h16 B d b1 b2 a _ _ Q n qc hn hn1 hqc RQ ha1 h12 h2 R1 hBa own2 lt2 own3 x0 x1 hBu p6 (hc h0 d11) k hz f hf
 ·refine⟨161,#[.pointer (some ⟨p8,0,none⟩)],_,look5 M c.op 3 _ (by omega) (by rw[ho];simp),.inr (.inl ⟨p8,rfl,rfl,rfl⟩),?_⟩
  intro W1 W2 h0 hX B d b1 b2 a X2 z2 X3 z3 RQ ha1 h12 h2 R1 hBa own2 lt2 own3 hBu
  cases b
  ·exact named_recasts_no_at hX l c m hm h16 B d b1 b2 a _ _ Q n qc hn hn1 hqc RQ ha1 h12 h2 R1 hBa own2 lt2 own3 x0 x1 hBu p8 (hc h0 e11) k hz f hf hb
  ·exact named_recasts_yes_at hX l c m hm h16 B d b1 b2 a _ _ Q n qc hn hn1 hqc RQ ha1 h12 h2 R1 hBa own2 lt2 own3 x0 x1 hBu p8 (hc h0 e11) k hz f hf hb
 ·refine⟨140,#[],_,look5 M c.op 4 _ (by omega) (by rw[ho];simp),.inr (.inr ⟨rfl,rfl,rfl⟩),?_⟩
  intro W1 W2 h0 hX B d b1 b2 a X2 z2 X3 z3 RQ ha1 h12 h2 R1 hBa own2 lt2 own3 hBu
  cases b
  ·exact orders_no_at hX l c m hm h16 B d b1 b2 a _ _ Q n qc hn hn1 hqc RQ ha1 h12 h2 R1 hBa own2 lt2 own3 x0 x1 hBu _ _ _ rfl _ _ _ rfl hb
  ·exact orders_yes_at hX l c m hm h16 B d b1 b2 a _ _ Q n qc hn hn1 hqc RQ ha1 h12 h2 R1 hBa own2 lt2 own3 x0 x1 hBu _ _ _ rfl _ _ _ rfl hb
theorem Make_way (l:List Fd) (c:Ch) (m:Nat) (hm:l.length=m) (hl:m≤9223372036854775807) (A:Option Addr) (cA:Nat) (hcA:m≤cA) (Q:Option Addr) (n qc:Nat) (hn:c.q.length=n) (hn1:n≤17592186044415) (hqc:n≤qc) (p0:-9223372036854775808≤c.op) (p1:c.op≤9223372036854775807) (x0:0≤c.d.b) (x1:c.d.b<18446744073709551616) (w:World) (hA:Rd w A (cellsF l)) (RQ:Rd w Q (cellsI c.q)) (hr:rightF l=true) (T:Tb) (q:Int) (hw:WayC l c m T q) (r:Bool) (hrt:q=0→rightT T=r):
 Calls Tryz.prog 97 #[.slice A m cA,.agg #[.int .i64 c.op,.string c.s,.string c.g.s,.int .i64 c.g.k,.int .i64 c.g.l,.int .i64 c.d.k,.int .u64 c.d.b,.string c.d.t,.slice Q n qc]] w fun e w'=>MkP (if q=0 then bif r then T else Tb.z else Tb.z) (if q=0 then bif r then 0 else 80 else q) w e w':=by
 have h16:m≤16:=by rw[←hm];exact(rightF_may hr).2
 have bb1:=below_new (w:=w) (.cells #[.int .i64 c.op,.string c.s,.string c.g.s,.int .i64 c.g.k,.int .i64 c.g.l,.int .i64 c.d.k,.int .u64 c.d.b,.string c.d.t,.slice Q n qc] 76)
 have bb2:=below_new (w:=w.alloc (.cells #[.int .i64 c.op,.string c.s,.string c.g.s,.int .i64 c.g.k,.int .i64 c.g.l,.int .i64 c.d.k,.int .u64 c.d.b,.string c.d.t,.slice Q n qc] 76)) (.cells #[.slice none 0 0,.slice none 0 0,.slice none 0 0] 96)
 have C0:CBox _ _ c (.slice Q n qc) 76:=(OBox.new w (chL c (.slice Q n qc)) 76).below bb2
 have N0:=OBox.new (w.alloc (.cells #[.int .i64 c.op,.string c.s,.string c.g.s,.int .i64 c.g.k,.int .i64 c.g.l,.int .i64 c.d.k,.int .u64 c.d.b,.string c.d.t,.slice Q n qc] 76)) [.slice none 0 0,.slice none 0 0,.slice none 0 0] 96
 rw[Jq] at N0
 have HB0:=below_seq bb1 bb2
 obtain⟨V4,V6,V8,V10,V11,r4,r6,r8,r10,r11,M11,c11,d11,e11,B11⟩:=ways_made ((w.alloc (.cells #[.int .i64 c.op,.string c.s,.string c.g.s,.int .i64 c.g.k,.int .i64 c.g.l,.int .i64 c.d.k,.int .u64 c.d.b,.string c.d.t,.slice Q n qc] 76)).alloc (.cells #[.slice none 0 0,.slice none 0 0,.slice none 0 0] 96))
 have HB:=below_seq HB0 B11
 have C1:=C0.below B11
 have N1:=N0.below B11
 have szV:w.heap.size+1<V11.heap.size:=N1.lt
 have hA1:=hA.below HB
 have RQ1:=RQ.below HB
 have hmk:=make_map
 obtain⟨a0,a1,a2,a3,a4,a5,a6,a7,a8⟩:=C0.c9
 obtain⟨A0,A1,A2,A3,A4,A5,A6,A7,A8⟩:=C1.c9
 obtain⟨n1,n2,n3,o1,o2,o3⟩:=N1.f3
 have HM:=J0 hm
 have HN:=J0 hn
 have HW5:=J0 hw
 obtain⟨f,x,G,hlk,hg,hW⟩:=way_at (b:=((w.alloc (.cells #[.int .i64 c.op,.string c.s,.string c.g.s,.int .i64 c.g.k,.int .i64 c.g.l,.int .i64 c.d.k,.int .u64 c.d.b,.string c.d.t,.slice Q n qc] 76)).alloc (.cells #[.slice none 0 0,.slice none 0 0,.slice none 0 0] 96)).heap.size) M11 c11 d11 e11 hm h16 hn hn1 hqc x0 x1 HW5.out
 simp only[Jq] at r4 r6 r8 r10 r11 hlk M11
 have HR:=J0 hr
 have HRT:=J0 hrt
 have hWW:Hid (Way l c m Q n qc V11 f G T q):=J0 hW
 clear hr hrt hW hw
 go_enter Tryz.func97,Tryz.ntmps97
 go_upto_region 7 with (first
  |(go_at_call 136;refine(named_func _ _ _ _).mono ?_;rintro e w' ⟨rfl,rfl⟩)
  |(go_at_call 62;refine(Right_m A cA m l HM.out true HR.out _ hA1 hl).mono ?_;rintro e W0 ⟨rfl,hb⟩;replace HB:=HB.trans (hb.mono HB.size);replace hA1:=hA1.below hb;replace RQ1:=RQ1.below hb;replace C1:=C1.below hb;replace N1:=N1.below hb;have c12:=cell_below (B:=0) hb c11;have d12:=cell_below (B:=0) hb d11;have e12:=cell_below (B:=0) hb e11;have hVW:=hb;clear hb A0 A1 A2 A3 A4 A5 A6 A7 A8 n1 n2 n3 o1 o2 o3;obtain⟨A0,A1,A2,A3,A4,A5,A6,A7,A8⟩:=C1.c9;obtain⟨n1,n2,n3,o1,o2,o3⟩:=N1.f3))
 have szW:w.heap.size+1<W0.heap.size:=N1.lt
 have hAd:Rd W0.drew A (cellsF l):=hA1
 have hAe:Rd (W0.drew.alloc (.cells #[.slice none 0 0,.slice none 0 0,.slice none 0 0] 96)) A (cellsF l):=Rd.below (w:=W0.drew) hA1 (below_new _)
 have hAf:Rd (W0.alloc (.cells #[.slice none 0 0,.slice none 0 0,.slice none 0 0] 96)).drew A (cellsF l):=hA1.below (Jv (below_new _))
 obtain⟨E0,E1,E2,E3,E4,E5,E6,E7,E8⟩:=(C1.below (below_new (.cells #[.slice none 0 0,.slice none 0 0,.slice none 0 0] 96))).c9
 clear a0 a1 a2 a3 a4 a5 a6 a7 a8 r4 r6 r8 r10 r11 hlk M11 c11 d11 e11 C0 N0 HB0 hmk B11
 go_cut [9,10] (fun s9 s10 wx=>∃p X0 y0 z0 X1 y1 z1 X2 y2 z2,s9=.pointer (some ⟨p,0,none⟩)∧s10=.int .i64 q∧OBox wx p [.slice X0 y0 z0,.slice X1 y1 z1,.slice X2 y2 z2] 96∧Hid (q=0→TVP (fun g=>w.heap.size+2≤g) wx (.agg #[.slice X0 y0 z0,.slice X1 y1 z1,.slice X2 y2 z2]) T)∧OBox wx (w.heap.size+1) [.slice none 0 0,.slice none 0 0,.slice none 0 0] 96∧Below w.heap.size w wx)
 case first=>
  rcases hg with ⟨rfl,rfl,rfl⟩|⟨bp,rfl,rfl,rfl⟩|⟨rfl,rfl,rfl⟩
  all_goals go_region_with (first
   |(go_at_call 45;refine(TSame_yes A cA m l HM.out HR.out _ (by with_reducible assumption) hl hcA).mono ?_;rintro e W1 ⟨B,d,v2,v3,b1,b2,rfl,hb1,hb12,hb2,R1,hBl,own2,lt2,own3,hbS⟩;obtain⟨X2,z2,rfl,u1,u2,u3⟩:=own_rd own2;obtain⟨X3,z3,rfl,u4,u5,u6⟩:=own_rd own3;clear u1 u2 u3 u4 u5 u6;(first|(have h01:Below W0.heap.size W0 W1:=(by with_reducible exact Below.undrewS hbS);obtain⟨a,haE,ha2,hBa⟩:∃a,a=W0.heap.size∧a≤b1∧(∀ad,B=some ad→a≤ad.block):=⟨_,rfl,hb1,fun ad e=>(hBl ad e).1⟩)|(have h01:Below W0.heap.size W0 W1:=(by first|with_reducible exact Below.undrewA hbS|with_reducible exact Below.undrewB hbS);obtain⟨a,haE,ha2,hBa⟩:∃a,a=W0.heap.size+1∧a≤b1∧(∀ad,B=some ad→a≤ad.block):=⟨_,rfl,by simpa using hb1,fun ad e=>by have:=(hBl ad e).1;simp at this;omega⟩;have PBX:OBox W1 W0.heap.size [.slice none 0 0,.slice none 0 0,.slice none 0 0] 96:=(by first|with_reducible exact OBox.newA hbS|with_reducible exact OBox.newB hbS)));have ha0:W0.heap.size≤a:=(by omega);have hBu:∀ad,B=some ad→ad.block<W1.heap.size:=(fun ad e=>by have:=(hBl ad e).2;omega);clear hb1 hBl hbS;have HAE:=J0 haE;clear haE;have C2:=C1.below h01;have C3:=C2.below (below_new (.cells #[.slice none 0 0,.slice none 0 0,.slice none 0 0] 96));obtain⟨G0,G1,G2,G3,G4,G5,G6,G7,G8⟩:=C2.c9;obtain⟨K0,K1,K2,K3,K4,K5,K6,K7,K8⟩:=C3.c9)
   |((first|go_at_call 135|go_at_call 161|go_at_call 140);refine(hWW.out (hVW.trans (h01.mono hVW.size)) (by first|with_reducible exact Jy _ _|with_reducible exact below_new _) B d b1 b2 a _ _ _ _ (RQ1.below h01) ha2 hb12 hb2 R1 hBa own2 lt2 own3 hBu).mono ?_;rintro e W3 ⟨X0,y0,z0,X1,y1,z1,X4,y4,z4,rfl,hTV,hO⟩;have HT:=J0 hTV;clear hTV;(first|(have PB3:=PBX.only hO (by intro e;have:=own_base own2 _ e.symm;have:=HAE.out;omega) (by intro e;have:=own_base own3 _ e.symm;have:=HAE.out;omega);obtain⟨s1,s2,s3,t1,t2,t3⟩:=PB3.f3)|(have PB3:OBox W3 W1.heap.size [.slice none 0 0,.slice none 0 0,.slice none 0 0] 96:=(by refine OBox.only ?_ hO (by intro e;have:=own_lt own2 _ e.symm;omega) (by intro e;have:=own_lt own3 _ e.symm;omega);exact OBox.new _ _ _);obtain⟨s1,s2,s3,t1,t2,t3⟩:=PB3.f3)|skip)))
  all_goals (go_wp2_with fail;go_meet;refine⟨_,X0,y0,z0,X1,y1,z1,X4,y4,z4,rfl,rfl,?_⟩)
  all_goals
   have hr2:∀g,(Value.slice X2 m z2).ownBlock=some g→W0.heap.size≤g:=fun g hg=>by have:=own_base own2 g hg;omega
   have hr3:∀g,(Value.slice X3 m z3).ownBlock=some g→W0.heap.size≤g:=fun g hg=>by have:=own_base own3 g hg;omega
   have haW:a≤W1.heap.size:=by omega
   first
    |(obtain⟨q1,q2,q3,q4⟩:=meet_make (x:=.slice X0 y0 z0) (y:=.slice X1 y1 z1) (z:=.slice X4 y4 z4) HB ha0 haW szW h01 (by first|with_reducible exact Jy _ _|with_reducible exact below_new _) hO hr2 hr3 HT.out (Jy _ _) PB3 (.inl (by have:=HAE.out;omega)) (J9 _) N1;exact⟨q1,J0 q2,q3,q4⟩)
    |(obtain⟨q1,q2,q3,q4⟩:=meet_make (x:=.slice X0 y0 z0) (y:=.slice X1 y1 z1) (z:=.slice X4 y4 z4) HB ha0 haW szW h01 (by with_reducible exact below_new _) hO hr2 hr3 HT.out (Jy _ _) PB3 (.inr (.inl ⟨J9 _,by simp⟩)) h01.size N1;exact⟨q1,J0 q2,q3,q4⟩)
    |(obtain⟨q1,q2,q3,q4⟩:=meet_last (x:=.slice X0 y0 z0) (y:=.slice X1 y1 z1) (z:=.slice X4 y4 z4) (T:=96) HB ha0 haW szW h01 (by first|with_reducible exact Jy _ _|with_reducible exact below_new _) hO hr2 hr3 HT.out N1;exact⟨q1,J0 q2,q3,q4⟩)
 case rest=>
  clear RQ1 C1 HB N1 hA1 hAd hAe hAf c12 d12 e12 A0 A1 A2 A3 A4 A5 A6 A7 A8 n1 n2 n3 o1 o2 o3 E0 E1 E2 E3 E4 E5 E6 E7 E8 szW szV
  obtain⟨p,X0,y0,z0,X1,y1,z1,X2,y2,z2,rfl,rfl,PB,HT,N1,HB⟩:=hcut
  obtain⟨i1,i2,i3,j1,j2,j3⟩:=PB.f3
  obtain⟨n1,n2,n3,o1,o2,o3⟩:=N1.f3
  by_cases hq:q=0
  ·subst hq
   have HT:=J0 (HT.out rfl)
   have HRT:=J0 (HRT.out rfl)
   obtain⟨_,_,_,_,_,_,ev,hd,R0,R1,R2⟩:=HT.out
   cases ev
   obtain⟨f1,f2,f3,f4⟩:=way_ok HW5.out x0 x1 HM.out hl h16 (by rw[HN.out];exact hn1)
   have HW:=J0 f1
   have l0:=J0 f2
   have l1:=J0 f3
   have l2:=J0 f4
   clear f1 f2 f3 f4
   have R0r:=R0.rd
   have R1r:=R1.rd
   have R2r:=R2.rd
   cases r
   ·go_wp2_with (go_at_call 72;refine(TRight_m T _ _ _ _ _ _ _ _ _ rfl rfl rfl l0.out l1.out l2.out HW.out _ R0r R1r R2r).mono ?_;rintro e wM ⟨rfl,hb⟩;rw[HRT.out];replace HB:=HB.trans (hb.mono HB.size);replace PB:=PB.below hb;replace N1:=N1.below hb;clear hb i1 i2 i3 j1 j2 j3 n1 n2 n3 o1 o2 o3;obtain⟨i1,i2,i3,j1,j2,j3⟩:=PB.f3;obtain⟨n1,n2,n3,o1,o2,o3⟩:=N1.f3)
    refine bodyPost_ret (v:=.tuple #[.agg #[.slice none 0 0,.slice none 0 0,.slice none 0 0],.int .i64 80]) (by simp[results,Tryz.results97,go_sem, *];done) rfl ?_
    show MkP _ _ _ _ _
    try rw[if_pos rfl,if_pos rfl]
    refine⟨_,_,_,_,_,_,_,_,_,rfl,TVP.z _ _,?_⟩
    exact((HB.setCell (by show w.heap.size≤w.heap.size+1;omega) _).setCell (by show w.heap.size≤w.heap.size+1;omega) _).setCell (by show w.heap.size≤w.heap.size+1;omega) _
   ·go_wp2_with (go_at_call 72;refine(TRight_m T _ _ _ _ _ _ _ _ _ rfl rfl rfl l0.out l1.out l2.out HW.out _ R0r R1r R2r).mono ?_;rintro e wM ⟨rfl,hb⟩;rw[HRT.out];replace HB:=HB.trans (hb.mono HB.size);replace PB:=PB.below hb;replace N1:=N1.below hb;have HTV:=J0 (TVP.keep HT.out.lt (fun g hg=>hb.block g hg.2));clear hb i1 i2 i3 j1 j2 j3 n1 n2 n3 o1 o2 o3;obtain⟨i1,i2,i3,j1,j2,j3⟩:=PB.f3;obtain⟨n1,n2,n3,o1,o2,o3⟩:=N1.f3)
    refine bodyPost_ret (v:=.tuple #[.agg #[.slice X0 T.o.length z0,.slice X1 T.n.length z1,.slice X2 T.m.length z2],.int .i64 0]) (by simp[results,Tryz.results97,go_sem, *];done) rfl ?_
    show MkP _ _ _ _ _
    try rw[if_pos rfl,if_pos rfl]
    refine⟨_,_,_,_,_,_,_,_,_,rfl,?_,?_⟩
    ·refine(HTV.out.keep (fun g hg=>?_)).mono (fun g hg=>?_)
     ·have h:=hg.1
      exact(J5 _ _ _ _ (by show g≠w.heap.size+1;omega)).trans ((J5 _ _ _ _ (by show g≠w.heap.size+1;omega)).trans (J5 _ _ _ _ (by show g≠w.heap.size+1;omega)))
     ·have h:=hg.1
      show w.heap.size≤g
      omega
    ·exact((HB.setCell (by show w.heap.size≤w.heap.size+1;omega) _).setCell (by show w.heap.size≤w.heap.size+1;omega) _).setCell (by show w.heap.size≤w.heap.size+1;omega) _
  ·have hq1:(q == 0)=false:=by simp[hq]
   go_wp2
   refine bodyPost_ret (v:=.tuple #[.agg #[.slice none 0 0,.slice none 0 0,.slice none 0 0],.int .i64 q]) (by simp[results,Tryz.results97,go_sem, *];done) rfl ?_
   show MkP _ _ _ _ _
   try rw[if_neg hq,if_neg hq]
   refine⟨_,_,_,_,_,_,_,_,_,rfl,TVP.z _ _,?_⟩
   exact((HB.setCell (by show w.heap.size≤w.heap.size+1;omega) _).setCell (by show w.heap.size≤w.heap.size+1;omega) _).setCell (by show w.heap.size≤w.heap.size+1;omega) _
theorem infoFn:(Tryz.prog.info? 203).map (fun i=>(i.zero,i.size,i.bytes))=some (some Value.nilFunc,1,8):=by kernel_rfl
theorem zeroFn (w:World):(zeroValue 203).run Tryz.prog w=.ok Value.nilFunc w:=by
 obtain⟨i0,hi0,hz0,_,_⟩:=info_parts infoFn
 simp only[zeroValue,Sem.run_bind,run_typeInfo _ hi0,Result.andThen_ok,hz0,Sem.run_pure]
theorem look_any {V11:World} {b:Nat} {F1 F2 F3 F4 F5:Value} (M:MBk V11 b [ent (.int .i64 1) F1 0,ent (.int .i64 2) F2 1,ent (.int .i64 3) F3 2,ent (.int .i64 4) F4 3,ent (.int .i64 5) F5 4] 5) (o:Int) (p0:-9223372036854775808≤o) (p1:o≤9223372036854775807):
 ∃v is,(Instr.lookup 206 (.map (some b)) (.int .i64 o) true).run Tryz.prog V11=.ok (.tuple #[v,.bool is]) V11∧((¬(1≤o∧o≤5))→is=false∧v=Value.nilFunc):=by
 have hk:=keys5 (es:=[ent (.int .i64 1) F1 0,ent (.int .i64 2) F2 1,ent (.int .i64 3) F3 2,ent (.int .i64 4) F4 3,ent (.int .i64 5) F5 4]) (ks:=[1,2,3,4,5]) rfl (by simp)
 by_cases h:1≤o∧o≤5
 ·rcases(by omega:o=1∨o=2∨o=3∨o=4∨o=5) with rfl|rfl|rfl|rfl|rfl
  ·exact⟨F1,true,map_some keyed5 Tryz.underlying206 M hk (key5 (by omega) (by omega)) ⟨ent (.int .i64 1) F1 0,by simp,rfl⟩ (by intro x hx hk;simp at hx;rcases hx with rfl|rfl|rfl|rfl|rfl <;> first|rfl|(simp[ent] at hk)) true,fun h'=>absurd h h'⟩
  ·exact⟨F2,true,map_some keyed5 Tryz.underlying206 M hk (key5 (by omega) (by omega)) ⟨ent (.int .i64 2) F2 1,by simp,rfl⟩ (by intro x hx hk;simp at hx;rcases hx with rfl|rfl|rfl|rfl|rfl <;> first|rfl|(simp[ent] at hk)) true,fun h'=>absurd h h'⟩
  ·exact⟨F3,true,map_some keyed5 Tryz.underlying206 M hk (key5 (by omega) (by omega)) ⟨ent (.int .i64 3) F3 2,by simp,rfl⟩ (by intro x hx hk;simp at hx;rcases hx with rfl|rfl|rfl|rfl|rfl <;> first|rfl|(simp[ent] at hk)) true,fun h'=>absurd h h'⟩
  ·exact⟨F4,true,map_some keyed5 Tryz.underlying206 M hk (key5 (by omega) (by omega)) ⟨ent (.int .i64 4) F4 3,by simp,rfl⟩ (by intro x hx hk;simp at hx;rcases hx with rfl|rfl|rfl|rfl|rfl <;> first|rfl|(simp[ent] at hk)) true,fun h'=>absurd h h'⟩
  ·exact⟨F5,true,map_some keyed5 Tryz.underlying206 M hk (key5 (by omega) (by omega)) ⟨ent (.int .i64 5) F5 4,by simp,rfl⟩ (by intro x hx hk;simp at hx;rcases hx with rfl|rfl|rfl|rfl|rfl <;> first|rfl|(simp[ent] at hk)) true,fun h'=>absurd h h'⟩
 ·refine⟨Value.nilFunc,false,map_none keyed5 Tryz.underlying206 M hk (key5 p0 p1) (keys_ne (ks:=[1,2,3,4,5]) rfl (by simp;omega)) (zeroFn V11) true,fun _=>⟨rfl,rfl⟩⟩
theorem Make_form (l:List Fd) (c:Ch) (m:Nat) (hm:l.length=m) (hl:m≤9223372036854775807) (A:Option Addr) (cA:Nat) (hcA:m≤cA) (Q:Option Addr) (n qc:Nat) (hn:c.q.length=n) (hn1:n≤17592186044415) (hqc:n≤qc) (p0:-9223372036854775808≤c.op) (p1:c.op≤9223372036854775807) (x0:0≤c.d.b) (x1:c.d.b<18446744073709551616) (w:World) (hA:Rd w A (cellsF l)) (RQ:Rd w Q (cellsI c.q)) (hr:rightF l=false):
 Calls Tryz.prog 97 #[.slice A m cA,.agg #[.int .i64 c.op,.string c.s,.string c.g.s,.int .i64 c.g.k,.int .i64 c.g.l,.int .i64 c.d.k,.int .u64 c.d.b,.string c.d.t,.slice Q n qc]] w fun e w'=>MkP Tb.z 60 w e w':=by
 have bb1:=below_new (w:=w) (.cells #[.int .i64 c.op,.string c.s,.string c.g.s,.int .i64 c.g.k,.int .i64 c.g.l,.int .i64 c.d.k,.int .u64 c.d.b,.string c.d.t,.slice Q n qc] 76)
 have bb2:=below_new (w:=w.alloc (.cells #[.int .i64 c.op,.string c.s,.string c.g.s,.int .i64 c.g.k,.int .i64 c.g.l,.int .i64 c.d.k,.int .u64 c.d.b,.string c.d.t,.slice Q n qc] 76)) (.cells #[.slice none 0 0,.slice none 0 0,.slice none 0 0] 96)
 have C0:CBox _ _ c (.slice Q n qc) 76:=(OBox.new w (chL c (.slice Q n qc)) 76).below bb2
 have N0:=OBox.new (w.alloc (.cells #[.int .i64 c.op,.string c.s,.string c.g.s,.int .i64 c.g.k,.int .i64 c.g.l,.int .i64 c.d.k,.int .u64 c.d.b,.string c.d.t,.slice Q n qc] 76)) [.slice none 0 0,.slice none 0 0,.slice none 0 0] 96
 rw[Jq] at N0
 have HB0:=below_seq bb1 bb2
 obtain⟨V4,V6,V8,V10,V11,r4,r6,r8,r10,r11,M11,c11,d11,e11,B11⟩:=ways_made ((w.alloc (.cells #[.int .i64 c.op,.string c.s,.string c.g.s,.int .i64 c.g.k,.int .i64 c.g.l,.int .i64 c.d.k,.int .u64 c.d.b,.string c.d.t,.slice Q n qc] 76)).alloc (.cells #[.slice none 0 0,.slice none 0 0,.slice none 0 0] 96))
 have HB:=below_seq HB0 B11
 have C1:=C0.below B11
 have N1:=N0.below B11
 have szV:w.heap.size+1<V11.heap.size:=N1.lt
 have hA1:=hA.below HB
 have RQ1:=RQ.below HB
 have hmk:=make_map
 obtain⟨a0,a1,a2,a3,a4,a5,a6,a7,a8⟩:=C0.c9
 obtain⟨A0,A1,A2,A3,A4,A5,A6,A7,A8⟩:=C1.c9
 obtain⟨n1,n2,n3,o1,o2,o3⟩:=N1.f3
 have HM:=J0 hm
 have HN:=J0 hn
 obtain⟨fv,is,hlk,hno⟩:=look_any M11 c.op p0 p1
 simp only[Jq] at r4 r6 r8 r10 r11 hlk M11
 have HR:=J0 hr
 clear hr
 go_enter Tryz.func97,Tryz.ntmps97
 go_wp2_with (first
  |(go_at_call 136;refine(named_func _ _ _ _).mono ?_;rintro e w' ⟨rfl,rfl⟩)
  |(go_at_call 62;refine(Right_m A cA m l HM.out false HR.out _ hA1 hl).mono ?_;rintro e W0 ⟨rfl,hb⟩;replace HB:=HB.trans (hb.mono HB.size);replace hA1:=hA1.below hb;replace RQ1:=RQ1.below hb;replace C1:=C1.below hb;replace N1:=N1.below hb;have c12:=cell_below (B:=0) hb c11;have d12:=cell_below (B:=0) hb d11;have e12:=cell_below (B:=0) hb e11;clear hb A0 A1 A2 A3 A4 A5 A6 A7 A8 n1 n2 n3 o1 o2 o3;obtain⟨A0,A1,A2,A3,A4,A5,A6,A7,A8⟩:=C1.c9;obtain⟨n1,n2,n3,o1,o2,o3⟩:=N1.f3))
 refine bodyPost_ret (v:=.tuple #[.agg #[.slice none 0 0,.slice none 0 0,.slice none 0 0],.int .i64 60]) (by simp[results,Tryz.results97,go_sem, *];done) rfl ⟨_,_,_,_,_,_,_,_,_,rfl,TVP.z _ _,?_⟩
 exact((HB.setCell (by show w.heap.size≤w.heap.size+1;omega) _).setCell (by show w.heap.size≤w.heap.size+1;omega) _).setCell (by show w.heap.size≤w.heap.size+1;omega) _
theorem Make_op (l:List Fd) (c:Ch) (m:Nat) (hm:l.length=m) (hl:m≤9223372036854775807) (A:Option Addr) (cA:Nat) (hcA:m≤cA) (Q:Option Addr) (n qc:Nat) (hn:c.q.length=n) (hn1:n≤17592186044415) (hqc:n≤qc) (p0:-9223372036854775808≤c.op) (p1:c.op≤9223372036854775807) (x0:0≤c.d.b) (x1:c.d.b<18446744073709551616) (w:World) (hA:Rd w A (cellsF l)) (RQ:Rd w Q (cellsI c.q)) (hr:rightF l=true) (hop:¬(1≤c.op∧c.op≤5)):
 Calls Tryz.prog 97 #[.slice A m cA,.agg #[.int .i64 c.op,.string c.s,.string c.g.s,.int .i64 c.g.k,.int .i64 c.g.l,.int .i64 c.d.k,.int .u64 c.d.b,.string c.d.t,.slice Q n qc]] w fun e w'=>MkP Tb.z 80 w e w':=by
 have bb1:=below_new (w:=w) (.cells #[.int .i64 c.op,.string c.s,.string c.g.s,.int .i64 c.g.k,.int .i64 c.g.l,.int .i64 c.d.k,.int .u64 c.d.b,.string c.d.t,.slice Q n qc] 76)
 have bb2:=below_new (w:=w.alloc (.cells #[.int .i64 c.op,.string c.s,.string c.g.s,.int .i64 c.g.k,.int .i64 c.g.l,.int .i64 c.d.k,.int .u64 c.d.b,.string c.d.t,.slice Q n qc] 76)) (.cells #[.slice none 0 0,.slice none 0 0,.slice none 0 0] 96)
 have C0:CBox _ _ c (.slice Q n qc) 76:=(OBox.new w (chL c (.slice Q n qc)) 76).below bb2
 have N0:=OBox.new (w.alloc (.cells #[.int .i64 c.op,.string c.s,.string c.g.s,.int .i64 c.g.k,.int .i64 c.g.l,.int .i64 c.d.k,.int .u64 c.d.b,.string c.d.t,.slice Q n qc] 76)) [.slice none 0 0,.slice none 0 0,.slice none 0 0] 96
 rw[Jq] at N0
 have HB0:=below_seq bb1 bb2
 obtain⟨V4,V6,V8,V10,V11,r4,r6,r8,r10,r11,M11,c11,d11,e11,B11⟩:=ways_made ((w.alloc (.cells #[.int .i64 c.op,.string c.s,.string c.g.s,.int .i64 c.g.k,.int .i64 c.g.l,.int .i64 c.d.k,.int .u64 c.d.b,.string c.d.t,.slice Q n qc] 76)).alloc (.cells #[.slice none 0 0,.slice none 0 0,.slice none 0 0] 96))
 have HB:=below_seq HB0 B11
 have C1:=C0.below B11
 have N1:=N0.below B11
 have szV:w.heap.size+1<V11.heap.size:=N1.lt
 have hA1:=hA.below HB
 have RQ1:=RQ.below HB
 have hmk:=make_map
 obtain⟨a0,a1,a2,a3,a4,a5,a6,a7,a8⟩:=C0.c9
 obtain⟨A0,A1,A2,A3,A4,A5,A6,A7,A8⟩:=C1.c9
 obtain⟨n1,n2,n3,o1,o2,o3⟩:=N1.f3
 have HM:=J0 hm
 have HN:=J0 hn
 obtain⟨fv,is,hlk,hno⟩:=look_any M11 c.op p0 p1
 obtain⟨rfl,rfl⟩:=hno hop
 clear hno hop
 simp only[Jq] at r4 r6 r8 r10 r11 hlk M11
 have HR:=J0 hr
 clear hr
 go_enter Tryz.func97,Tryz.ntmps97
 go_wp2_with (first
  |(go_at_call 136;refine(named_func _ _ _ _).mono ?_;rintro e w' ⟨rfl,rfl⟩)
  |(go_at_call 62;refine(Right_m A cA m l HM.out true HR.out _ hA1 hl).mono ?_;rintro e W0 ⟨rfl,hb⟩;replace HB:=HB.trans (hb.mono HB.size);replace hA1:=hA1.below hb;replace RQ1:=RQ1.below hb;replace C1:=C1.below hb;replace N1:=N1.below hb;have c12:=cell_below (B:=0) hb c11;have d12:=cell_below (B:=0) hb d11;have e12:=cell_below (B:=0) hb e11;clear hb A0 A1 A2 A3 A4 A5 A6 A7 A8 n1 n2 n3 o1 o2 o3;obtain⟨A0,A1,A2,A3,A4,A5,A6,A7,A8⟩:=C1.c9;obtain⟨n1,n2,n3,o1,o2,o3⟩:=N1.f3))
 refine bodyPost_ret (v:=.tuple #[.agg #[.slice none 0 0,.slice none 0 0,.slice none 0 0],.int .i64 80]) (by simp[results,Tryz.results97,go_sem, *];done) rfl ⟨_,_,_,_,_,_,_,_,_,rfl,TVP.z _ _,?_⟩
 exact((HB.setCell (by show w.heap.size≤w.heap.size+1;omega) _).setCell (by show w.heap.size≤w.heap.size+1;omega) _).setCell (by show w.heap.size≤w.heap.size+1;omega) _
theorem mk_err {l:List Fd} {c:Ch} {e:Int} (hs:stepE l c=e) (he:e≠0):makeE l c=e∧makeT l c=Tb.z:=by
 have h1:makeE l c=e:=by rw[makeE,hs,if_neg he]
 exact⟨h1,by rw[makeT,h1,if_neg he]⟩
theorem mk_fin {l:List Fd} {c:Ch} {r:Bool} (hs:stepE l c=0) (h:r=rightF (newF l c)):(bif r then(0:Int) else 80)=makeE l c∧(bif r then tabC l c else Tb.z)=makeT l c:=by
 subst h
 have h1:makeE l c=if rightF (newF l c)=true then 0 else 80:=by rw[makeE,if_pos hs]
 rw[makeT,h1]
 cases rightF (newF l c) <;> simp
theorem modify_at {l:List Fd} {k:Nat} {f:Fd} (hf:l[k]?=some f) (g:Fd→Fd):l.modify k g=l.set k (g f):=by
 apply Xv
 intro i
 rw[List.getElem?_modify,List.getElem?_set]
 by_cases h:k=i
 ·subst h
  obtain⟨hk,he⟩:=J6.1 hf
  simp[hk,he]
 ·simp[h]
theorem Make_m (l:List Fd) (c:Ch) (m:Nat) (hm:l.length=m) (hl:m≤9223372036854775807) (A:Option Addr) (cA:Nat) (hcA:m≤cA) (Q:Option Addr) (n qc:Nat) (hn:c.q.length=n) (hn1:n≤17592186044415) (hqc:n≤qc) (p0:-9223372036854775808≤c.op) (p1:c.op≤9223372036854775807) (x0:0≤c.d.b) (x1:c.d.b<18446744073709551616) (w:World) (hA:Rd w A (cellsF l)) (RQ:Rd w Q (cellsI c.q)):
 Calls Tryz.prog 97 #[.slice A m cA,.agg #[.int .i64 c.op,.string c.s,.string c.g.s,.int .i64 c.g.k,.int .i64 c.g.l,.int .i64 c.d.k,.int .u64 c.d.b,.string c.d.t,.slice Q n qc]] w fun e w'=>MkP (makeT l c) (makeE l c) w e w':=by
 cases hr:rightF l
 ·obtain⟨e1,e2⟩:=mk_err (l:=l) (c:=c) (e:=60) (by simp[stepE,hr]) (by decide)
  rw[e1,e2]
  exact Make_form l c m hm hl A cA hcA Q n qc hn hn1 hqc p0 p1 x0 x1 w hA RQ hr
 by_cases hop:1≤c.op∧c.op≤5
 ·have no:∀q,q≠0→WayC l c m Tb.z q→stepE l c=q→Calls Tryz.prog 97 #[.slice A m cA,.agg #[.int .i64 c.op,.string c.s,.string c.g.s,.int .i64 c.g.k,.int .i64 c.g.l,.int .i64 c.d.k,.int .u64 c.d.b,.string c.d.t,.slice Q n qc]] w fun e w'=>MkP (makeT l c) (makeE l c) w e w':=fun q h0 hw hs=>by
   have h:=Make_way l c m hm hl A cA hcA Q n qc hn hn1 hqc p0 p1 x0 x1 w hA RQ hr _ q hw true (fun h=>absurd h h0)
   rw[if_neg h0,if_neg h0] at h
   obtain⟨e1,e2⟩:=mk_err hs h0
   rw[e1,e2];exact h
  have yes:∀r,WayC l c m (tabC l c) 0→rightT (tabC l c)=r→(stepE l c=0→r=rightF (newF l c))→(stepE l c≠0→stepE l c=80∧r=false)→Calls Tryz.prog 97 #[.slice A m cA,.agg #[.int .i64 c.op,.string c.s,.string c.g.s,.int .i64 c.g.k,.int .i64 c.g.l,.int .i64 c.d.k,.int .u64 c.d.b,.string c.d.t,.slice Q n qc]] w fun e w'=>MkP (makeT l c) (makeE l c) w e w':=fun r hw hR h1 h2=>by
   have h:=Make_way l c m hm hl A cA hcA Q n qc hn hn1 hqc p0 p1 x0 x1 w hA RQ hr _ 0 hw r (fun _=>hR)
   rw[if_pos rfl,if_pos rfl] at h
   by_cases hs:stepE l c=0
   ·obtain⟨e1,e2⟩:=mk_fin (r:=r) hs (h1 hs)
    rw[←e1,←e2];exact h
   ·obtain⟨e1,e2⟩:=mk_err (h2 hs).1 (by decide)
    rw[e1,e2];rw[(h2 hs).2] at h;exact h
  rcases(by omega:c.op=1∨c.op=5∨c.op=2∨c.op=3∨c.op=4) with e|e|e
  ·cases hv:rightB c.d.k c.d.b c.d.t c.g.k c.g.l
   ·exact no 80 (by decide) (.inl ⟨e,_,hv,rfl,rfl⟩) (by simp[stepE,hr,e,okVal,hv])
   ·have hR:=tabC_right hr hop (by omega) (by omega) (by omega)
    rw[e] at hR
    cases hok:okVal c
    ·rw[hok] at hR
     simp at hR
     exact yes _ (.inl ⟨e,_,hv,by simp[tabC,newF,newM,e,hm],rfl⟩) hR (fun h=>by simp[stepE,hr,e,hok] at h) (fun _=>⟨by simp[stepE,hr,e,hok],rfl⟩)
    ·rw[hok] at hR
     simp at hR
     exact yes _ (.inl ⟨e,_,hv,by simp[tabC,newF,newM,e,hm],rfl⟩) hR (fun _=>rfl) (fun h=>absurd (by simp[stepE,hr,e,hok]) h)
  ·cases hv:permB c.q m
   ·exact no 80 (by decide) (.inr (.inr (.inr ⟨e,_,hv,rfl,rfl⟩))) (by simp[stepE,hr,e,hm,hv])
   ·have hR:=tabC_right hr hop (by omega) (by omega) (fun _=>by rw[hm,hv])
    simp[e] at hR
    exact yes _ (.inr (.inr (.inr ⟨e,_,hv,by simp[tabC,newF,newM,e],rfl⟩))) hR (fun _=>rfl) (fun h=>absurd (by simp[stepE,hr,e,hm,hv]) h)
  ·by_cases hz:findZ l c.s<0
   ·exact no 61 (by decide) (.inr (.inl ⟨e,hz,rfl,rfl⟩)) (by rcases e with e|e|e <;> simp[stepE,hr,e,hz])
   have hk:findZ l c.s=(atC l c:Nat):=by unfold atC;omega
   obtain⟨f,hf⟩:∃f,l[atC l c]?=some f:=⟨_,J4 (atC_lt hz)⟩
   have hca:castsAt l c=castsB f.k f.l c.g.k c.g.l:=by simp[castsAt,hf]
   have hR:=fun h=>tabC_right hr hop (by omega) h (by omega)
   rcases e with e|e|e
   ·have hR:=hR (by omega)
    simp[e] at hR
    exact yes _ (.inr (.inr (.inl ⟨_,hk,.inl ⟨e,by simp[tabC,newF,newM,e,hm],rfl⟩⟩))) hR (fun _=>rfl) (fun h=>absurd (by simp[stepE,hr,e,hz]) h)
   ·have hR:=hR (by omega)
    simp[e] at hR
    exact yes _ (.inr (.inr (.inl ⟨_,hk,.inr ⟨f,hf,.inl ⟨e,by simp[tabC,newF,newM,e,hm,modify_at hf],rfl⟩⟩⟩))) hR (fun _=>rfl) (fun h=>absurd (by simp[stepE,hr,e,hz]) h)
   ·cases hv:castsB f.k f.l c.g.k c.g.l
    ·exact no 80 (by decide) (.inr (.inr (.inl ⟨_,hk,.inr ⟨f,hf,.inr ⟨e,_,hv,rfl,rfl⟩⟩⟩))) (by simp[stepE,hr,e,hz,hca,hv])
    ·have hR:=hR (fun _=>by rw[hca,hv])
     simp[e] at hR
     exact yes _ (.inr (.inr (.inl ⟨_,hk,.inr ⟨f,hf,.inr ⟨e,_,hv,by simp[tabC,newF,newM,e,hm,modify_at hf],rfl⟩⟩⟩))) hR (fun _=>rfl) (fun h=>absurd (by simp[stepE,hr,e,hz,hca,hv]) h)
 ·obtain⟨e1,e2⟩:=mk_err (l:=l) (c:=c) (e:=80) (by simp[stepE,hr,hop]) (by decide)
  rw[e1,e2]
  exact Make_op l c m hm hl A cA hcA Q n qc hn hn1 hqc p0 p1 x0 x1 w hA RQ hr hop
end
end Go.Proofs.YteembinfgbapgaaGreat
