/- Merged out of: Nw Nu Nv Oa Ob Oc Od Oe. -/
import Derived.Test.YteembinfgbapgaaGreatE00
import Derived.Test.YteembinfgbapgaaGreatE06
set_option linter.unusedSimpArgs false
set_option linter.unusedVariables false
set_option maxRecDepth 100000
set_option maxHeartbeats 8000000
namespace Go.Proofs.YteembinfgbapgaaGreat
section
open Go.RowKit Go.Lib Go.Maps
theorem tQ (n:Nat):iG (kM n):=by
 intro m hm
 simp only[kM,Vy] at hm
 obtain⟨j,_,rfl⟩:=hm
 exact⟨by show(0:Int)<=0;omega,by show(0:Int)<_;omega⟩
theorem CJ {a:List Mv} {d:Vl} {x:Int} (ha:iG a) (x0:0<=d.b) (x1:d.b<18446744073709551616):iG (a++[⟨x,d⟩]):=by
 intro m hm
 rcases X5.1 hm with h|h
 ·exact ha m h
 ·simp at h;subst h;exact⟨x0,x1⟩
theorem CK {a:List Mv} (ha:iG a) (k:Nat):iG (a.eraseIdx k):=fun m hm=>ha m (List.mem_of_mem_eraseIdx hm)
theorem CL (q:List Int):iG (q.map fun x=>⟨x,Vl.z⟩):=by
 intro m hm
 obtain⟨j,_,rfl⟩:=Vy.1 hm
 exact⟨by show(0:Int)<=0;omega,by show(0:Int)<_;omega⟩
def yu (l:List Fd) (c:Ch) (m:Nat) (T:Tb) (q:Int):Prop:=
 (c.op=1/\∃b,aM c.d.k c.d.b c.d.t c.g.k c.g.l=b/\T=(bif b then⟨l,l++[c.g],kM m++[⟨-1,c.d⟩]⟩ else Tb.z)/\q=bif b then 0 else 80)\/
 ((c.op=2\/c.op=3\/c.op=4)/\aW l c.s<0/\T=Tb.z/\q=61)\/
 (∃k:Nat,aW l c.s=k/\(c.op=2/\T=⟨l,l.eraseIdx k,(kM m).eraseIdx k⟩/\q=0\/∃f:Fd,l[k]?=some f/\(c.op=3/\T=⟨l,l.set k ⟨c.g.s,f.k,f.l⟩,kM m⟩/\q=0\/c.op=4/\∃b,aU f.k f.l c.g.k c.g.l=b/\T=(bif b then⟨l,l.set k ⟨f.s,c.g.k,c.g.l⟩,kM m⟩ else Tb.z)/\q=bif b then 0 else 80)))\/
 (c.op=5/\∃b,fD c.q m=b/\T=(bif b then⟨l,c.q.map fun x=>(l[x.toNat]?).getD Fd.z,c.q.map fun x=>⟨x,Vl.z⟩⟩ else Tb.z)/\q=bif b then 0 else 80)
theorem DF {l:List Fd} {c:Ch} {m:Nat} {T:Tb} (h:yu l c m T 0) (x0:0<=c.d.b) (x1:c.d.b<18446744073709551616) (hm:l.length=m) (hl:m<=9223372036854775807) (h16:m<=16) (hq:c.q.length<=17592186044415):iG T.m/\T.o.length<=9223372036854775807/\T.n.length<=9223372036854775807/\T.m.length<=9223372036854775807:=by
 have z:iG Tb.z.m:=by intro m hm;cases hm
 rcases h with ⟨_,b,_,rfl,_⟩|⟨_,_,rfl,_⟩|⟨k,_,⟨_,rfl,_⟩|⟨f,_,⟨_,rfl,_⟩|⟨_,b,_,rfl,_⟩⟩⟩|⟨_,b,_,rfl,_⟩
 ·cases b
  ·exact⟨z,X6 _,X6 _,X6 _⟩
  ·exact⟨CJ (tQ m) x0 x1,by show l.length<=_;omega,by simp;omega,by simp[aP];omega⟩
 ·exact⟨z,X6 _,X6 _,X6 _⟩
 ·exact⟨CK (tQ m) k,by show l.length<=_;omega,by simp only[List.length_eraseIdx];split <;> omega,by simp only[List.length_eraseIdx,aP];split <;> omega⟩
 ·exact⟨tQ m,by show l.length<=_;omega,by simp;omega,by simp[aP];omega⟩
 ·cases b
  ·exact⟨z,X6 _,X6 _,X6 _⟩
  ·exact⟨tQ m,by show l.length<=_;omega,by simp;omega,by simp[aP];omega⟩
 ·cases b
  ·exact⟨z,X6 _,X6 _,X6 _⟩
  ·exact⟨CL c.q,by show l.length<=_;omega,by simp;omega,by simp;omega⟩
def Ex (l:List Fd) (c:Ch) (m:Nat) (Q:EL) (n qc:Nat) (W:EQ) (f:Nat) (G:ER->ER->Array ER) (T:Tb) (q:Int):Prop:=
 ∀{W1 W2:EQ} (h0:Below W.heap.size W W1) (hX:Below W1.heap.size W1 W2) (B:EL) (d b1 b2 a:Nat) (X2:EL) (z2:Nat) (X3:EL) (z3:Nat) (RQ:Rd W1 Q (aV c.q)) (ha1:a<=b1) (h12:b1<=b2) (h2:b2<=W1.heap.size) (R1:gm b1 W1 B (aC l)) (hBa:∀ad,B=some ad->a<=ad.block) (own2:W1.ownsRow b1 68 3 (.slice X2 m z2) m (aC l)) (lt2:cO b2 (.slice X2 m z2)) (own3:W1.ownsRow b2 137 4 (.slice X3 m z3) m (aJ (kM m))) (hBu:∀ad,B=some ad->ad.block<W1.heap.size),
  Calls Tryz.prog f (G (.agg #[.slice B m d,.slice X2 m z2,.slice X3 m z3]) (.agg #[.int .i64 c.op,.string c.s,.string c.g.s,.int .i64 c.g.k,.int .i64 c.g.l,.int .i64 c.d.k,.int .u64 c.d.b,.string c.d.t,.slice Q n qc])) W2 fun e w'=>dZ (Value.slice X2 m z2).ownBlock (Value.slice X3 m z3).ownBlock (fun g=>(a<=g/\g<W1.heap.size)\/W2.heap.size<=g) T q W2 e w'
theorem mG {V11:EQ} {b:Nat} {F1 F2 F3 F4 F5:ER} (M:jb V11 b [fP (.int .i64 1) F1 0,fP (.int .i64 2) F2 1,fP (.int .i64 3) F3 2,fP (.int .i64 4) F4 3,fP (.int .i64 5) F5 4] 5) (k:Int) (i:Nat) (F:ER) (hk:1<=k/\k<=5) (hi:fP (.int .i64 k) F i∈[fP (.int .i64 1) F1 0,fP (.int .i64 2) F2 1,fP (.int .i64 3) F3 2,fP (.int .i64 4) F4 3,fP (.int .i64 5) F5 4]):
 (Instr.lookup 206 (.map (some b)) (.int .i64 k) true).run Tryz.prog V11=.ok (.tuple #[F,.bool true]) V11:=by
 rcases(by omega:k=1\/k=2\/k=3\/k=4\/k=5) with rfl|rfl|rfl|rfl|rfl
 all_goals
  have h0:=hi
  simp[fP] at hi
  obtain⟨rfl,rfl⟩:=hi
  exact map_some iy Tryz.underlying206 M (zh (ks:=[1,2,3,4,5]) rfl (by simp)) (qq (by omega) (by omega)) ⟨_,h0,rfl⟩ (by intro x hx hk;simp at hx;rcases hx with rfl|rfl|rfl|rfl|rfl <;> first|rfl|(simp[fP] at hk)) true
theorem DE {l:List Fd} {c:Ch} {m:Nat} {T:Tb} {q:Int} {Q:EL} {n qc:Nat} {V:EQ} {b p4 p6 p8:Nat}
 (M:jb V b [fP (.int .i64 1) (.func (.func 135) #[] #[]) 0,fP (.int .i64 2) (.func (.func 161) #[] #[.pointer (some ⟨p4,0,none⟩)]) 1,fP (.int .i64 3) (.func (.func 161) #[] #[.pointer (some ⟨p6,0,none⟩)]) 2,fP (.int .i64 4) (.func (.func 161) #[] #[.pointer (some ⟨p8,0,none⟩)]) 3,fP (.int .i64 5) (.func (.func 140) #[] #[]) 4] 5)
 (c11:V.cell? ⟨p4,0,none⟩=some (.func (.func 137) #[] #[])) (d11:V.cell? ⟨p6,0,none⟩=some (.func (.func 138) #[] #[])) (e11:V.cell? ⟨p8,0,none⟩=some (.func (.func 139) #[] #[]))
 (hm:l.length=m) (h16:m<=16) (hn:c.q.length=n) (hn1:n<=17592186044415) (hqc:n<=qc) (x0:0<=c.d.b) (x1:c.d.b<18446744073709551616) (hw:yu l c m T q):
 ∃(f:Nat) (x:Array ER) (G:ER->ER->Array ER),(Instr.lookup 206 (.map (some b)) (.int .i64 c.op) true).run Tryz.prog V=.ok (.tuple #[.func (.func f) #[] x,.bool true]) V/\
  ((f=135/\x=#[]/\G=fun a b=>#[a,b])\/(∃p:Nat,f=161/\x=#[.pointer (some ⟨p,0,none⟩)]/\G=fun a b=>#[a,b,.pointer (some ⟨p,0,none⟩)])\/(f=140/\x=#[]/\G=fun a b=>#[a,b]))/\Ex l c m Q n qc V f G T q:=by
 have hc:∀{p:Nat} {F:ER} {W1:EQ},Below V.heap.size V W1->V.cell? ⟨p,0,none⟩=some F->W1.cell? ⟨p,0,none⟩=some F:=fun hb h=>aE (B:=0) hb h
 rcases hw with ⟨ho,b,hb,rfl,rfl⟩|⟨ho,hz,rfl,rfl⟩|⟨k,hz,⟨ho,rfl,rfl⟩|⟨f,hf,⟨ho,rfl,rfl⟩|⟨ho,b,hb,rfl,rfl⟩⟩⟩|⟨ho,b,hb,rfl,rfl⟩
 ·refine⟨135,#[],_,mG M c.op 0 _ (by omega) (by rw[ho];simp),.inl ⟨rfl,rfl,rfl⟩,?_⟩
  intro W1 W2 h0 hX B d b1 b2 a X2 z2 X3 z3 RQ ha1 h12 h2 R1 hBa own2 lt2 own3 hBu
  cases b
  ·exact uj hX l c m hm h16 B d b1 b2 a _ _ Q n qc hn hn1 hqc RQ ha1 h12 h2 R1 hBa own2 lt2 own3 x0 x1 hBu hb
  ·exact sW hX l c m hm h16 B d b1 b2 a _ _ Q n qc hn hn1 hqc RQ ha1 h12 h2 R1 hBa own2 lt2 own3 x0 x1 hBu hb
 ·rcases ho with ho|ho|ho
  ·refine⟨161,#[.pointer (some ⟨p4,0,none⟩)],_,mG M c.op 1 _ (by omega) (by rw[ho];simp),.inr (.inl ⟨p4,rfl,rfl,rfl⟩),?_⟩
   intro W1 W2 h0 hX B d b1 b2 a X2 z2 X3 z3 RQ ha1 h12 h2 R1 hBa own2 lt2 own3 hBu
   exact jB hX l c m hm h16 B d b1 b2 a _ _ Q n qc hn hn1 hqc RQ ha1 h12 h2 R1 hBa own2 lt2 own3 x0 x1 hBu p4 _ (hc h0 c11) hz
  ·refine⟨161,#[.pointer (some ⟨p6,0,none⟩)],_,mG M c.op 2 _ (by omega) (by rw[ho];simp),.inr (.inl ⟨p6,rfl,rfl,rfl⟩),?_⟩
   intro W1 W2 h0 hX B d b1 b2 a X2 z2 X3 z3 RQ ha1 h12 h2 R1 hBa own2 lt2 own3 hBu
   exact jB hX l c m hm h16 B d b1 b2 a _ _ Q n qc hn hn1 hqc RQ ha1 h12 h2 R1 hBa own2 lt2 own3 x0 x1 hBu p6 _ (hc h0 d11) hz
  ·refine⟨161,#[.pointer (some ⟨p8,0,none⟩)],_,mG M c.op 3 _ (by omega) (by rw[ho];simp),.inr (.inl ⟨p8,rfl,rfl,rfl⟩),?_⟩
   intro W1 W2 h0 hX B d b1 b2 a X2 z2 X3 z3 RQ ha1 h12 h2 R1 hBa own2 lt2 own3 hBu
   exact jB hX l c m hm h16 B d b1 b2 a _ _ Q n qc hn hn1 hqc RQ ha1 h12 h2 R1 hBa own2 lt2 own3 x0 x1 hBu p8 _ (hc h0 e11) hz
 ·refine⟨161,#[.pointer (some ⟨p4,0,none⟩)],_,mG M c.op 1 _ (by omega) (by rw[ho];simp),.inr (.inl ⟨p4,rfl,rfl,rfl⟩),?_⟩
  intro W1 W2 h0 hX B d b1 b2 a X2 z2 X3 z3 RQ ha1 h12 h2 R1 hBa own2 lt2 own3 hBu
  exact np hX l c m hm h16 B d b1 b2 a _ _ Q n qc hn hn1 hqc RQ ha1 h12 h2 R1 hBa own2 lt2 own3 x0 x1 hBu p4 (hc h0 c11) k hz
 ·refine⟨161,#[.pointer (some ⟨p6,0,none⟩)],_,mG M c.op 2 _ (by omega) (by rw[ho];simp),.inr (.inl ⟨p6,rfl,rfl,rfl⟩),?_⟩
  intro W1 W2 h0 hX B d b1 b2 a X2 z2 X3 z3 RQ ha1 h12 h2 R1 hBa own2 lt2 own3 hBu
  exact lN hX l c m hm h16 B d b1 b2 a _ _ Q n qc hn hn1 hqc RQ ha1 h12 h2 R1 hBa own2 lt2 own3 x0 x1 hBu p6 (hc h0 d11) k hz f hf
 ·refine⟨161,#[.pointer (some ⟨p8,0,none⟩)],_,mG M c.op 3 _ (by omega) (by rw[ho];simp),.inr (.inl ⟨p8,rfl,rfl,rfl⟩),?_⟩
  intro W1 W2 h0 hX B d b1 b2 a X2 z2 X3 z3 RQ ha1 h12 h2 R1 hBa own2 lt2 own3 hBu
  cases b
  ·exact je hX l c m hm h16 B d b1 b2 a _ _ Q n qc hn hn1 hqc RQ ha1 h12 h2 R1 hBa own2 lt2 own3 x0 x1 hBu p8 (hc h0 e11) k hz f hf hb
  ·exact jC hX l c m hm h16 B d b1 b2 a _ _ Q n qc hn hn1 hqc RQ ha1 h12 h2 R1 hBa own2 lt2 own3 x0 x1 hBu p8 (hc h0 e11) k hz f hf hb
 ·refine⟨140,#[],_,mG M c.op 4 _ (by omega) (by rw[ho];simp),.inr (.inr ⟨rfl,rfl,rfl⟩),?_⟩
  intro W1 W2 h0 hX B d b1 b2 a X2 z2 X3 z3 RQ ha1 h12 h2 R1 hBa own2 lt2 own3 hBu
  cases b
  ·exact rA hX l c m hm h16 B d b1 b2 a _ _ Q n qc hn hn1 hqc RQ ha1 h12 h2 R1 hBa own2 lt2 own3 x0 x1 hBu _ _ _ rfl _ _ _ rfl hb
  ·exact pJ hX l c m hm h16 B d b1 b2 a _ _ Q n qc hn hn1 hqc RQ ha1 h12 h2 R1 hBa own2 lt2 own3 x0 x1 hBu _ _ _ rfl _ _ _ rfl hb
theorem sL (l:List Fd) (c:Ch) (m:Nat) (hm:l.length=m) (hl:m<=9223372036854775807) (A:EL) (cA:Nat) (hcA:m<=cA) (Q:EL) (n qc:Nat) (hn:c.q.length=n) (hn1:n<=17592186044415) (hqc:n<=qc) (p0:-9223372036854775808<=c.op) (p1:c.op<=9223372036854775807) (x0:0<=c.d.b) (x1:c.d.b<18446744073709551616) (w:EQ) (hA:Rd w A (aC l)) (RQ:Rd w Q (aV c.q)) (hr:aK l=true) (T:Tb) (q:Int) (hw:yu l c m T q) (r:Bool) (hrt:q=0->ar T=r):
 Calls Tryz.prog 97 #[.slice A m cA,.agg #[.int .i64 c.op,.string c.s,.string c.g.s,.int .i64 c.g.k,.int .i64 c.g.l,.int .i64 c.d.k,.int .u64 c.d.b,.string c.d.t,.slice Q n qc]] w fun e w'=>Bc (if q=0 then bif r then T else Tb.z else Tb.z) (if q=0 then bif r then 0 else 80 else q) w e w':=by
 have h16:m<=16:=by rw[<-hm];exact(aQ hr).2
 have bb1:=aA (w:=w) (.cells #[.int .i64 c.op,.string c.s,.string c.g.s,.int .i64 c.g.k,.int .i64 c.g.l,.int .i64 c.d.k,.int .u64 c.d.b,.string c.d.t,.slice Q n qc] 76)
 have bb2:=aA (w:=w.alloc (.cells #[.int .i64 c.op,.string c.s,.string c.g.s,.int .i64 c.g.k,.int .i64 c.g.l,.int .i64 c.d.k,.int .u64 c.d.b,.string c.d.t,.slice Q n qc] 76)) (.cells #[.slice none 0 0,.slice none 0 0,.slice none 0 0] 96)
 have C0:cx _ _ c (.slice Q n qc) 76:=(aD.new w (pX c (.slice Q n qc)) 76).below bb2
 have N0:=aD.new (w.alloc (.cells #[.int .i64 c.op,.string c.s,.string c.g.s,.int .i64 c.g.k,.int .i64 c.g.l,.int .i64 c.d.k,.int .u64 c.d.b,.string c.d.t,.slice Q n qc] 76)) [.slice none 0 0,.slice none 0 0,.slice none 0 0] 96
 rw[Jq] at N0
 have HB0:=aB bb1 bb2
 obtain⟨V4,V6,V8,V10,V11,r4,r6,r8,r10,r11,M11,c11,d11,e11,B11⟩:=lg ((w.alloc (.cells #[.int .i64 c.op,.string c.s,.string c.g.s,.int .i64 c.g.k,.int .i64 c.g.l,.int .i64 c.d.k,.int .u64 c.d.b,.string c.d.t,.slice Q n qc] 76)).alloc (.cells #[.slice none 0 0,.slice none 0 0,.slice none 0 0] 96))
 have HB:=aB HB0 B11
 have C1:=C0.below B11
 have N1:=N0.below B11
 have szV:w.heap.size+1<V11.heap.size:=N1.lt
 have hA1:=hA.below HB
 have RQ1:=RQ.below HB
 have hmk:=nj
 obtain⟨a0,a1,a2,a3,a4,a5,a6,a7,a8⟩:=C0.c9
 obtain⟨A0,A1,A2,A3,A4,A5,A6,A7,A8⟩:=C1.c9
 obtain⟨n1,n2,n3,o1,o2,o3⟩:=N1.f3
 have HM:=J0 hm
 have HN:=J0 hn
 have HW5:=J0 hw
 obtain⟨f,x,G,hlk,hg,hW⟩:=DE (b:=((w.alloc (.cells #[.int .i64 c.op,.string c.s,.string c.g.s,.int .i64 c.g.k,.int .i64 c.g.l,.int .i64 c.d.k,.int .u64 c.d.b,.string c.d.t,.slice Q n qc] 76)).alloc (.cells #[.slice none 0 0,.slice none 0 0,.slice none 0 0] 96)).heap.size) M11 c11 d11 e11 hm h16 hn hn1 hqc x0 x1 HW5.out
 simp only[Jq] at r4 r6 r8 r10 r11 hlk M11
 have HR:=J0 hr
 have HRT:=J0 hrt
 have hWW:Hid (Ex l c m Q n qc V11 f G T q):=J0 hW
 clear hr hrt hW hw
 go_enter Tryz.func97,Tryz.ntmps97
 go_upto_region 7 with (first
  |(go_at_call 136;refine(kE _ _ _ _).mono ?_;rintro e w' ⟨rfl,rfl⟩)
  |(go_at_call 62;refine(bY A cA m l HM.out true HR.out _ hA1 hl).mono ?_;rintro e W0 ⟨rfl,hb⟩;replace HB:=HB.trans (hb.mono HB.size);replace hA1:=hA1.below hb;replace RQ1:=RQ1.below hb;replace C1:=C1.below hb;replace N1:=N1.below hb;have c12:=aE (B:=0) hb c11;have d12:=aE (B:=0) hb d11;have e12:=aE (B:=0) hb e11;have hVW:=hb;clear hb A0 A1 A2 A3 A4 A5 A6 A7 A8 n1 n2 n3 o1 o2 o3;obtain⟨A0,A1,A2,A3,A4,A5,A6,A7,A8⟩:=C1.c9;obtain⟨n1,n2,n3,o1,o2,o3⟩:=N1.f3))
 have szW:w.heap.size+1<W0.heap.size:=N1.lt
 have hAd:Rd W0.drew A (aC l):=hA1
 have hAe:Rd (W0.drew.alloc (.cells #[.slice none 0 0,.slice none 0 0,.slice none 0 0] 96)) A (aC l):=Rd.below (w:=W0.drew) hA1 (aA _)
 have hAf:Rd (W0.alloc (.cells #[.slice none 0 0,.slice none 0 0,.slice none 0 0] 96)).drew A (aC l):=hA1.below (Jv (aA _))
 obtain⟨E0,E1,E2,E3,E4,E5,E6,E7,E8⟩:=(C1.below (aA (.cells #[.slice none 0 0,.slice none 0 0,.slice none 0 0] 96))).c9
 clear a0 a1 a2 a3 a4 a5 a6 a7 a8 r4 r6 r8 r10 r11 hlk M11 c11 d11 e11 C0 N0 HB0 hmk B11
 go_cut [9,10] (fun s9 s10 wx=>∃p X0 y0 z0 X1 y1 z1 X2 y2 z2,s9=.pointer (some ⟨p,0,none⟩)/\s10=.int .i64 q/\aD wx p [.slice X0 y0 z0,.slice X1 y1 z1,.slice X2 y2 z2] 96/\Hid (q=0->gP (fun g=>w.heap.size+2<=g) wx (.agg #[.slice X0 y0 z0,.slice X1 y1 z1,.slice X2 y2 z2]) T)/\aD wx (w.heap.size+1) [.slice none 0 0,.slice none 0 0,.slice none 0 0] 96/\Below w.heap.size w wx)
 case first=>
  rcases hg with ⟨rfl,rfl,rfl⟩|⟨bp,rfl,rfl,rfl⟩|⟨rfl,rfl,rfl⟩
  all_goals go_region_with (first
   |(go_at_call 45;refine(xa A cA m l HM.out HR.out _ (by with_reducible assumption) hl hcA).mono ?_;rintro e W1 ⟨B,d,v2,v3,b1,b2,rfl,hb1,hb12,hb2,R1,hBl,own2,lt2,own3,hbS⟩;obtain⟨X2,z2,rfl,u1,u2,u3⟩:=aL own2;obtain⟨X3,z3,rfl,u4,u5,u6⟩:=aL own3;clear u1 u2 u3 u4 u5 u6;(first|(have h01:Below W0.heap.size W0 W1:=(by with_reducible exact Below.undrewS hbS);obtain⟨a,haE,ha2,hBa⟩:∃a,a=W0.heap.size/\a<=b1/\(∀ad,B=some ad->a<=ad.block):=⟨_,rfl,hb1,fun ad e=>(hBl ad e).1⟩)|(have h01:Below W0.heap.size W0 W1:=(by first|with_reducible exact Below.undrewA hbS|with_reducible exact Below.undrewB hbS);obtain⟨a,haE,ha2,hBa⟩:∃a,a=W0.heap.size+1/\a<=b1/\(∀ad,B=some ad->a<=ad.block):=⟨_,rfl,by simpa using hb1,fun ad e=>by have:=(hBl ad e).1;simp at this;omega⟩;have PBX:aD W1 W0.heap.size [.slice none 0 0,.slice none 0 0,.slice none 0 0] 96:=(by first|with_reducible exact aD.newA hbS|with_reducible exact aD.newB hbS)));have ha0:W0.heap.size<=a:=(by omega);have hBu:∀ad,B=some ad->ad.block<W1.heap.size:=(fun ad e=>by have:=(hBl ad e).2;omega);clear hb1 hBl hbS;have HAE:=J0 haE;clear haE;have C2:=C1.below h01;have C3:=C2.below (aA (.cells #[.slice none 0 0,.slice none 0 0,.slice none 0 0] 96));obtain⟨G0,G1,G2,G3,G4,G5,G6,G7,G8⟩:=C2.c9;obtain⟨K0,K1,K2,K3,K4,K5,K6,K7,K8⟩:=C3.c9)
   |((first|go_at_call 135|go_at_call 161|go_at_call 140);refine(hWW.out (hVW.trans (h01.mono hVW.size)) (by first|with_reducible exact Jy _ _|with_reducible exact aA _) B d b1 b2 a _ _ _ _ (RQ1.below h01) ha2 hb12 hb2 R1 hBa own2 lt2 own3 hBu).mono ?_;rintro e W3 ⟨X0,y0,z0,X1,y1,z1,X4,y4,z4,rfl,hTV,hO⟩;have HT:=J0 hTV;clear hTV;(first|(have PB3:=PBX.only hO (by intro e;have:=aF own2 _ e.symm;have:=HAE.out;omega) (by intro e;have:=aF own3 _ e.symm;have:=HAE.out;omega);obtain⟨s1,s2,s3,t1,t2,t3⟩:=PB3.f3)|(have PB3:aD W3 W1.heap.size [.slice none 0 0,.slice none 0 0,.slice none 0 0] 96:=(by refine aD.only ?_ hO (by intro e;have:=aY own2 _ e.symm;omega) (by intro e;have:=aY own3 _ e.symm;omega);exact aD.new _ _ _);obtain⟨s1,s2,s3,t1,t2,t3⟩:=PB3.f3)|skip)))
  all_goals (go_wp2_with fail;go_meet;refine⟨_,X0,y0,z0,X1,y1,z1,X4,y4,z4,rfl,rfl,?_⟩)
  all_goals
   have hr2:∀g,(Value.slice X2 m z2).ownBlock=some g->W0.heap.size<=g:=fun g hg=>by have:=aF own2 g hg;omega
   have hr3:∀g,(Value.slice X3 m z3).ownBlock=some g->W0.heap.size<=g:=fun g hg=>by have:=aF own3 g hg;omega
   have haW:a<=W1.heap.size:=by omega
   first
    |(obtain⟨q1,q2,q3,q4⟩:=po (x:=.slice X0 y0 z0) (y:=.slice X1 y1 z1) (z:=.slice X4 y4 z4) HB ha0 haW szW h01 (by first|with_reducible exact Jy _ _|with_reducible exact aA _) hO hr2 hr3 HT.out (Jy _ _) PB3 (.inl (by have:=HAE.out;omega)) (J9 _) N1;exact⟨q1,J0 q2,q3,q4⟩)
    |(obtain⟨q1,q2,q3,q4⟩:=po (x:=.slice X0 y0 z0) (y:=.slice X1 y1 z1) (z:=.slice X4 y4 z4) HB ha0 haW szW h01 (by with_reducible exact aA _) hO hr2 hr3 HT.out (Jy _ _) PB3 (.inr (.inl ⟨J9 _,by simp⟩)) h01.size N1;exact⟨q1,J0 q2,q3,q4⟩)
    |(obtain⟨q1,q2,q3,q4⟩:=xx (x:=.slice X0 y0 z0) (y:=.slice X1 y1 z1) (z:=.slice X4 y4 z4) (T:=96) HB ha0 haW szW h01 (by first|with_reducible exact Jy _ _|with_reducible exact aA _) hO hr2 hr3 HT.out N1;exact⟨q1,J0 q2,q3,q4⟩)
 case rest=>
  clear RQ1 C1 HB N1 hA1 hAd hAe hAf c12 d12 e12 A0 A1 A2 A3 A4 A5 A6 A7 A8 n1 n2 n3 o1 o2 o3 E0 E1 E2 E3 E4 E5 E6 E7 E8 szW szV
  obtain⟨p,X0,y0,z0,X1,y1,z1,X2,y2,z2,rfl,rfl,PB,HT,N1,HB⟩:=hcut
  obtain⟨i1,i2,i3,j1,j2,j3⟩:=PB.f3
  obtain⟨n1,n2,n3,o1,o2,o3⟩:=N1.f3
  by_cases hq:q=0
  ·subst hq
   have HT:=J0 (HT.out rfl)
   have HRT:=J0 (HRT.out rfl)
   obtain⟨_,_,_,_,_,_,ev,hd,R0,R1,R2⟩:=HT.out
   cases ev
   obtain⟨f1,f2,f3,f4⟩:=DF HW5.out x0 x1 HM.out hl h16 (by rw[HN.out];exact hn1)
   have HW:=J0 f1
   have l0:=J0 f2
   have l1:=J0 f3
   have l2:=J0 f4
   clear f1 f2 f3 f4
   have R0r:=R0.rd
   have R1r:=R1.rd
   have R2r:=R2.rd
   cases r
   ·go_wp2_with (go_at_call 72;refine(dB T _ _ _ _ _ _ _ _ _ rfl rfl rfl l0.out l1.out l2.out HW.out _ R0r R1r R2r).mono ?_;rintro e wM ⟨rfl,hb⟩;rw[HRT.out];replace HB:=HB.trans (hb.mono HB.size);replace PB:=PB.below hb;replace N1:=N1.below hb;clear hb i1 i2 i3 j1 j2 j3 n1 n2 n3 o1 o2 o3;obtain⟨i1,i2,i3,j1,j2,j3⟩:=PB.f3;obtain⟨n1,n2,n3,o1,o2,o3⟩:=N1.f3)
    refine Xx (v:=.tuple #[.agg #[.slice none 0 0,.slice none 0 0,.slice none 0 0],.int .i64 80]) (by simp[results,Tryz.results97,go_sem, *];done) rfl ?_
    show Bc _ _ _ _ _
    try rw[Xz rfl,Xz rfl]
    refine⟨_,_,_,_,_,_,_,_,_,rfl,gP.z _ _,?_⟩
    exact((HB.setCell (by show w.heap.size<=w.heap.size+1;omega) _).setCell (by show w.heap.size<=w.heap.size+1;omega) _).setCell (by show w.heap.size<=w.heap.size+1;omega) _
   ·go_wp2_with (go_at_call 72;refine(dB T _ _ _ _ _ _ _ _ _ rfl rfl rfl l0.out l1.out l2.out HW.out _ R0r R1r R2r).mono ?_;rintro e wM ⟨rfl,hb⟩;rw[HRT.out];replace HB:=HB.trans (hb.mono HB.size);replace PB:=PB.below hb;replace N1:=N1.below hb;have HTV:=J0 (gP.keep HT.out.lt (fun g hg=>hb.block g hg.2));clear hb i1 i2 i3 j1 j2 j3 n1 n2 n3 o1 o2 o3;obtain⟨i1,i2,i3,j1,j2,j3⟩:=PB.f3;obtain⟨n1,n2,n3,o1,o2,o3⟩:=N1.f3)
    refine Xx (v:=.tuple #[.agg #[.slice X0 T.o.length z0,.slice X1 T.n.length z1,.slice X2 T.m.length z2],.int .i64 0]) (by simp[results,Tryz.results97,go_sem, *];done) rfl ?_
    show Bc _ _ _ _ _
    try rw[Xz rfl,Xz rfl]
    refine⟨_,_,_,_,_,_,_,_,_,rfl,?_,?_⟩
    ·refine(HTV.out.keep (fun g hg=>?_)).mono (fun g hg=>?_)
     ·have h:=hg.1
      exact(J5 _ _ _ _ (by show g≠w.heap.size+1;omega)).trans ((J5 _ _ _ _ (by show g≠w.heap.size+1;omega)).trans (J5 _ _ _ _ (by show g≠w.heap.size+1;omega)))
     ·have h:=hg.1
      show w.heap.size<=g
      omega
    ·exact((HB.setCell (by show w.heap.size<=w.heap.size+1;omega) _).setCell (by show w.heap.size<=w.heap.size+1;omega) _).setCell (by show w.heap.size<=w.heap.size+1;omega) _
  ·have hq1:(q == 0)=false:=by simp[hq]
   go_wp2
   refine Xx (v:=.tuple #[.agg #[.slice none 0 0,.slice none 0 0,.slice none 0 0],.int .i64 q]) (by simp[results,Tryz.results97,go_sem, *];done) rfl ?_
   show Bc _ _ _ _ _
   try rw[Xy hq,Xy hq]
   refine⟨_,_,_,_,_,_,_,_,_,rfl,gP.z _ _,?_⟩
   exact((HB.setCell (by show w.heap.size<=w.heap.size+1;omega) _).setCell (by show w.heap.size<=w.heap.size+1;omega) _).setCell (by show w.heap.size<=w.heap.size+1;omega) _
theorem Dh:(Tryz.prog.info? 203).map (fun i=>(i.zero,i.size,i.bytes))=some (some Value.nilFunc,1,8):=by kernel_rfl
theorem DH (w:EQ):(zeroValue 203).run Tryz.prog w=.ok Value.nilFunc w:=by
 obtain⟨i0,hi0,hz0,_,_⟩:=info_parts Dh
 simp only[zeroValue,Sem.run_bind,run_typeInfo _ hi0,Result.andThen_ok,hz0,Sem.run_pure]
theorem tR {V11:EQ} {b:Nat} {F1 F2 F3 F4 F5:ER} (M:jb V11 b [fP (.int .i64 1) F1 0,fP (.int .i64 2) F2 1,fP (.int .i64 3) F3 2,fP (.int .i64 4) F4 3,fP (.int .i64 5) F5 4] 5) (o:Int) (p0:-9223372036854775808<=o) (p1:o<=9223372036854775807):
 ∃v is,(Instr.lookup 206 (.map (some b)) (.int .i64 o) true).run Tryz.prog V11=.ok (.tuple #[v,.bool is]) V11/\((¬(1<=o/\o<=5))->is=false/\v=Value.nilFunc):=by
 have hk:=zh (es:=[fP (.int .i64 1) F1 0,fP (.int .i64 2) F2 1,fP (.int .i64 3) F3 2,fP (.int .i64 4) F4 3,fP (.int .i64 5) F5 4]) (ks:=[1,2,3,4,5]) rfl (by simp)
 by_cases h:1<=o/\o<=5
 ·rcases(by omega:o=1\/o=2\/o=3\/o=4\/o=5) with rfl|rfl|rfl|rfl|rfl
  ·exact⟨F1,true,map_some iy Tryz.underlying206 M hk (qq (by omega) (by omega)) ⟨fP (.int .i64 1) F1 0,by simp,rfl⟩ (by intro x hx hk;simp at hx;rcases hx with rfl|rfl|rfl|rfl|rfl <;> first|rfl|(simp[fP] at hk)) true,fun h'=>absurd h h'⟩
  ·exact⟨F2,true,map_some iy Tryz.underlying206 M hk (qq (by omega) (by omega)) ⟨fP (.int .i64 2) F2 1,by simp,rfl⟩ (by intro x hx hk;simp at hx;rcases hx with rfl|rfl|rfl|rfl|rfl <;> first|rfl|(simp[fP] at hk)) true,fun h'=>absurd h h'⟩
  ·exact⟨F3,true,map_some iy Tryz.underlying206 M hk (qq (by omega) (by omega)) ⟨fP (.int .i64 3) F3 2,by simp,rfl⟩ (by intro x hx hk;simp at hx;rcases hx with rfl|rfl|rfl|rfl|rfl <;> first|rfl|(simp[fP] at hk)) true,fun h'=>absurd h h'⟩
  ·exact⟨F4,true,map_some iy Tryz.underlying206 M hk (qq (by omega) (by omega)) ⟨fP (.int .i64 4) F4 3,by simp,rfl⟩ (by intro x hx hk;simp at hx;rcases hx with rfl|rfl|rfl|rfl|rfl <;> first|rfl|(simp[fP] at hk)) true,fun h'=>absurd h h'⟩
  ·exact⟨F5,true,map_some iy Tryz.underlying206 M hk (qq (by omega) (by omega)) ⟨fP (.int .i64 5) F5 4,by simp,rfl⟩ (by intro x hx hk;simp at hx;rcases hx with rfl|rfl|rfl|rfl|rfl <;> first|rfl|(simp[fP] at hk)) true,fun h'=>absurd h h'⟩
 ·refine⟨Value.nilFunc,false,tT iy Tryz.underlying206 M hk (qq p0 p1) (wY (ks:=[1,2,3,4,5]) rfl (by simp;omega)) (DH V11) true,fun _=>⟨rfl,rfl⟩⟩
theorem xW (l:List Fd) (c:Ch) (m:Nat) (hm:l.length=m) (hl:m<=9223372036854775807) (A:EL) (cA:Nat) (hcA:m<=cA) (Q:EL) (n qc:Nat) (hn:c.q.length=n) (hn1:n<=17592186044415) (hqc:n<=qc) (p0:-9223372036854775808<=c.op) (p1:c.op<=9223372036854775807) (x0:0<=c.d.b) (x1:c.d.b<18446744073709551616) (w:EQ) (hA:Rd w A (aC l)) (RQ:Rd w Q (aV c.q)) (hr:aK l=false):
 Calls Tryz.prog 97 #[.slice A m cA,.agg #[.int .i64 c.op,.string c.s,.string c.g.s,.int .i64 c.g.k,.int .i64 c.g.l,.int .i64 c.d.k,.int .u64 c.d.b,.string c.d.t,.slice Q n qc]] w fun e w'=>Bc Tb.z 60 w e w':=by
 have bb1:=aA (w:=w) (.cells #[.int .i64 c.op,.string c.s,.string c.g.s,.int .i64 c.g.k,.int .i64 c.g.l,.int .i64 c.d.k,.int .u64 c.d.b,.string c.d.t,.slice Q n qc] 76)
 have bb2:=aA (w:=w.alloc (.cells #[.int .i64 c.op,.string c.s,.string c.g.s,.int .i64 c.g.k,.int .i64 c.g.l,.int .i64 c.d.k,.int .u64 c.d.b,.string c.d.t,.slice Q n qc] 76)) (.cells #[.slice none 0 0,.slice none 0 0,.slice none 0 0] 96)
 have C0:cx _ _ c (.slice Q n qc) 76:=(aD.new w (pX c (.slice Q n qc)) 76).below bb2
 have N0:=aD.new (w.alloc (.cells #[.int .i64 c.op,.string c.s,.string c.g.s,.int .i64 c.g.k,.int .i64 c.g.l,.int .i64 c.d.k,.int .u64 c.d.b,.string c.d.t,.slice Q n qc] 76)) [.slice none 0 0,.slice none 0 0,.slice none 0 0] 96
 rw[Jq] at N0
 have HB0:=aB bb1 bb2
 obtain⟨V4,V6,V8,V10,V11,r4,r6,r8,r10,r11,M11,c11,d11,e11,B11⟩:=lg ((w.alloc (.cells #[.int .i64 c.op,.string c.s,.string c.g.s,.int .i64 c.g.k,.int .i64 c.g.l,.int .i64 c.d.k,.int .u64 c.d.b,.string c.d.t,.slice Q n qc] 76)).alloc (.cells #[.slice none 0 0,.slice none 0 0,.slice none 0 0] 96))
 have HB:=aB HB0 B11
 have C1:=C0.below B11
 have N1:=N0.below B11
 have szV:w.heap.size+1<V11.heap.size:=N1.lt
 have hA1:=hA.below HB
 have RQ1:=RQ.below HB
 have hmk:=nj
 obtain⟨a0,a1,a2,a3,a4,a5,a6,a7,a8⟩:=C0.c9
 obtain⟨A0,A1,A2,A3,A4,A5,A6,A7,A8⟩:=C1.c9
 obtain⟨n1,n2,n3,o1,o2,o3⟩:=N1.f3
 have HM:=J0 hm
 have HN:=J0 hn
 obtain⟨fv,is,hlk,hno⟩:=tR M11 c.op p0 p1
 simp only[Jq] at r4 r6 r8 r10 r11 hlk M11
 have HR:=J0 hr
 clear hr
 go_enter Tryz.func97,Tryz.ntmps97
 go_wp2_with (first
  |(go_at_call 136;refine(kE _ _ _ _).mono ?_;rintro e w' ⟨rfl,rfl⟩)
  |(go_at_call 62;refine(bY A cA m l HM.out false HR.out _ hA1 hl).mono ?_;rintro e W0 ⟨rfl,hb⟩;replace HB:=HB.trans (hb.mono HB.size);replace hA1:=hA1.below hb;replace RQ1:=RQ1.below hb;replace C1:=C1.below hb;replace N1:=N1.below hb;have c12:=aE (B:=0) hb c11;have d12:=aE (B:=0) hb d11;have e12:=aE (B:=0) hb e11;clear hb A0 A1 A2 A3 A4 A5 A6 A7 A8 n1 n2 n3 o1 o2 o3;obtain⟨A0,A1,A2,A3,A4,A5,A6,A7,A8⟩:=C1.c9;obtain⟨n1,n2,n3,o1,o2,o3⟩:=N1.f3))
 refine Xx (v:=.tuple #[.agg #[.slice none 0 0,.slice none 0 0,.slice none 0 0],.int .i64 60]) (by simp[results,Tryz.results97,go_sem, *];done) rfl ⟨_,_,_,_,_,_,_,_,_,rfl,gP.z _ _,?_⟩
 exact((HB.setCell (by show w.heap.size<=w.heap.size+1;omega) _).setCell (by show w.heap.size<=w.heap.size+1;omega) _).setCell (by show w.heap.size<=w.heap.size+1;omega) _
theorem Bb (l:List Fd) (c:Ch) (m:Nat) (hm:l.length=m) (hl:m<=9223372036854775807) (A:EL) (cA:Nat) (hcA:m<=cA) (Q:EL) (n qc:Nat) (hn:c.q.length=n) (hn1:n<=17592186044415) (hqc:n<=qc) (p0:-9223372036854775808<=c.op) (p1:c.op<=9223372036854775807) (x0:0<=c.d.b) (x1:c.d.b<18446744073709551616) (w:EQ) (hA:Rd w A (aC l)) (RQ:Rd w Q (aV c.q)) (hr:aK l=true) (hop:¬(1<=c.op/\c.op<=5)):
 Calls Tryz.prog 97 #[.slice A m cA,.agg #[.int .i64 c.op,.string c.s,.string c.g.s,.int .i64 c.g.k,.int .i64 c.g.l,.int .i64 c.d.k,.int .u64 c.d.b,.string c.d.t,.slice Q n qc]] w fun e w'=>Bc Tb.z 80 w e w':=by
 have bb1:=aA (w:=w) (.cells #[.int .i64 c.op,.string c.s,.string c.g.s,.int .i64 c.g.k,.int .i64 c.g.l,.int .i64 c.d.k,.int .u64 c.d.b,.string c.d.t,.slice Q n qc] 76)
 have bb2:=aA (w:=w.alloc (.cells #[.int .i64 c.op,.string c.s,.string c.g.s,.int .i64 c.g.k,.int .i64 c.g.l,.int .i64 c.d.k,.int .u64 c.d.b,.string c.d.t,.slice Q n qc] 76)) (.cells #[.slice none 0 0,.slice none 0 0,.slice none 0 0] 96)
 have C0:cx _ _ c (.slice Q n qc) 76:=(aD.new w (pX c (.slice Q n qc)) 76).below bb2
 have N0:=aD.new (w.alloc (.cells #[.int .i64 c.op,.string c.s,.string c.g.s,.int .i64 c.g.k,.int .i64 c.g.l,.int .i64 c.d.k,.int .u64 c.d.b,.string c.d.t,.slice Q n qc] 76)) [.slice none 0 0,.slice none 0 0,.slice none 0 0] 96
 rw[Jq] at N0
 have HB0:=aB bb1 bb2
 obtain⟨V4,V6,V8,V10,V11,r4,r6,r8,r10,r11,M11,c11,d11,e11,B11⟩:=lg ((w.alloc (.cells #[.int .i64 c.op,.string c.s,.string c.g.s,.int .i64 c.g.k,.int .i64 c.g.l,.int .i64 c.d.k,.int .u64 c.d.b,.string c.d.t,.slice Q n qc] 76)).alloc (.cells #[.slice none 0 0,.slice none 0 0,.slice none 0 0] 96))
 have HB:=aB HB0 B11
 have C1:=C0.below B11
 have N1:=N0.below B11
 have szV:w.heap.size+1<V11.heap.size:=N1.lt
 have hA1:=hA.below HB
 have RQ1:=RQ.below HB
 have hmk:=nj
 obtain⟨a0,a1,a2,a3,a4,a5,a6,a7,a8⟩:=C0.c9
 obtain⟨A0,A1,A2,A3,A4,A5,A6,A7,A8⟩:=C1.c9
 obtain⟨n1,n2,n3,o1,o2,o3⟩:=N1.f3
 have HM:=J0 hm
 have HN:=J0 hn
 obtain⟨fv,is,hlk,hno⟩:=tR M11 c.op p0 p1
 obtain⟨rfl,rfl⟩:=hno hop
 clear hno hop
 simp only[Jq] at r4 r6 r8 r10 r11 hlk M11
 have HR:=J0 hr
 clear hr
 go_enter Tryz.func97,Tryz.ntmps97
 go_wp2_with (first
  |(go_at_call 136;refine(kE _ _ _ _).mono ?_;rintro e w' ⟨rfl,rfl⟩)
  |(go_at_call 62;refine(bY A cA m l HM.out true HR.out _ hA1 hl).mono ?_;rintro e W0 ⟨rfl,hb⟩;replace HB:=HB.trans (hb.mono HB.size);replace hA1:=hA1.below hb;replace RQ1:=RQ1.below hb;replace C1:=C1.below hb;replace N1:=N1.below hb;have c12:=aE (B:=0) hb c11;have d12:=aE (B:=0) hb d11;have e12:=aE (B:=0) hb e11;clear hb A0 A1 A2 A3 A4 A5 A6 A7 A8 n1 n2 n3 o1 o2 o3;obtain⟨A0,A1,A2,A3,A4,A5,A6,A7,A8⟩:=C1.c9;obtain⟨n1,n2,n3,o1,o2,o3⟩:=N1.f3))
 refine Xx (v:=.tuple #[.agg #[.slice none 0 0,.slice none 0 0,.slice none 0 0],.int .i64 80]) (by simp[results,Tryz.results97,go_sem, *];done) rfl ⟨_,_,_,_,_,_,_,_,_,rfl,gP.z _ _,?_⟩
 exact((HB.setCell (by show w.heap.size<=w.heap.size+1;omega) _).setCell (by show w.heap.size<=w.heap.size+1;omega) _).setCell (by show w.heap.size<=w.heap.size+1;omega) _
theorem ff {l:List Fd} {c:Ch} {e:Int} (hs:bj l c=e) (he:e≠0):dR l c=e/\dy l c=Tb.z:=by
 have h1:dR l c=e:=by rw[dR,hs,Xy he]
 exact⟨h1,by rw[dy,h1,Xy he]⟩
theorem lK {l:List Fd} {c:Ch} {r:Bool} (hs:bj l c=0) (h:r=aK (cI l c)):(bif r then(0:Int) else 80)=dR l c/\(bif r then eO l c else Tb.z)=dy l c:=by
 subst h
 have h1:dR l c=if aK (cI l c)=true then 0 else 80:=by rw[dR,Xz hs]
 rw[dy,h1]
 cases aK (cI l c) <;> simp
theorem pp {l:List Fd} {k:Nat} {f:Fd} (hf:l[k]?=some f) (g:Fd->Fd):l.modify k g=l.set k (g f):=by
 apply Xk
 intro i
 rw[List.getElem?_modify,List.getElem?_set]
 by_cases h:k=i
 ·subst h
  obtain⟨hk,he⟩:=J6.1 hf
  simp[hk,he]
 ·simp[h]
theorem CQ (l:List Fd) (c:Ch) (m:Nat) (hm:l.length=m) (hl:m<=9223372036854775807) (A:EL) (cA:Nat) (hcA:m<=cA) (Q:EL) (n qc:Nat) (hn:c.q.length=n) (hn1:n<=17592186044415) (hqc:n<=qc) (p0:-9223372036854775808<=c.op) (p1:c.op<=9223372036854775807) (x0:0<=c.d.b) (x1:c.d.b<18446744073709551616) (w:EQ) (hA:Rd w A (aC l)) (RQ:Rd w Q (aV c.q)):
 Calls Tryz.prog 97 #[.slice A m cA,.agg #[.int .i64 c.op,.string c.s,.string c.g.s,.int .i64 c.g.k,.int .i64 c.g.l,.int .i64 c.d.k,.int .u64 c.d.b,.string c.d.t,.slice Q n qc]] w fun e w'=>Bc (dy l c) (dR l c) w e w':=by
 cases hr:aK l
 ·obtain⟨e1,e2⟩:=ff (l:=l) (c:=c) (e:=60) (by simp[bj,hr]) (by decide)
  rw[e1,e2]
  exact xW l c m hm hl A cA hcA Q n qc hn hn1 hqc p0 p1 x0 x1 w hA RQ hr
 by_cases hop:1<=c.op/\c.op<=5
 ·have no:∀q,q≠0->yu l c m Tb.z q->bj l c=q->Calls Tryz.prog 97 #[.slice A m cA,.agg #[.int .i64 c.op,.string c.s,.string c.g.s,.int .i64 c.g.k,.int .i64 c.g.l,.int .i64 c.d.k,.int .u64 c.d.b,.string c.d.t,.slice Q n qc]] w fun e w'=>Bc (dy l c) (dR l c) w e w':=fun q h0 hw hs=>by
   have h:=sL l c m hm hl A cA hcA Q n qc hn hn1 hqc p0 p1 x0 x1 w hA RQ hr _ q hw true (fun h=>absurd h h0)
   rw[Xy h0,Xy h0] at h
   obtain⟨e1,e2⟩:=ff hs h0
   rw[e1,e2];exact h
  have yes:∀r,yu l c m (eO l c) 0->ar (eO l c)=r->(bj l c=0->r=aK (cI l c))->(bj l c≠0->bj l c=80/\r=false)->Calls Tryz.prog 97 #[.slice A m cA,.agg #[.int .i64 c.op,.string c.s,.string c.g.s,.int .i64 c.g.k,.int .i64 c.g.l,.int .i64 c.d.k,.int .u64 c.d.b,.string c.d.t,.slice Q n qc]] w fun e w'=>Bc (dy l c) (dR l c) w e w':=fun r hw hR h1 h2=>by
   have h:=sL l c m hm hl A cA hcA Q n qc hn hn1 hqc p0 p1 x0 x1 w hA RQ hr _ 0 hw r (fun _=>hR)
   rw[Xz rfl,Xz rfl] at h
   by_cases hs:bj l c=0
   ·obtain⟨e1,e2⟩:=lK (r:=r) hs (h1 hs)
    rw[<-e1,<-e2];exact h
   ·obtain⟨e1,e2⟩:=ff (h2 hs).1 (by decide)
    rw[e1,e2];rw[(h2 hs).2] at h;exact h
  rcases(by omega:c.op=1\/c.op=5\/c.op=2\/c.op=3\/c.op=4) with e|e|e
  ·cases hv:aM c.d.k c.d.b c.d.t c.g.k c.g.l
   ·exact no 80 (by decide) (.inl ⟨e,_,hv,rfl,rfl⟩) (by simp[bj,hr,e,ie,hv])
   ·have hR:=ib hr hop (by omega) (by omega) (by omega)
    rw[e] at hR
    cases hok:ie c
    ·rw[hok] at hR
     simp at hR
     exact yes _ (.inl ⟨e,_,hv,by simp[eO,cI,dV,e,hm],rfl⟩) hR (fun h=>by simp[bj,hr,e,hok] at h) (fun _=>⟨by simp[bj,hr,e,hok],rfl⟩)
    ·rw[hok] at hR
     simp at hR
     exact yes _ (.inl ⟨e,_,hv,by simp[eO,cI,dV,e,hm],rfl⟩) hR (fun _=>rfl) (fun h=>absurd (by simp[bj,hr,e,hok]) h)
  ·cases hv:fD c.q m
   ·exact no 80 (by decide) (.inr (.inr (.inr ⟨e,_,hv,rfl,rfl⟩))) (by simp[bj,hr,e,hm,hv])
   ·have hR:=ib hr hop (by omega) (by omega) (fun _=>by rw[hm,hv])
    simp[e] at hR
    exact yes _ (.inr (.inr (.inr ⟨e,_,hv,by simp[eO,cI,dV,e],rfl⟩))) hR (fun _=>rfl) (fun h=>absurd (by simp[bj,hr,e,hm,hv]) h)
  ·by_cases hz:aW l c.s<0
   ·exact no 61 (by decide) (.inr (.inl ⟨e,hz,rfl,rfl⟩)) (by rcases e with e|e|e <;> simp[bj,hr,e,hz])
   have hk:aW l c.s=(jc l c:Nat):=by unfold jc;omega
   obtain⟨f,hf⟩:∃f,l[jc l c]?=some f:=⟨_,J4 (nC hz)⟩
   have hca:gR l c=aU f.k f.l c.g.k c.g.l:=by simp[gR,hf]
   have hR:=fun h=>ib hr hop (by omega) h (by omega)
   rcases e with e|e|e
   ·have hR:=hR (by omega)
    simp[e] at hR
    exact yes _ (.inr (.inr (.inl ⟨_,hk,.inl ⟨e,by simp[eO,cI,dV,e,hm],rfl⟩⟩))) hR (fun _=>rfl) (fun h=>absurd (by simp[bj,hr,e,hz]) h)
   ·have hR:=hR (by omega)
    simp[e] at hR
    exact yes _ (.inr (.inr (.inl ⟨_,hk,.inr ⟨f,hf,.inl ⟨e,by simp[eO,cI,dV,e,hm,pp hf],rfl⟩⟩⟩))) hR (fun _=>rfl) (fun h=>absurd (by simp[bj,hr,e,hz]) h)
   ·cases hv:aU f.k f.l c.g.k c.g.l
    ·exact no 80 (by decide) (.inr (.inr (.inl ⟨_,hk,.inr ⟨f,hf,.inr ⟨e,_,hv,rfl,rfl⟩⟩⟩))) (by simp[bj,hr,e,hz,hca,hv])
    ·have hR:=hR (fun _=>by rw[hca,hv])
     simp[e] at hR
     exact yes _ (.inr (.inr (.inl ⟨_,hk,.inr ⟨f,hf,.inr ⟨e,_,hv,by simp[eO,cI,dV,e,hm,pp hf],rfl⟩⟩⟩))) hR (fun _=>rfl) (fun h=>absurd (by simp[bj,hr,e,hz,hca,hv]) h)
 ·obtain⟨e1,e2⟩:=ff (l:=l) (c:=c) (e:=80) (by simp[bj,hr,hop]) (by decide)
  rw[e1,e2]
  exact Bb l c m hm hl A cA hcA Q n qc hn hn1 hqc p0 p1 x0 x1 w hA RQ hr hop
end
section
open Go.RowKit Go.Lib
theorem yQ (m:Nat) (k:Nat):(uH m).count (k:Int)=if k<m then 1 else 0:=by
 induction m with
 |zero=>simp[uH]
 |succ m ih=>
  rw[uI,List.count_append,ih]
  by_cases h:k=m
  ·subst h;simp
  ·have:¬((m:Int)=(k:Int)):=by omega
   rw[List.count_singleton]
   simp[this]
   split <;> split <;> omega
theorem vQ {q:List Int} {m:Nat}:fD q m=(decide (∀k:Nat,k<m->q.count (k:Int)=1) && decide (q.length=m)):=by
 rw[Qy,Qz,Y8,Y8]
 constructor
 ·intro h
  refine⟨fun k hk=>?_,kl h⟩
  rw[(Yv h).count_eq,yQ,Xz hk]
 ·rintro ⟨h,hl⟩
  exact Yx (ti m q hl fun k hk=>List.count_pos_iff.1 (by rw[h k hk];omega))
theorem uy {q:List Int} {j:Nat} {x:Int} (hx:q[j]?=some x) (k:Int):(q.take (j+1)).count k=(q.take j).count k+(if x=k then 1 else 0):=by
 rw[Vv,hx,List.count_append]
 simp[List.count_singleton]
theorem Ax (q:List Int) (n:Nat) (hn:q.length=n) (Q:EL) (qc m:Nat) (hl:n<=17592186044415) (hm:m<=9223372036854775806) (w:EQ) (RQ:Rd w Q (aV q)):
 Calls Tryz.prog 172 #[.slice Q n qc,.int .i64 (m:Int)] w fun e w'=>e=.returned (.bool (fD q m))/\w=w':=by
 obtain⟨r,hr⟩:∃r,fD q m=r:=⟨_,rfl⟩
 have hrr:=vQ (q:=q) (m:=m)
 rw[hr,hn] at hrr
 rw[hr]
 have HN:=J0 hn
 have HRR:=J0 hrr
 clear hr hrr hn
 go_enter Tryz.func172,Tryz.ntmps172
 go_wp2
 go_loopw [5,6,7] (fun i _ _ wr=>∃k:Nat,k<=m/\i=.int .i64 k/\wr=w/\Hid (∀j:Nat,j<k->q.count (j:Int)=1)) (fun i _ _ _=>m - (intOf i).toNat)
 case atStart=>exact⟨0,by omega,rfl,rfl,J0 (fun j hj=>by omega)⟩
 case round=>
  obtain⟨k,hk,rfl,rfl,hall⟩:=hrel
  by_cases hlt:k<m
  ·have hi1:(k:Int)<(m:Int):=by omega
   go_wp2
   go_loopw [6,7] (fun f i wx=>∃j:Nat,j<=n/\i=.int .i64 j/\f=.int .i64 (((q.take j).count (k:Int):Nat):Int)/\wx=wr) (fun _ i _=>n - (intOf i).toNat)
   case atStart=>exact⟨0,by omega,rfl,rfl,rfl⟩
   case round=>
    obtain⟨j,hj,rfl,rfl,rfl⟩:=hrel
    by_cases hjn:j<n
    ·obtain⟨x,hx⟩:∃x,q[j]?=some x:=⟨_,J4 (by rw[HN.out];exact hjn)⟩
     have hc0:(aV q)[j]?=some (.int .i64 x):=by simp[aV,hx]
     obtain⟨ad,rfl,hc⟩:=RQ.at hc0
     have hi2:(0:Int)<=(j:Int):=by omega
     have hi3:(j:Int)<(n:Int):=by omega
     have HS:=J0 (uy hx (k:Int))
     have hcl:(q.take j).count (k:Int)<=n:=Q7 List.count_le_length (by rw[Qx];omega)
     clear hx hc0
     obtain⟨z,hz⟩:∃z,(q.take j).count (k:Int)=z:=⟨_,rfl⟩
     rw[hz] at hcl HS |-
     clear hz
     by_cases hxk:x=(k:Int)
     ·have y1:(x == (k:Int))=true:=by simp[hxk]
      have HS2:Hid ((q.take (j+1)).count (k:Int)=z+1):=J0 (by rw[HS.out,Xz hxk])
      clear hxk
      go_wp2
      go_roundw
      case rel=>exact⟨j+1,by omega,by go_num,by rw[HS2.out];go_num,by trivial⟩
      case measure=>simp[intOf];omega
     ·have y1:(x == (k:Int))=false:=by simp[hxk]
      have HS2:Hid ((q.take (j+1)).count (k:Int)=z):=J0 (by rw[HS.out,Xy hxk];rfl)
      clear hxk
      go_wp2
      go_roundw
      case rel=>exact⟨j+1,by omega,by go_num,by rw[HS2.out],by trivial⟩
      case measure=>simp[intOf];omega
    ·obtain rfl:j=n:=by omega
     have hqq:q.take j=q:=Vx (by rw[HN.out];exact J9 _)
     rw[hqq]
     obtain⟨z,hz⟩:∃z,q.count (k:Int)=z:=⟨_,rfl⟩
     rw[hz]
     by_cases hz1:z=1
     ·have y1:((z:Int) != 1)=false:=by simp[hz1]
      have hall2:Hid (∀i:Nat,i<k+1->q.count (i:Int)=1):=J0 (fun i hi=>by
       rcases(by omega:i<k\/i=k) with h|rfl
       ·exact hall.out i h
       ·rw[hz,hz1])
      clear hz hz1 hqq hall
      go_wp2
      go_roundw
      case rel=>exact⟨k+1,by omega,by go_num,by trivial,hall2⟩
      case measure=>simp[intOf];omega
     ·have y1:((z:Int) != 1)=true:=by simp;omega
      obtain rfl:r=false:=by
       have hno:¬∀i:Nat,i<m->q.count (i:Int)=1:=fun h=>hz1 (by rw[<-hz];exact h k hlt)
       rw[HRR.out,Y9 hno];rfl
      clear hz hz1 hqq hall
      go_wp2
      go_ret
      exact⟨rfl,rfl⟩
  ·obtain rfl:k=m:=by omega
   have hrn:r=decide (n=k):=by rw[HRR.out,Yx hall.out];rfl
   clear hall HRR
   by_cases hnk:n=k
   ·have y1:((n:Int) == (k:Int))=true:=by simp[hnk]
    obtain rfl:r=true:=by rw[hrn];simp[hnk]
    clear hrn hnk
    go_wp2
    go_ret
    exact⟨rfl,rfl⟩
   ·have y1:((n:Int) == (k:Int))=false:=by simp;omega
    obtain rfl:r=false:=by rw[hrn];simp[hnk]
    clear hrn
    go_wp2
    go_ret
    exact⟨rfl,rfl⟩
structure TO (w W:EQ) (base ob:Nat) (xO vF vM:ER) (fs:List Fd) (ms:List Mv) (T TM:ES):Prop where
 O:aD W ob [xO,vF,vM] T
 F:W.ownsRow base 68 3 vF fs.length (aC fs)
 M:W.ownsRow base TM 4 vM ms.length (aJ ms)
 ap:∀g,vF.ownBlock=some g->vM.ownBlock≠some g
 lo:ob<base
 B:Below w.heap.size w W
 hob:w.heap.size<=ob
theorem TO.below {w W W':EQ} {base ob:Nat} {xO vF vM:ER} {fs:List Fd} {ms:List Mv} {T TM:ES} (h:TO w W base ob xO vF vM fs ms T TM) (hb:Below W.heap.size W W'):TO w W' base ob xO vF vM fs ms T TM:=
 ⟨h.O.below hb,aG h.F hb,aG h.M hb,h.ap,h.lo,h.B.trans (hb.mono h.B.size),h.hob⟩
theorem TO.store {w W:EQ} {base ob:Nat} {xO vF vM:ER} {fs:List Fd} {ms:List Mv} {T TM:ES} (h:TO w W base ob xO vF vM fs ms T TM) {b:Nat} (j:Nat) (v:ER) (hb:w.heap.size<=b) (hne:b≠ob) (hF:vF.ownBlock≠some b) (hM:vM.ownBlock≠some b):TO w (W.setCell ⟨b,j,none⟩ v) base ob xO vF vM fs ms T TM:=
 ⟨(J5 _ _ _ _ (by show ob≠b;omega)).trans h.O,aN h.F (fun g hg=>J5 _ _ _ _ (by rintro rfl;exact hF hg)),aN h.M (fun g hg=>J5 _ _ _ _ (by rintro rfl;exact hM hg)),h.ap,h.lo,h.B.setCell hb v,h.hob⟩
theorem TO.ltF {w W:EQ} {base ob:Nat} {xO vF vM:ER} {fs:List Fd} {ms:List Mv} {T TM:ES} (h:TO w W base ob xO vF vM fs ms T TM):∀g,vF.ownBlock=some g->base<=g/\g<W.heap.size:=fun g hg=>⟨aF h.F g hg,aY h.F g hg⟩
theorem TO.ltM {w W:EQ} {base ob:Nat} {xO vF vM:ER} {fs:List Fd} {ms:List Mv} {T TM:ES} (h:TO w W base ob xO vF vM fs ms T TM):∀g,vM.ownBlock=some g->base<=g/\g<W.heap.size:=fun g hg=>⟨aF h.M g hg,aY h.M g hg⟩
theorem TO.lt {w W:EQ} {base ob:Nat} {xO vF vM:ER} {fs:List Fd} {ms:List Mv} {T TM:ES} (h:TO w W base ob xO vF vM fs ms T TM):ob<W.heap.size:=h.O.lt
theorem TO.addF {w U U1 W5:EQ} {base ob:Nat} {xO vF vM v':ER} {fs:List Fd} {ms:List Mv} {T TM:ES} (h:TO w U base ob xO vF vM fs ms T TM) (nf:Below U.heap.size U U1) (g:Fd) (gr:U1.grownBy W5 vF.ownBlock) (hb:base<=U.heap.size)
 (own':W5.ownsRow base 68 3 v' (fs.length+1) (aC fs++[.string g.s,.int .i64 g.k,.int .i64 g.l])) (hat:v'.ownBlock=vF.ownBlock\/v'.ownBlock=some U1.heap.size):
 aD W5 ob [xO,vF,vM] T/\TO w (W5.setCell ⟨ob,1,none⟩ v') base ob xO v' vM (fs++[g]) ms T TM/\∀b,b<base->b≠ob->(W5.setCell ⟨ob,1,none⟩ v').heap[b]?=U.heap[b]?:=by
 have z1:=nf.size
 have z2:=gr.size
 have lo:=h.lo
 have ltF:=h.ltF
 have ltM:=h.ltM
 have O1:=(h.O.below nf).grown gr (by intro e;have:=(ltF _ e.symm).1;omega)
 have bl:∀b,b<base->b≠ob->(W5.setCell ⟨ob,1,none⟩ v').heap[b]?=U.heap[b]?:=fun b hb1 hb2=>
  (J5 _ _ _ _ (by show b≠ob;exact hb2)).trans ((gr.block b (by omega) (by intro e;have:=(ltF _ e.symm).1;omega)).trans (nf.block b (by omega)))
 refine⟨O1,⟨aI O1 1 v',?_,?_,?_,lo,?_,h.hob⟩,bl⟩
 ·refine ag (aN own' (fun k hk=>J5 _ _ _ _ (by have:=aF own' k hk;show k≠ob;omega))) (by simp) (by rw[eB];rfl)
 ·exact aN (cY (aG h.M nf) gr (fun k hk e=>h.ap k e.symm hk)) (fun k hk=>J5 _ _ _ _ (by have:=(ltM k hk).1;show k≠ob;omega))
 ·intro k hk hm
  rcases hat with e|e
  ·exact h.ap k (by rw[<-e];exact hk) hm
  ·rw[hk] at e;have e:=Jj e;have:=(ltM k hm).2;omega
 ·exact((h.B.trans (nf.mono h.B.size)).grown gr (by have:=h.B.size;omega) (fun k hk=>by have:=(ltF k hk).1;have:=h.hob;omega)).setCell h.hob v'
theorem TO.addM {w U U1 W5:EQ} {base ob:Nat} {xO vF vM v':ER} {fs:List Fd} {ms:List Mv} {T TM:ES} (h:TO w U base ob xO vF vM fs ms T TM) (nf:Below U.heap.size U U1) (m:Mv) (gr:U1.grownBy W5 vM.ownBlock) (hb:base<=U.heap.size)
 (own':W5.ownsRow base TM 4 v' (ms.length+1) (aJ ms++[.int .i64 m.f,.int .i64 m.d.k,.int .u64 m.d.b,.string m.d.t])) (hat:v'.ownBlock=vM.ownBlock\/v'.ownBlock=some U1.heap.size):
 aD W5 ob [xO,vF,vM] T/\TO w (W5.setCell ⟨ob,2,none⟩ v') base ob xO vF v' fs (ms++[m]) T TM/\∀b,b<base->b≠ob->(W5.setCell ⟨ob,2,none⟩ v').heap[b]?=U.heap[b]?:=by
 have z1:=nf.size
 have z2:=gr.size
 have lo:=h.lo
 have ltF:=h.ltF
 have ltM:=h.ltM
 have O1:=(h.O.below nf).grown gr (by intro e;have:=(ltM _ e.symm).1;omega)
 have bl:∀b,b<base->b≠ob->(W5.setCell ⟨ob,2,none⟩ v').heap[b]?=U.heap[b]?:=fun b hb1 hb2=>
  (J5 _ _ _ _ (by show b≠ob;exact hb2)).trans ((gr.block b (by omega) (by intro e;have:=(ltM _ e.symm).1;omega)).trans (nf.block b (by omega)))
 refine⟨O1,⟨aI O1 2 v',?_,?_,?_,lo,?_,h.hob⟩,bl⟩
 ·exact aN (cY (aG h.F nf) gr (fun k hk e=>h.ap k hk e.symm)) (fun k hk=>J5 _ _ _ _ (by have:=(ltF k hk).1;show k≠ob;omega))
 ·refine ag (aN own' (fun k hk=>J5 _ _ _ _ (by have:=aF own' k hk;show k≠ob;omega))) (by simp) (by rw[bu];rfl)
 ·intro k hk hm
  rcases hat with e|e
  ·exact h.ap k hk (by rw[<-e];exact hm)
  ·rw[hm] at e;have e:=Jj e;have:=(ltF k hk).2;omega
 ·exact((h.B.trans (nf.mono h.B.size)).grown gr (by have:=h.B.size;omega) (fun k hk=>by have:=(ltM k hk).1;have:=h.hob;omega)).setCell h.hob v'
def yi (t:Tb) (code:Int) (w:EQ) (e:Ending) (w':EQ):Prop:=
 ∃X0 y0 z0 X1 y1 z1 X2 y2 z2,e=.returned (.tuple #[.agg #[.slice X0 y0 z0,.slice X1 y1 z1,.slice X2 y2 z2],.int .i64 code])/\gP (fun _=>True) w' (.agg #[.slice X0 y0 z0,.slice X1 y1 z1,.slice X2 y2 z2]) t/\Below w.heap.size w w'
theorem dE (c:Ch) (Q:EL) (n qc:Nat) (w:EQ):cx (((w.alloc (.cells #[.int .i64 c.op,.string c.s,.string c.g.s,.int .i64 c.g.k,.int .i64 c.g.l,.int .i64 c.d.k,.int .u64 c.d.b,.string c.d.t,.slice Q n qc] 73)).alloc (.cells #[.slice none 0 0,.slice none 0 0,.slice none 0 0] 110)).alloc (.cells #[.slice none 0 0,.slice none 0 0,.slice none 0 0] 110)) w.heap.size c (.slice Q n qc) 73/\aD (((w.alloc (.cells #[.int .i64 c.op,.string c.s,.string c.g.s,.int .i64 c.g.k,.int .i64 c.g.l,.int .i64 c.d.k,.int .u64 c.d.b,.string c.d.t,.slice Q n qc] 73)).alloc (.cells #[.slice none 0 0,.slice none 0 0,.slice none 0 0] 110)).alloc (.cells #[.slice none 0 0,.slice none 0 0,.slice none 0 0] 110)) (w.heap.size+1) [.slice none 0 0,.slice none 0 0,.slice none 0 0] 110/\aD (((w.alloc (.cells #[.int .i64 c.op,.string c.s,.string c.g.s,.int .i64 c.g.k,.int .i64 c.g.l,.int .i64 c.d.k,.int .u64 c.d.b,.string c.d.t,.slice Q n qc] 73)).alloc (.cells #[.slice none 0 0,.slice none 0 0,.slice none 0 0] 110)).alloc (.cells #[.slice none 0 0,.slice none 0 0,.slice none 0 0] 110)) (w.heap.size+1+1) [.slice none 0 0,.slice none 0 0,.slice none 0 0] 110/\Below w.heap.size w (((w.alloc (.cells #[.int .i64 c.op,.string c.s,.string c.g.s,.int .i64 c.g.k,.int .i64 c.g.l,.int .i64 c.d.k,.int .u64 c.d.b,.string c.d.t,.slice Q n qc] 73)).alloc (.cells #[.slice none 0 0,.slice none 0 0,.slice none 0 0] 110)).alloc (.cells #[.slice none 0 0,.slice none 0 0,.slice none 0 0] 110)):=by
 have bb1:=aA (w:=w) (.cells #[.int .i64 c.op,.string c.s,.string c.g.s,.int .i64 c.g.k,.int .i64 c.g.l,.int .i64 c.d.k,.int .u64 c.d.b,.string c.d.t,.slice Q n qc] 73)
 have bb2:=aA (w:=w.alloc (.cells #[.int .i64 c.op,.string c.s,.string c.g.s,.int .i64 c.g.k,.int .i64 c.g.l,.int .i64 c.d.k,.int .u64 c.d.b,.string c.d.t,.slice Q n qc] 73)) (.cells #[.slice none 0 0,.slice none 0 0,.slice none 0 0] 110)
 have bb3:=aA (w:=(w.alloc (.cells #[.int .i64 c.op,.string c.s,.string c.g.s,.int .i64 c.g.k,.int .i64 c.g.l,.int .i64 c.d.k,.int .u64 c.d.b,.string c.d.t,.slice Q n qc] 73)).alloc (.cells #[.slice none 0 0,.slice none 0 0,.slice none 0 0] 110)) (.cells #[.slice none 0 0,.slice none 0 0,.slice none 0 0] 110)
 have N:=(aD.new (w.alloc (.cells #[.int .i64 c.op,.string c.s,.string c.g.s,.int .i64 c.g.k,.int .i64 c.g.l,.int .i64 c.d.k,.int .u64 c.d.b,.string c.d.t,.slice Q n qc] 73)) [.slice none 0 0,.slice none 0 0,.slice none 0 0] 110).below bb3
 have Z:=aD.new ((w.alloc (.cells #[.int .i64 c.op,.string c.s,.string c.g.s,.int .i64 c.g.k,.int .i64 c.g.l,.int .i64 c.d.k,.int .u64 c.d.b,.string c.d.t,.slice Q n qc] 73)).alloc (.cells #[.slice none 0 0,.slice none 0 0,.slice none 0 0] 110)) [.slice none 0 0,.slice none 0 0,.slice none 0 0] 110
 rw[Jq] at N
 rw[Jq,Jq] at Z
 exact⟨((aD.new w (pX c (.slice Q n qc)) 73).below bb2).below bb3,N,Z,aB (aB bb1 bb2) bb3⟩
theorem vf (l:List Fd) (c:Ch) (m:Nat) (hm:l.length=m) (hl:m<=9223372036854775807) (A:EL) (cA:Nat) (Q:EL) (n qc:Nat) (hn:c.q.length=n) (hn1:n<=17592186044415) (x0:0<=c.d.b) (x1:c.d.b<18446744073709551616) (sl:gL l) (sg:c.g.s.size<=9223372036854775807) (w:EQ) (hA:Rd w A (aC l)) (RQ:Rd w Q (aV c.q)) (hr:aK l=false):
 Calls Tryz.prog 154 #[.slice A m cA,.agg #[.int .i64 c.op,.string c.s,.string c.g.s,.int .i64 c.g.k,.int .i64 c.g.l,.int .i64 c.d.k,.int .u64 c.d.b,.string c.d.t,.slice Q n qc]] w fun e w'=>yi Tb.z 60 w e w':=by
 obtain⟨C,N,Z,HB⟩:=dE c Q n qc w
 have hA1:=hA.below HB
 obtain⟨a0,a1,a2,a3,a4,a5,a6,a7,a8⟩:=C.c9
 obtain⟨n1,n2,n3,o1,o2,o3⟩:=N.f3
 obtain⟨i1,i2,i3,j1,j2,j3⟩:=Z.f3
 obtain⟨z,hz⟩:∃z,aW l c.s=z:=⟨_,rfl⟩
 have HZ:=J0 hz
 have HM:=J0 hm
 have HN:=J0 hn
 have HR:=J0 hr
 clear hr hz hm hn
 go_enter Tryz.func154,Tryz.ntmps154
 go_wp2_with (first
  |(go_at_call 114;refine(ey A cA m l HM.out c.s z HZ.out _ hA1 hl).mono ?_;rintro e w' ⟨rfl,rfl⟩)
  |(go_at_call 77;refine(ab A cA m l HM.out false HR.out _ hA1 hl sl).mono ?_;rintro e W0 ⟨rfl,hb⟩;replace HB:=HB.trans (hb.mono HB.size);replace hA1:=hA1.below hb;replace C:=C.below hb;replace N:=N.below hb;replace Z:=Z.below hb;clear hb a0 a1 a2 a3 a4 a5 a6 a7 a8 n1 n2 n3 o1 o2 o3 i1 i2 i3 j1 j2 j3;obtain⟨a0,a1,a2,a3,a4,a5,a6,a7,a8⟩:=C.c9;obtain⟨n1,n2,n3,o1,o2,o3⟩:=N.f3;obtain⟨i1,i2,i3,j1,j2,j3⟩:=Z.f3))
 refine Xx (v:=.tuple #[.agg #[.slice none 0 0,.slice none 0 0,.slice none 0 0],.int .i64 60]) (by simp[results,Tryz.results154,go_sem, *];done) rfl ⟨_,_,_,_,_,_,_,_,_,rfl,gP.z _ _,?_⟩
 exact((HB.setCell (by show w.heap.size<=w.heap.size+1;omega) _).setCell (by show w.heap.size<=w.heap.size+1;omega) _).setCell (by show w.heap.size<=w.heap.size+1;omega) _
theorem yK (l:List Fd) (c:Ch) (m:Nat) (hm:l.length=m) (hl:m<=9223372036854775807) (A:EL) (cA:Nat) (Q:EL) (n qc:Nat) (hn:c.q.length=n) (hn1:n<=17592186044415) (x0:0<=c.d.b) (x1:c.d.b<18446744073709551616) (sl:gL l) (sg:c.g.s.size<=9223372036854775807) (w:EQ) (hA:Rd w A (aC l)) (RQ:Rd w Q (aV c.q)) (hr:aK l=true) (ho:c.op<1):
 Calls Tryz.prog 154 #[.slice A m cA,.agg #[.int .i64 c.op,.string c.s,.string c.g.s,.int .i64 c.g.k,.int .i64 c.g.l,.int .i64 c.d.k,.int .u64 c.d.b,.string c.d.t,.slice Q n qc]] w fun e w'=>yi Tb.z 80 w e w':=by
 obtain⟨C,N,Z,HB⟩:=dE c Q n qc w
 have hA1:=hA.below HB
 obtain⟨a0,a1,a2,a3,a4,a5,a6,a7,a8⟩:=C.c9
 obtain⟨n1,n2,n3,o1,o2,o3⟩:=N.f3
 obtain⟨i1,i2,i3,j1,j2,j3⟩:=Z.f3
 obtain⟨z,hz⟩:∃z,aW l c.s=z:=⟨_,rfl⟩
 have HZ:=J0 hz
 have HM:=J0 hm
 have HN:=J0 hn
 have y1:decide (c.op<1)=true:=by simpa using ho
 clear ho
 have HR:=J0 hr
 clear hr hz hm hn
 go_enter Tryz.func154,Tryz.ntmps154
 go_wp2_with (first
  |(go_at_call 114;refine(ey A cA m l HM.out c.s z HZ.out _ hA1 hl).mono ?_;rintro e w' ⟨rfl,rfl⟩)
  |(go_at_call 77;refine(ab A cA m l HM.out true HR.out _ hA1 hl sl).mono ?_;rintro e W0 ⟨rfl,hb⟩;replace HB:=HB.trans (hb.mono HB.size);replace hA1:=hA1.below hb;replace C:=C.below hb;replace N:=N.below hb;replace Z:=Z.below hb;clear hb a0 a1 a2 a3 a4 a5 a6 a7 a8 n1 n2 n3 o1 o2 o3 i1 i2 i3 j1 j2 j3;obtain⟨a0,a1,a2,a3,a4,a5,a6,a7,a8⟩:=C.c9;obtain⟨n1,n2,n3,o1,o2,o3⟩:=N.f3;obtain⟨i1,i2,i3,j1,j2,j3⟩:=Z.f3))
 refine Xx (v:=.tuple #[.agg #[.slice none 0 0,.slice none 0 0,.slice none 0 0],.int .i64 80]) (by simp[results,Tryz.results154,go_sem, *];done) rfl ⟨_,_,_,_,_,_,_,_,_,rfl,gP.z _ _,?_⟩
 exact((HB.setCell (by show w.heap.size<=w.heap.size+1;omega) _).setCell (by show w.heap.size<=w.heap.size+1;omega) _).setCell (by show w.heap.size<=w.heap.size+1;omega) _
theorem vg (l:List Fd) (c:Ch) (m:Nat) (hm:l.length=m) (hl:m<=9223372036854775807) (A:EL) (cA:Nat) (Q:EL) (n qc:Nat) (hn:c.q.length=n) (hn1:n<=17592186044415) (x0:0<=c.d.b) (x1:c.d.b<18446744073709551616) (sl:gL l) (sg:c.g.s.size<=9223372036854775807) (w:EQ) (hA:Rd w A (aC l)) (RQ:Rd w Q (aV c.q)) (hr:aK l=true) (ho:5<c.op):
 Calls Tryz.prog 154 #[.slice A m cA,.agg #[.int .i64 c.op,.string c.s,.string c.g.s,.int .i64 c.g.k,.int .i64 c.g.l,.int .i64 c.d.k,.int .u64 c.d.b,.string c.d.t,.slice Q n qc]] w fun e w'=>yi Tb.z 80 w e w':=by
 obtain⟨C,N,Z,HB⟩:=dE c Q n qc w
 have hA1:=hA.below HB
 obtain⟨a0,a1,a2,a3,a4,a5,a6,a7,a8⟩:=C.c9
 obtain⟨n1,n2,n3,o1,o2,o3⟩:=N.f3
 obtain⟨i1,i2,i3,j1,j2,j3⟩:=Z.f3
 obtain⟨z,hz⟩:∃z,aW l c.s=z:=⟨_,rfl⟩
 have HZ:=J0 hz
 have HM:=J0 hm
 have HN:=J0 hn
 have y1:decide (c.op<1)=false:=by simp;omega
 have y2:decide (5<c.op)=true:=by simpa using ho
 clear ho
 have HR:=J0 hr
 clear hr hz hm hn
 go_enter Tryz.func154,Tryz.ntmps154
 go_wp2_with (first
  |(go_at_call 114;refine(ey A cA m l HM.out c.s z HZ.out _ hA1 hl).mono ?_;rintro e w' ⟨rfl,rfl⟩)
  |(go_at_call 77;refine(ab A cA m l HM.out true HR.out _ hA1 hl sl).mono ?_;rintro e W0 ⟨rfl,hb⟩;replace HB:=HB.trans (hb.mono HB.size);replace hA1:=hA1.below hb;replace C:=C.below hb;replace N:=N.below hb;replace Z:=Z.below hb;clear hb a0 a1 a2 a3 a4 a5 a6 a7 a8 n1 n2 n3 o1 o2 o3 i1 i2 i3 j1 j2 j3;obtain⟨a0,a1,a2,a3,a4,a5,a6,a7,a8⟩:=C.c9;obtain⟨n1,n2,n3,o1,o2,o3⟩:=N.f3;obtain⟨i1,i2,i3,j1,j2,j3⟩:=Z.f3))
 refine Xx (v:=.tuple #[.agg #[.slice none 0 0,.slice none 0 0,.slice none 0 0],.int .i64 80]) (by simp[results,Tryz.results154,go_sem, *];done) rfl ⟨_,_,_,_,_,_,_,_,_,rfl,gP.z _ _,?_⟩
 exact((HB.setCell (by show w.heap.size<=w.heap.size+1;omega) _).setCell (by show w.heap.size<=w.heap.size+1;omega) _).setCell (by show w.heap.size<=w.heap.size+1;omega) _
theorem kI (l:List Fd) (c:Ch) (m:Nat) (hm:l.length=m) (hl:m<=9223372036854775807) (A:EL) (cA:Nat) (Q:EL) (n qc:Nat) (hn:c.q.length=n) (hn1:n<=17592186044415) (x0:0<=c.d.b) (x1:c.d.b<18446744073709551616) (sl:gL l) (sg:c.g.s.size<=9223372036854775807) (w:EQ) (hA:Rd w A (aC l)) (RQ:Rd w Q (aV c.q)) (hr:aK l=true) (ho:2<=c.op/\c.op<=4) (hf:aW l c.s<0):
 Calls Tryz.prog 154 #[.slice A m cA,.agg #[.int .i64 c.op,.string c.s,.string c.g.s,.int .i64 c.g.k,.int .i64 c.g.l,.int .i64 c.d.k,.int .u64 c.d.b,.string c.d.t,.slice Q n qc]] w fun e w'=>yi Tb.z 61 w e w':=by
 obtain⟨C,N,Z,HB⟩:=dE c Q n qc w
 have hA1:=hA.below HB
 obtain⟨a0,a1,a2,a3,a4,a5,a6,a7,a8⟩:=C.c9
 obtain⟨n1,n2,n3,o1,o2,o3⟩:=N.f3
 obtain⟨i1,i2,i3,j1,j2,j3⟩:=Z.f3
 obtain⟨z,hz⟩:∃z,aW l c.s=z:=⟨_,rfl⟩
 have HZ:=J0 hz
 have HM:=J0 hm
 have HN:=J0 hn
 have y1:decide (c.op<1)=false:=by simp;omega
 have y2:decide (5<c.op)=false:=by simp;omega
 have y3:decide (2<=c.op)=true:=by simp;omega
 have y4:decide (c.op<=4)=true:=by simp;omega
 have y5:decide (z<0)=true:=by rw[hz] at hf;simpa using hf
 clear ho hf
 have HR:=J0 hr
 clear hr hz hm hn
 go_enter Tryz.func154,Tryz.ntmps154
 go_wp2_with (first
  |(go_at_call 114;refine(ey A cA m l HM.out c.s z HZ.out _ hA1 hl).mono ?_;rintro e w' ⟨rfl,rfl⟩)
  |(go_at_call 77;refine(ab A cA m l HM.out true HR.out _ hA1 hl sl).mono ?_;rintro e W0 ⟨rfl,hb⟩;replace HB:=HB.trans (hb.mono HB.size);replace hA1:=hA1.below hb;replace C:=C.below hb;replace N:=N.below hb;replace Z:=Z.below hb;clear hb a0 a1 a2 a3 a4 a5 a6 a7 a8 n1 n2 n3 o1 o2 o3 i1 i2 i3 j1 j2 j3;obtain⟨a0,a1,a2,a3,a4,a5,a6,a7,a8⟩:=C.c9;obtain⟨n1,n2,n3,o1,o2,o3⟩:=N.f3;obtain⟨i1,i2,i3,j1,j2,j3⟩:=Z.f3))
 refine Xx (v:=.tuple #[.agg #[.slice none 0 0,.slice none 0 0,.slice none 0 0],.int .i64 61]) (by simp[results,Tryz.results154,go_sem, *];done) rfl ⟨_,_,_,_,_,_,_,_,_,rfl,gP.z _ _,?_⟩
 exact((HB.setCell (by show w.heap.size<=w.heap.size+1;omega) _).setCell (by show w.heap.size<=w.heap.size+1;omega) _).setCell (by show w.heap.size<=w.heap.size+1;omega) _
theorem jW {w:EQ} {P:Nat->Prop} {A:EL} {m c n k b b':Nat} {v2 v3:ER} {t:Tb} {TM:ES} (hm:t.o.length=m) (R:Rd w A (aC t.o)) (hp:∀ad,A=some ad->P ad.block) (o2:w.ownsRow b 68 3 v2 n (aC t.n)) (hn:t.n.length=n) (p2:∀g,v2.ownBlock=some g->P g)
 (o3:w.ownsRow b' TM 4 v3 k (aJ t.m)) (hk:t.m.length=k) (p3:∀g,v3.ownBlock=some g->P g):gP P w (.agg #[.slice A m c,v2,v3]) t:=by
 subst hm hn hk
 obtain⟨B,d,rfl,hd,_,_⟩:=aL o2
 obtain⟨C,e,rfl,_,_,_⟩:=aL o3
 exact⟨A,c,B,d,C,e,rfl,hd,au.mk R hp,dj o2 p2,dj o3 p3⟩
theorem be {w:EQ} {base n m:Nat} {e:ES} {size c:Nat} {A:EL} {xs:EO} (h:w.ownsRow base e size (.slice A n c) m xs):n=m/\Rd w A xs:=by
 obtain⟨A',c',e1,_,_,hr⟩:=aL h
 cases e1
 exact⟨rfl,hr⟩
theorem iL {α:Type} (xs:List α) (x:α) (k:Nat):(xs++[x]).eraseIdx k=if xs.length=k then xs.eraseIdx k else xs.eraseIdx k++[x]:=by
 split
 ·rename_i h
  subst h
  rw[List.eraseIdx_append_of_length_le (J9 _),List.eraseIdx_of_length_le (J9 _)]
  simp
 ·rename_i h
  by_cases hlt:k<xs.length
  ·rw[List.eraseIdx_append_of_lt_length hlt]
  ·rw[List.eraseIdx_append_of_length_le (by omega),List.eraseIdx_of_length_le (l:=xs) (by omega),List.eraseIdx_of_length_le (by simp;omega)]
theorem gW {α:Type} (xs:List α) (x:α) (k:Nat) (f:α->α):(xs++[x]).modify k f=xs.modify k f++[if xs.length=k then f x else x]:=by
 apply Xk
 intro i
 rw[List.getElem?_modify]
 by_cases h1:i<xs.length
 ·rw[X9 h1,X9 (by rw[List.length_modify];exact h1),List.getElem?_modify]
 ·rw[Qk (by omega),Qk (by rw[List.length_modify];omega),List.length_modify]
  by_cases h2:i=xs.length
  ·subst h2
   by_cases h3:k=xs.length
   ·simp[h3]
   ·simp[h3,Ne.symm h3]
  ·rw[Xv (by simp;omega),Xv (by simp;omega)];rfl
theorem mq {l:List Fd} {k:Nat} {g:Fd->Fd} (sl:gL l) (hg:∀f∈l,(g f).s.size<=9223372036854775807):gL (l.modify k g):=by
 intro x hx
 obtain⟨i,hi⟩:=List.getElem?_of_mem hx
 rw[List.getElem?_modify] at hi
 cases hf:l[i]? with
 |none=>rw[hf] at hi;simp at hi
 |some f=>
  rw[hf] at hi
  by_cases h:k=i
  ·simp[h] at hi;rw[<-hi];exact hg f (J7 hf)
  ·simp[h] at hi;rw[<-hi];exact sl f (J7 hf)
theorem vd (l:List Fd) (c:Ch) (m:Nat) (hm:l.length=m) (hl:m<=9223372036854775807) (A:EL) (cA:Nat) (Q:EL) (n qc:Nat) (hn:c.q.length=n) (hn1:n<=17592186044415) (x0:0<=c.d.b) (x1:c.d.b<18446744073709551616) (sl:gL l) (sg:c.g.s.size<=9223372036854775807) (w:EQ) (hA:Rd w A (aC l)) (RQ:Rd w Q (aV c.q)) (hop:c.op=1) (hr:aK l=true) (ok:Bool) (hv:ie c=ok) (r:Bool) (hrt:aK (l++[c.g])=r):
 Calls Tryz.prog 154 #[.slice A m cA,.agg #[.int .i64 c.op,.string c.s,.string c.g.s,.int .i64 c.g.k,.int .i64 c.g.l,.int .i64 c.d.k,.int .u64 c.d.b,.string c.d.t,.slice Q n qc]] w fun e w'=>yi (bif ok && r then⟨l,(l++[c.g]),(kM m++[⟨-1,c.d⟩])⟩ else Tb.z) (bif ok && r then 0 else 80) w e w':=by
 have h16:m<=16:=by rw[<-hm];exact(aQ hr).2
 obtain⟨iF,hiF,hzF0,hzF1,hzF2⟩:=info_parts fI
 obtain⟨iM,hiM,hzM0,hzM1,hzM2⟩:=info_parts iO
 obtain⟨C,N,Z,HB⟩:=dE c Q n qc w
 have hA1:=hA.below HB
 obtain⟨a0,a1,a2,a3,a4,a5,a6,a7,a8⟩:=C.c9
 obtain⟨n1,n2,n3,o1,o2,o3⟩:=N.f3
 obtain⟨i1,i2,i3,j1,j2,j3⟩:=Z.f3
 obtain⟨z,hz⟩:∃z,aW l c.s=z:=⟨_,rfl⟩
 have HZ:=J0 hz
 have HM:=J0 hm
 have HN:=J0 hn
 have y1:decide (c.op<1)=false:=by rw[hop];decide
 have y2:decide (5<c.op)=false:=by rw[hop];decide
 have y3:decide (2<=c.op)=false:=by rw[hop];decide
 have y4:decide (c.op<=4)=true:=by rw[hop];decide
 have y6:(c.op == 3)=false:=by rw[hop];decide
 have y7:(c.op == 4)=false:=by rw[hop];decide
 have y8:(c.op != 2)=true:=by rw[hop];decide
 have y9:(c.op == 1)=true:=by rw[hop];decide
 have ya:(c.op == 5)=false:=by rw[hop];decide
 have HR:=J0 hr
 have HRT:=J0 hrt
 clear hr hz hm hn hop hrt
 go_enter Tryz.func154,Tryz.ntmps154
 go_wp2_with (first
  |(go_at_call 114;refine(ey A cA m l HM.out c.s z HZ.out _ hA1 hl).mono ?_;rintro e w' ⟨rfl,rfl⟩)
  |(go_at_call 77;refine(ab A cA m l HM.out true HR.out _ hA1 hl sl).mono ?_;rintro e W0 ⟨rfl,hb⟩;replace HB:=HB.trans (hb.mono HB.size);replace hA1:=hA1.below hb;replace C:=C.below hb;replace N:=N.below hb;replace Z:=Z.below hb;clear hb a0 a1 a2 a3 a4 a5 a6 a7 a8 n1 n2 n3 o1 o2 o3 i1 i2 i3 j1 j2 j3;obtain⟨a0,a1,a2,a3,a4,a5,a6,a7,a8⟩:=C.c9;obtain⟨n1,n2,n3,o1,o2,o3⟩:=N.f3;obtain⟨i1,i2,i3,j1,j2,j3⟩:=Z.f3))
 have szW:w.heap.size+2<W0.heap.size:=Z.lt
 have nb:=aA (w:=W0) (.cells #[.slice A m cA,.slice none 0 0,.slice none 0 0] 110)
 have H0:TO w (W0.alloc (.cells #[.slice A m cA,.slice none 0 0,.slice none 0 0] 110)) (W0.heap.size+1) W0.heap.size (.slice A m cA) (.slice none 0 0) (.slice none 0 0) [] [] 110 157:=
  ⟨aD.new W0 _ _,ai _ _ _ _,ai _ _ _ _,fun g hg=>by simp[Value.ownBlock] at hg,Nat.lt_succ_self _,HB.trans (nb.mono HB.size),HB.size⟩
 have C0:=C.below nb
 have N0:=N.below nb
 have Z0:=Z.below nb
 clear nb C N Z HB hA1 a0 a1 a2 a3 a4 a5 a6 a7 a8 n1 n2 n3 o1 o2 o3 i1 i2 i3 j1 j2 j3
 go_loopw [9,10] (fun i _ wr=>∃(j:Nat) (vF vM:ER),j<=m/\i=.int .i64 j/\TO w wr (W0.heap.size+1) W0.heap.size (.slice A m cA) vF vM (l.take j) (kM j) 110 157/\aD wr (w.heap.size+1) [.slice none 0 0,.slice none 0 0,.slice none 0 0] 110/\aD wr (w.heap.size+2) [.slice none 0 0,.slice none 0 0,.slice none 0 0] 110/\cx wr w.heap.size c (.slice Q n qc) 73) (fun i _ _=>m - (intOf i).toNat)
 case atStart=>exact⟨0,_,_,by omega,rfl,H0,N0,Z0,C0⟩
 case round=>
  obtain⟨j,vF,vM,hj,rfl,H,N,Z,C⟩:=hrel
  clear H0 N0 Z0 C0
  obtain⟨fs,hfs⟩:∃fs,(l.take j)=fs:=⟨_,rfl⟩
  obtain⟨ms,hms⟩:∃ms,(kM j)=ms:=⟨_,rfl⟩
  rw[hfs,hms] at H
  have HFS:=J0 hfs
  have HMS:=J0 hms
  clear hfs hms
  have hAr:=hA.below H.B
  have RQr:=RQ.below H.B
  by_cases hlt:j<m
  ·obtain⟨f,hf⟩:∃f,l[j]?=some f:=⟨_,J4 (by rw[HM.out];exact hlt)⟩
   obtain⟨ad,rfl,g0,g1,g2⟩:=hAr.fld hf
   have hi0:(0:Int)<=(j:Int):=by omega
   have hi1:(j:Int)<(m:Int):=by omega
   have HF:=J0 hf
   have nu:=aA (w:=wr) (.cells #[.string f.s,.int .i64 f.k,.int .i64 f.l] 68)
   have GB:=aD.new wr [.string f.s,.int .i64 f.k,.int .i64 f.l] 68
   have HU:=H.below nu
   have NU:=N.below nu
   have ZU:=Z.below nu
   have CU:=C.below nu
   have hsz:W0.heap.size<wr.heap.size:=H.lt
   clear hf
   have hst:Hid (l.take (j+1)=l.take j++[f]):=J0 (by rw[Vv,HF.out];rfl)
   have szF:Hid (fs.length+1<=maxLen/\(fs.length+1) * 32<=140737488355328):=J0 (by have h5:fs.length<=j:=(by rw[<-HFS.out,Qx];omega);simp only[maxLen];omega)
   have szM:Hid (ms.length+1<=maxLen/\(ms.length+1) * 40<=140737488355328):=J0 (by rw[<-HMS.out,aP];simp only[maxLen];omega)
   obtain⟨a0,a1,a2,a3,a4,a5,a6,a7,a8⟩:=CU.c9
   have nf:=aA (w:=(wr.alloc (.cells #[.string f.s,.int .i64 f.k,.int .i64 f.l] 68))) (.cells #[.string f.s,.int .i64 f.k,.int .i64 f.l] 68)
   have hbU:W0.heap.size+1<=((wr.alloc (.cells #[.string f.s,.int .i64 f.k,.int .i64 f.l] 68))).heap.size:=HU.lt
   obtain⟨p1,p2,p3,q1,q2,q3⟩:=(HU.O.below nf).f3
   obtain⟨s1,s2,s3,u1,u2,u3⟩:=HU.O.f3
   go_wp2_with (first
    |(at_builtin;refine Y4 _ rfl _ _ 27 rfl (W0.heap.size+1) 68 iF (.agg #[.string ⟨#[]⟩,.int .i64 0,.int .i64 0]) 3 32 Tryz.underlying27 hiF hzF0 hzF1 hzF2 rfl (by decide) _ _ _ rfl (aG HU.F nf) ⟨wr.heap.size+1,0,none⟩ 1 1 [.string f.s,.int .i64 f.k,.int .i64 f.l] (by first|rfl|simp) rfl ?c1 ?c2 ?c3 ?c4 ?c5 ?_))
   case c1=>rw[show wr.heap.size+1=((wr.alloc (.cells #[.string f.s,.int .i64 f.k,.int .i64 f.l] 68))).heap.size by simp];exact fV _ _ _ _ _
   case c2=>intro u hu;simp at hu;rcases hu with rfl|rfl|rfl <;> rfl
   case c3=>exact(szF.out).1
   case c4=>have:=szF.out.2;omega
   case c5=>have:=nf.size;omega
   intro vF' W5 ownF5 gr5 _ hat5
   obtain⟨O5,H6,fr6⟩:=HU.addF nf ⟨f.s,f.k,f.l⟩ gr5 hbU ownF5 (by first|exact hat5|simpa using hat5)
   obtain⟨F5,c5,rfl,_,_,_⟩:=aL ownF5
   clear p1 p2 p3 q1 q2 q3 s1 s2 s3 u1 u2 u3 ownF5 gr5 hat5
   obtain⟨s1,s2,s3,u1,u2,u3⟩:=O5.f3
   have nm:=aA (w:=W5.setCell ⟨W0.heap.size,1,none⟩ (.slice F5 (fs.length+1) c5)) (.cells #[.int .i64 j,.int .i64 0,.int .u64 0,.string ⟨#[]⟩] 157)
   have hb6:Hid (W0.heap.size+1<=(W5.setCell ⟨W0.heap.size,1,none⟩ (.slice F5 (fs.length+1) c5)).heap.size):=J0 H6.lt
   have z6:Hid (W5.heap.size=(W5.setCell ⟨W0.heap.size,1,none⟩ (.slice F5 (fs.length+1) c5)).heap.size):=J0 (by simp)
   obtain⟨p1,p2,p3,q1,q2,q3⟩:=H6.O.f3
   obtain⟨t1,t2,t3,v1,v2,v3⟩:=(H6.O.below nm).f3
   go_wp2_with (at_builtin;refine Y4 _ rfl _ _ 108 rfl (W0.heap.size+1) 157 iM (.agg #[.int .i64 0,.int .i64 0,.int .u64 0,.string ⟨#[]⟩]) 4 40 Tryz.underlying108 hiM hzM0 hzM1 hzM2 rfl (by decide) _ _ _ rfl (aG H6.M nm) ⟨W5.heap.size,0,none⟩ 1 1 [.int .i64 j,.int .i64 0,.int .u64 0,.string ⟨#[]⟩] rfl rfl ?c1 ?c2 ?c3 ?c4 ?c5 ?_)
   case c1=>rw[z6.out];exact eR _ _ _ _ _ _
   case c2=>intro u hu;simp at hu;rcases hu with rfl|rfl|rfl|rfl <;> rfl
   case c3=>exact(szM.out).1
   case c4=>have:=szM.out.2;omega
   case c5=>have:=nm.size;have:=hb6.out;omega
   intro vM' W7 ownM7 gr7 _ hat7
   obtain⟨O7,H8,fr8⟩:=H6.addM nm ⟨j,Vl.z⟩ gr7 hb6.out ownM7 (by first|exact hat7|simpa using hat7)
   obtain⟨M7,c7,rfl,_,_,_⟩:=aL ownM7
   clear p1 p2 p3 q1 q2 q3 s1 s2 s3 u1 u2 u3 t1 t2 t3 v1 v2 v3 ownM7 gr7 hat7
   obtain⟨s1,s2,s3,u1,u2,u3⟩:=O7.f3
   go_wp2
   go_roundw
   case rel=>
    refine⟨j+1,_,_,by omega,by go_num,(by rw[hst.out,du,HFS.out,HMS.out];exact H8),?_,?_,?_⟩
    ·exact(fr8 _ (by omega) (by omega)).trans ((fr6 _ (by omega) (by omega)).trans NU)
    ·exact(fr8 _ (by omega) (by omega)).trans ((fr6 _ (by omega) (by omega)).trans ZU)
    ·exact(fr8 _ (by omega) (by omega)).trans ((fr6 _ (by omega) (by omega)).trans CU)
   case measure=>simp[intOf];omega
  ·obtain rfl:j=m:=by omega
   obtain⟨a0,a1,a2,a3,a4,a5,a6,a7,a8⟩:=C.c9
   have HFL:Hid (fs=l):=J0 (by rw[<-HFS.out];exact Vx (by rw[HM.out];exact J9 _))
   have HML:Hid (ms=kM j):=J0 (by rw[<-HMS.out])
   have HV:=J0 hv
   obtain⟨rv,hrv⟩:∃x,aM c.d.k c.d.b c.d.t c.g.k c.g.l=x:=⟨_,rfl⟩
   have HRV:=J0 hrv
   clear hv hrv
   cases rv
   ·obtain rfl:ok=false:=by rw[<-HV.out,ie,HRV.out];simp
    go_wp2_with (go_at_call 115;refine(aq c.d.k c.d.b c.d.t c.g.s c.g.k c.g.l x0 x1 false HRV.out _).mono ?_;rintro e wM ⟨rfl,hb⟩;replace H:=H.below hb;replace N:=N.below hb;replace Z:=Z.below hb;replace C:=C.below hb;clear hb a0 a1 a2 a3 a4 a5 a6 a7 a8;obtain⟨a0,a1,a2,a3,a4,a5,a6,a7,a8⟩:=C.c9;obtain⟨n1,n2,n3,o1,o2,o3⟩:=N.f3;obtain⟨i1,i2,i3,j1,j2,j3⟩:=Z.f3;obtain⟨s1,s2,s3,u1,u2,u3⟩:=H.O.f3)
    refine Xx (v:=.tuple #[.agg #[.slice none 0 0,.slice none 0 0,.slice none 0 0],.int .i64 80]) (by simp[results,Tryz.results154,go_sem, *];done) rfl ⟨_,_,_,_,_,_,_,_,_,rfl,gP.z _ _,?_⟩
    exact((H.B.setCell (by show w.heap.size<=w.heap.size+1;omega) _).setCell (by show w.heap.size<=w.heap.size+1;omega) _).setCell (by show w.heap.size<=w.heap.size+1;omega) _
   ·by_cases hk:c.g.k=11
    ·have yb:(c.g.k == 11)=true:=by simp[hk]
     by_cases hb0:c.d.b=0
     ·have yc:(c.d.b != 0)=false:=by simp[hb0]
      obtain rfl:ok=true:=by rw[<-HV.out,ie,HRV.out];simp[hb0]
      clear hk hb0
      go_upto_region 27 with (go_at_call 115;refine(aq c.d.k c.d.b c.d.t c.g.s c.g.k c.g.l x0 x1 true HRV.out _).mono ?_;rintro e wM ⟨rfl,hb⟩;replace H:=H.below hb;replace N:=N.below hb;replace Z:=Z.below hb;replace C:=C.below hb;clear hb a0 a1 a2 a3 a4 a5 a6 a7 a8;obtain⟨a0,a1,a2,a3,a4,a5,a6,a7,a8⟩:=C.c9;obtain⟨n1,n2,n3,o1,o2,o3⟩:=N.f3;obtain⟨i1,i2,i3,j1,j2,j3⟩:=Z.f3;obtain⟨s1,s2,s3,u1,u2,u3⟩:=H.O.f3)
      clear i1 i2 i3 j1 j2 j3 s1 s2 s3 u1 u2 u3 n1 n2 n3 o1 o2 o3
      have szF:Hid (fs.length+1<=maxLen/\(fs.length+1) * 32<=140737488355328):=J0 (by rw[HFL.out,HM.out];simp only[maxLen];omega)
      have szM:Hid (ms.length+1<=maxLen/\(ms.length+1) * 40<=140737488355328):=J0 (by rw[HML.out,aP];simp only[maxLen];omega)
      have nf:=aA (w:=wM) (.cells #[.string c.g.s,.int .i64 c.g.k,.int .i64 c.g.l] 68)
      have hbU:W0.heap.size+1<=(wM).heap.size:=H.lt
      obtain⟨p1,p2,p3,q1,q2,q3⟩:=(H.O.below nf).f3
      obtain⟨s1,s2,s3,u1,u2,u3⟩:=H.O.f3
      go_wp2_with (first
       |(at_builtin;refine Y4 _ rfl _ _ 27 rfl (W0.heap.size+1) 68 iF (.agg #[.string ⟨#[]⟩,.int .i64 0,.int .i64 0]) 3 32 Tryz.underlying27 hiF hzF0 hzF1 hzF2 rfl (by decide) _ _ _ rfl (aG H.F nf) ⟨wM.heap.size,0,none⟩ 1 1 [.string c.g.s,.int .i64 c.g.k,.int .i64 c.g.l] (by first|rfl|simp) rfl ?c1 ?c2 ?c3 ?c4 ?c5 ?_))
      case c1=>exact fV _ _ _ _ _
      case c2=>intro u hu;simp at hu;rcases hu with rfl|rfl|rfl <;> rfl
      case c3=>exact(szF.out).1
      case c4=>have:=szF.out.2;omega
      case c5=>have:=nf.size;omega
      intro vF' W5 ownF5 gr5 _ hat5
      obtain⟨O5,H6,fr6⟩:=H.addF nf ⟨c.g.s,c.g.k,c.g.l⟩ gr5 hbU ownF5 (by first|exact hat5|simpa using hat5)
      obtain⟨F5,c5,rfl,_,_,_⟩:=aL ownF5
      clear p1 p2 p3 q1 q2 q3 s1 s2 s3 u1 u2 u3 ownF5 gr5 hat5
      obtain⟨s1,s2,s3,u1,u2,u3⟩:=O5.f3
      have nm:=aA (w:=W5.setCell ⟨W0.heap.size,1,none⟩ (.slice F5 (fs.length+1) c5)) (.cells #[.int .i64 (-1),.int .i64 c.d.k,.int .u64 c.d.b,.string c.d.t] 157)
      have hb6:Hid (W0.heap.size+1<=(W5.setCell ⟨W0.heap.size,1,none⟩ (.slice F5 (fs.length+1) c5)).heap.size):=J0 H6.lt
      have z6:Hid (W5.heap.size=(W5.setCell ⟨W0.heap.size,1,none⟩ (.slice F5 (fs.length+1) c5)).heap.size):=J0 (by simp)
      obtain⟨p1,p2,p3,q1,q2,q3⟩:=H6.O.f3
      obtain⟨t1,t2,t3,v1,v2,v3⟩:=(H6.O.below nm).f3
      obtain⟨e0,e1,e2,e3,e4,e5,e6,e7,e8⟩:=cx.c9 (show cx (W5.setCell ⟨W0.heap.size,1,none⟩ (.slice F5 (fs.length+1) c5)) w.heap.size c (.slice Q n qc) 73 from(fr6 _ (by omega) (by omega)).trans C)
      go_wp2_with (at_builtin;refine Y4 _ rfl _ _ 108 rfl (W0.heap.size+1) 157 iM (.agg #[.int .i64 0,.int .i64 0,.int .u64 0,.string ⟨#[]⟩]) 4 40 Tryz.underlying108 hiM hzM0 hzM1 hzM2 rfl (by decide) _ _ _ rfl (aG H6.M nm) ⟨W5.heap.size,0,none⟩ 1 1 [.int .i64 (-1),.int .i64 c.d.k,.int .u64 c.d.b,.string c.d.t] rfl rfl ?c1 ?c2 ?c3 ?c4 ?c5 ?_)
      case c1=>rw[z6.out];exact eR _ _ _ _ _ _
      case c2=>intro u hu;simp at hu;rcases hu with rfl|rfl|rfl|rfl <;> rfl
      case c3=>exact(szM.out).1
      case c4=>have:=szM.out.2;omega
      case c5=>have:=nm.size;have:=hb6.out;omega
      intro vM' W7 ownM7 gr7 _ hat7
      obtain⟨O7,H8,fr8⟩:=H6.addM nm ⟨-1,c.d⟩ gr7 hb6.out ownM7 (by first|exact hat7|simpa using hat7)
      obtain⟨M7,c7,rfl,_,_,_⟩:=aL ownM7
      clear p1 p2 p3 q1 q2 q3 s1 s2 s3 u1 u2 u3 t1 t2 t3 v1 v2 v3 ownM7 gr7 hat7
      obtain⟨s1,s2,s3,u1,u2,u3⟩:=O7.f3
      have H9:=H8
      have N9:=(show aD _ (w.heap.size+1) [.slice none 0 0,.slice none 0 0,.slice none 0 0] 110 from(fr8 _ (by omega) (by omega)).trans ((fr6 _ (by omega) (by omega)).trans N))
      have Z9:=(show aD _ (w.heap.size+2) [.slice none 0 0,.slice none 0 0,.slice none 0 0] 110 from(fr8 _ (by omega) (by omega)).trans ((fr6 _ (by omega) (by omega)).trans Z))
      have C9:=(show cx _ w.heap.size c (.slice Q n qc) 73 from(fr8 _ (by omega) (by omega)).trans ((fr6 _ (by omega) (by omega)).trans C))
      have HFX:Hid ((fs++[c.g])=l++[c.g]):=J0 (by rw[HFL.out])
      have HMX:Hid ((ms++[⟨-1,c.d⟩])=kM j++[⟨-1,c.d⟩]):=J0 (by rw[HML.out])
      have szX:Hid (((fs++[c.g])).length<=281474976710656):=J0 ((by rw[HFL.out];simp[HM.out];omega))
      have SFX:Hid (gL ((fs++[c.g]))):=J0 ((by rw[HFL.out];intro x hx;rcases X5.1 hx with h|h;exact sl x h;simp at h;subst h;exact sg))
      generalize hFX:fs++[c.g]=FX at *
      generalize hMX:ms++[(⟨-1,c.d⟩:Mv)]=MX at *
      clear C a0 a1 a2 a3 a4 a5 a6 a7 a8 e0 e1 e2 e3 e4 e5 e6 e7 e8
      obtain⟨b1,b2,b3,d1,d2,d3⟩:(W7.cell? ⟨W0.heap.size,0,none⟩=some _/\W7.cell? ⟨W0.heap.size,1,none⟩=some _/\W7.cell? ⟨W0.heap.size,2,none⟩=some _/\W7.frozen? ⟨W0.heap.size,0,none⟩=false/\W7.frozen? ⟨W0.heap.size,1,none⟩=false/\W7.frozen? ⟨W0.heap.size,2,none⟩=false):=⟨s1,s2,s3,u1,u2,u3⟩
      clear s1 s2 s3 u1 u2 u3
      obtain⟨eF,RF⟩:=be H9.F
      obtain⟨eM,RM⟩:=be H9.M
      have EF:=J0 eF
      have EM:=J0 eM
      clear eF eM RM
      have sz9:W0.heap.size<_:=H9.lt
      have SF:gL FX:=SFX.out
      have hFl:FX.length<=9223372036854775807:=(by have:=szX.out;omega)
      obtain⟨s1,s2,s3,u1,u2,u3⟩:=H9.O.f3
      obtain⟨n1,n2,n3,o1,o2,o3⟩:=N9.f3
      obtain⟨i1,i2,i3,j1,j2,j3⟩:=Z9.f3
      obtain⟨a0,a1,a2,a3,a4,a5,a6,a7,a8⟩:=C9.c9
      cases r
      ·go_wp2_with (go_at_call 77;refine(ab _ _ _ FX EF.out.symm false (by rw[HFX.out];exact HRT.out) _ RF (by rw[EF.out];exact hFl) SF).mono ?_;rintro e wM ⟨rfl,hb⟩;replace H9:=H9.below hb;replace N9:=N9.below hb;replace Z9:=Z9.below hb;clear hb s1 s2 s3 u1 u2 u3 n1 n2 n3 o1 o2 o3 i1 i2 i3 j1 j2 j3 a0 a1 a2 a3 a4 a5 a6 a7 a8;obtain⟨n1,n2,n3,o1,o2,o3⟩:=N9.f3;obtain⟨i1,i2,i3,j1,j2,j3⟩:=Z9.f3)
       refine Xx (v:=.tuple #[.agg #[.slice none 0 0,.slice none 0 0,.slice none 0 0],.int .i64 80]) (by simp[results,Tryz.results154,go_sem, *];done) rfl ⟨_,_,_,_,_,_,_,_,_,rfl,gP.z _ _,?_⟩
       exact((H9.B.setCell (by show w.heap.size<=w.heap.size+1;omega) _).setCell (by show w.heap.size<=w.heap.size+1;omega) _).setCell (by show w.heap.size<=w.heap.size+1;omega) _
      ·go_wp2_with (go_at_call 77;refine(ab _ _ _ FX EF.out.symm true (by rw[HFX.out];exact HRT.out) _ RF (by rw[EF.out];exact hFl) SF).mono ?_;rintro e wM ⟨rfl,hb⟩;replace H9:=H9.below hb;replace N9:=N9.below hb;clear hb s1 s2 s3 u1 u2 u3 n1 n2 n3 o1 o2 o3 i1 i2 i3 j1 j2 j3 a0 a1 a2 a3 a4 a5 a6 a7 a8;obtain⟨n1,n2,n3,o1,o2,o3⟩:=N9.f3;obtain⟨s1,s2,s3,u1,u2,u3⟩:=H9.O.f3)
       have BF:=aF H9.F
       have BM:=aF H9.M
       refine Xx (v:=.tuple #[.agg #[.slice A j cA,.slice F5 (fs.length+1) c5,.slice M7 (ms.length+1) c7],.int .i64 0]) (by simp[results,Tryz.results154,go_sem, *];done) rfl ⟨_,_,_,_,_,_,_,_,_,rfl,?_,?_⟩
       ·refine jW (t:=⟨l,_,_⟩) HM.out ?_ (fun _ _=>trivial) (ag (aN H9.F fun g hg=>?_) EF.out.symm (by rw[HFX.out])) (by rw[EF.out,<-HFX.out]) (fun _ _=>trivial) (ag (aN H9.M fun g hg=>?_) EM.out.symm (by rw[HMX.out])) (by rw[EM.out,<-HMX.out]) (fun _ _=>trivial)
        ·exact hA.below (((H9.B.setCell (by show w.heap.size<=w.heap.size+1;omega) _).setCell (by show w.heap.size<=w.heap.size+1;omega) _).setCell (by show w.heap.size<=w.heap.size+1;omega) _)
        ·have h:=BF g hg
         exact(J5 _ _ _ _ (by show g≠w.heap.size+1;omega)).trans ((J5 _ _ _ _ (by show g≠w.heap.size+1;omega)).trans (J5 _ _ _ _ (by show g≠w.heap.size+1;omega)))
        ·have h:=BM g hg
         exact(J5 _ _ _ _ (by show g≠w.heap.size+1;omega)).trans ((J5 _ _ _ _ (by show g≠w.heap.size+1;omega)).trans (J5 _ _ _ _ (by show g≠w.heap.size+1;omega)))
       ·exact((H9.B.setCell (by show w.heap.size<=w.heap.size+1;omega) _).setCell (by show w.heap.size<=w.heap.size+1;omega) _).setCell (by show w.heap.size<=w.heap.size+1;omega) _
     ·have yc:(c.d.b != 0)=true:=by simp[hb0]
      obtain rfl:ok=false:=by rw[<-HV.out,ie,HRV.out];simp[hb0,hk]
      clear hk hb0
      go_wp2_with (go_at_call 115;refine(aq c.d.k c.d.b c.d.t c.g.s c.g.k c.g.l x0 x1 true HRV.out _).mono ?_;rintro e wM ⟨rfl,hb⟩;replace H:=H.below hb;replace N:=N.below hb;replace Z:=Z.below hb;replace C:=C.below hb;clear hb a0 a1 a2 a3 a4 a5 a6 a7 a8;obtain⟨a0,a1,a2,a3,a4,a5,a6,a7,a8⟩:=C.c9;obtain⟨n1,n2,n3,o1,o2,o3⟩:=N.f3;obtain⟨i1,i2,i3,j1,j2,j3⟩:=Z.f3;obtain⟨s1,s2,s3,u1,u2,u3⟩:=H.O.f3)
      refine Xx (v:=.tuple #[.agg #[.slice none 0 0,.slice none 0 0,.slice none 0 0],.int .i64 80]) (by simp[results,Tryz.results154,go_sem, *];done) rfl ⟨_,_,_,_,_,_,_,_,_,rfl,gP.z _ _,?_⟩
      exact((H.B.setCell (by show w.heap.size<=w.heap.size+1;omega) _).setCell (by show w.heap.size<=w.heap.size+1;omega) _).setCell (by show w.heap.size<=w.heap.size+1;omega) _
    ·have yb:(c.g.k == 11)=false:=by simp[hk]
     obtain rfl:ok=true:=by rw[<-HV.out,ie,HRV.out];simp[hk]
     clear hk
     go_upto_region 27 with (go_at_call 115;refine(aq c.d.k c.d.b c.d.t c.g.s c.g.k c.g.l x0 x1 true HRV.out _).mono ?_;rintro e wM ⟨rfl,hb⟩;replace H:=H.below hb;replace N:=N.below hb;replace Z:=Z.below hb;replace C:=C.below hb;clear hb a0 a1 a2 a3 a4 a5 a6 a7 a8;obtain⟨a0,a1,a2,a3,a4,a5,a6,a7,a8⟩:=C.c9;obtain⟨n1,n2,n3,o1,o2,o3⟩:=N.f3;obtain⟨i1,i2,i3,j1,j2,j3⟩:=Z.f3;obtain⟨s1,s2,s3,u1,u2,u3⟩:=H.O.f3)
     clear i1 i2 i3 j1 j2 j3 s1 s2 s3 u1 u2 u3 n1 n2 n3 o1 o2 o3
     have szF:Hid (fs.length+1<=maxLen/\(fs.length+1) * 32<=140737488355328):=J0 (by rw[HFL.out,HM.out];simp only[maxLen];omega)
     have szM:Hid (ms.length+1<=maxLen/\(ms.length+1) * 40<=140737488355328):=J0 (by rw[HML.out,aP];simp only[maxLen];omega)
     have nf:=aA (w:=wM) (.cells #[.string c.g.s,.int .i64 c.g.k,.int .i64 c.g.l] 68)
     have hbU:W0.heap.size+1<=(wM).heap.size:=H.lt
     obtain⟨p1,p2,p3,q1,q2,q3⟩:=(H.O.below nf).f3
     obtain⟨s1,s2,s3,u1,u2,u3⟩:=H.O.f3
     go_wp2_with (first
      |(at_builtin;refine Y4 _ rfl _ _ 27 rfl (W0.heap.size+1) 68 iF (.agg #[.string ⟨#[]⟩,.int .i64 0,.int .i64 0]) 3 32 Tryz.underlying27 hiF hzF0 hzF1 hzF2 rfl (by decide) _ _ _ rfl (aG H.F nf) ⟨wM.heap.size,0,none⟩ 1 1 [.string c.g.s,.int .i64 c.g.k,.int .i64 c.g.l] (by first|rfl|simp) rfl ?c1 ?c2 ?c3 ?c4 ?c5 ?_))
     case c1=>exact fV _ _ _ _ _
     case c2=>intro u hu;simp at hu;rcases hu with rfl|rfl|rfl <;> rfl
     case c3=>exact(szF.out).1
     case c4=>have:=szF.out.2;omega
     case c5=>have:=nf.size;omega
     intro vF' W5 ownF5 gr5 _ hat5
     obtain⟨O5,H6,fr6⟩:=H.addF nf ⟨c.g.s,c.g.k,c.g.l⟩ gr5 hbU ownF5 (by first|exact hat5|simpa using hat5)
     obtain⟨F5,c5,rfl,_,_,_⟩:=aL ownF5
     clear p1 p2 p3 q1 q2 q3 s1 s2 s3 u1 u2 u3 ownF5 gr5 hat5
     obtain⟨s1,s2,s3,u1,u2,u3⟩:=O5.f3
     have nm:=aA (w:=W5.setCell ⟨W0.heap.size,1,none⟩ (.slice F5 (fs.length+1) c5)) (.cells #[.int .i64 (-1),.int .i64 c.d.k,.int .u64 c.d.b,.string c.d.t] 157)
     have hb6:Hid (W0.heap.size+1<=(W5.setCell ⟨W0.heap.size,1,none⟩ (.slice F5 (fs.length+1) c5)).heap.size):=J0 H6.lt
     have z6:Hid (W5.heap.size=(W5.setCell ⟨W0.heap.size,1,none⟩ (.slice F5 (fs.length+1) c5)).heap.size):=J0 (by simp)
     obtain⟨p1,p2,p3,q1,q2,q3⟩:=H6.O.f3
     obtain⟨t1,t2,t3,v1,v2,v3⟩:=(H6.O.below nm).f3
     obtain⟨e0,e1,e2,e3,e4,e5,e6,e7,e8⟩:=cx.c9 (show cx (W5.setCell ⟨W0.heap.size,1,none⟩ (.slice F5 (fs.length+1) c5)) w.heap.size c (.slice Q n qc) 73 from(fr6 _ (by omega) (by omega)).trans C)
     go_wp2_with (at_builtin;refine Y4 _ rfl _ _ 108 rfl (W0.heap.size+1) 157 iM (.agg #[.int .i64 0,.int .i64 0,.int .u64 0,.string ⟨#[]⟩]) 4 40 Tryz.underlying108 hiM hzM0 hzM1 hzM2 rfl (by decide) _ _ _ rfl (aG H6.M nm) ⟨W5.heap.size,0,none⟩ 1 1 [.int .i64 (-1),.int .i64 c.d.k,.int .u64 c.d.b,.string c.d.t] rfl rfl ?c1 ?c2 ?c3 ?c4 ?c5 ?_)
     case c1=>rw[z6.out];exact eR _ _ _ _ _ _
     case c2=>intro u hu;simp at hu;rcases hu with rfl|rfl|rfl|rfl <;> rfl
     case c3=>exact(szM.out).1
     case c4=>have:=szM.out.2;omega
     case c5=>have:=nm.size;have:=hb6.out;omega
     intro vM' W7 ownM7 gr7 _ hat7
     obtain⟨O7,H8,fr8⟩:=H6.addM nm ⟨-1,c.d⟩ gr7 hb6.out ownM7 (by first|exact hat7|simpa using hat7)
     obtain⟨M7,c7,rfl,_,_,_⟩:=aL ownM7
     clear p1 p2 p3 q1 q2 q3 s1 s2 s3 u1 u2 u3 t1 t2 t3 v1 v2 v3 ownM7 gr7 hat7
     obtain⟨s1,s2,s3,u1,u2,u3⟩:=O7.f3
     have H9:=H8
     have N9:=(show aD _ (w.heap.size+1) [.slice none 0 0,.slice none 0 0,.slice none 0 0] 110 from(fr8 _ (by omega) (by omega)).trans ((fr6 _ (by omega) (by omega)).trans N))
     have Z9:=(show aD _ (w.heap.size+2) [.slice none 0 0,.slice none 0 0,.slice none 0 0] 110 from(fr8 _ (by omega) (by omega)).trans ((fr6 _ (by omega) (by omega)).trans Z))
     have C9:=(show cx _ w.heap.size c (.slice Q n qc) 73 from(fr8 _ (by omega) (by omega)).trans ((fr6 _ (by omega) (by omega)).trans C))
     have HFX:Hid ((fs++[c.g])=l++[c.g]):=J0 (by rw[HFL.out])
     have HMX:Hid ((ms++[⟨-1,c.d⟩])=kM j++[⟨-1,c.d⟩]):=J0 (by rw[HML.out])
     have szX:Hid (((fs++[c.g])).length<=281474976710656):=J0 ((by rw[HFL.out];simp[HM.out];omega))
     have SFX:Hid (gL ((fs++[c.g]))):=J0 ((by rw[HFL.out];intro x hx;rcases X5.1 hx with h|h;exact sl x h;simp at h;subst h;exact sg))
     generalize hFX:fs++[c.g]=FX at *
     generalize hMX:ms++[(⟨-1,c.d⟩:Mv)]=MX at *
     clear C a0 a1 a2 a3 a4 a5 a6 a7 a8 e0 e1 e2 e3 e4 e5 e6 e7 e8
     obtain⟨b1,b2,b3,d1,d2,d3⟩:(W7.cell? ⟨W0.heap.size,0,none⟩=some _/\W7.cell? ⟨W0.heap.size,1,none⟩=some _/\W7.cell? ⟨W0.heap.size,2,none⟩=some _/\W7.frozen? ⟨W0.heap.size,0,none⟩=false/\W7.frozen? ⟨W0.heap.size,1,none⟩=false/\W7.frozen? ⟨W0.heap.size,2,none⟩=false):=⟨s1,s2,s3,u1,u2,u3⟩
     clear s1 s2 s3 u1 u2 u3
     obtain⟨eF,RF⟩:=be H9.F
     obtain⟨eM,RM⟩:=be H9.M
     have EF:=J0 eF
     have EM:=J0 eM
     clear eF eM RM
     have sz9:W0.heap.size<_:=H9.lt
     have SF:gL FX:=SFX.out
     have hFl:FX.length<=9223372036854775807:=(by have:=szX.out;omega)
     obtain⟨s1,s2,s3,u1,u2,u3⟩:=H9.O.f3
     obtain⟨n1,n2,n3,o1,o2,o3⟩:=N9.f3
     obtain⟨i1,i2,i3,j1,j2,j3⟩:=Z9.f3
     obtain⟨a0,a1,a2,a3,a4,a5,a6,a7,a8⟩:=C9.c9
     cases r
     ·go_wp2_with (go_at_call 77;refine(ab _ _ _ FX EF.out.symm false (by rw[HFX.out];exact HRT.out) _ RF (by rw[EF.out];exact hFl) SF).mono ?_;rintro e wM ⟨rfl,hb⟩;replace H9:=H9.below hb;replace N9:=N9.below hb;replace Z9:=Z9.below hb;clear hb s1 s2 s3 u1 u2 u3 n1 n2 n3 o1 o2 o3 i1 i2 i3 j1 j2 j3 a0 a1 a2 a3 a4 a5 a6 a7 a8;obtain⟨n1,n2,n3,o1,o2,o3⟩:=N9.f3;obtain⟨i1,i2,i3,j1,j2,j3⟩:=Z9.f3)
      refine Xx (v:=.tuple #[.agg #[.slice none 0 0,.slice none 0 0,.slice none 0 0],.int .i64 80]) (by simp[results,Tryz.results154,go_sem, *];done) rfl ⟨_,_,_,_,_,_,_,_,_,rfl,gP.z _ _,?_⟩
      exact((H9.B.setCell (by show w.heap.size<=w.heap.size+1;omega) _).setCell (by show w.heap.size<=w.heap.size+1;omega) _).setCell (by show w.heap.size<=w.heap.size+1;omega) _
     ·go_wp2_with (go_at_call 77;refine(ab _ _ _ FX EF.out.symm true (by rw[HFX.out];exact HRT.out) _ RF (by rw[EF.out];exact hFl) SF).mono ?_;rintro e wM ⟨rfl,hb⟩;replace H9:=H9.below hb;replace N9:=N9.below hb;clear hb s1 s2 s3 u1 u2 u3 n1 n2 n3 o1 o2 o3 i1 i2 i3 j1 j2 j3 a0 a1 a2 a3 a4 a5 a6 a7 a8;obtain⟨n1,n2,n3,o1,o2,o3⟩:=N9.f3;obtain⟨s1,s2,s3,u1,u2,u3⟩:=H9.O.f3)
      have BF:=aF H9.F
      have BM:=aF H9.M
      refine Xx (v:=.tuple #[.agg #[.slice A j cA,.slice F5 (fs.length+1) c5,.slice M7 (ms.length+1) c7],.int .i64 0]) (by simp[results,Tryz.results154,go_sem, *];done) rfl ⟨_,_,_,_,_,_,_,_,_,rfl,?_,?_⟩
      ·refine jW (t:=⟨l,_,_⟩) HM.out ?_ (fun _ _=>trivial) (ag (aN H9.F fun g hg=>?_) EF.out.symm (by rw[HFX.out])) (by rw[EF.out,<-HFX.out]) (fun _ _=>trivial) (ag (aN H9.M fun g hg=>?_) EM.out.symm (by rw[HMX.out])) (by rw[EM.out,<-HMX.out]) (fun _ _=>trivial)
       ·exact hA.below (((H9.B.setCell (by show w.heap.size<=w.heap.size+1;omega) _).setCell (by show w.heap.size<=w.heap.size+1;omega) _).setCell (by show w.heap.size<=w.heap.size+1;omega) _)
       ·have h:=BF g hg
        exact(J5 _ _ _ _ (by show g≠w.heap.size+1;omega)).trans ((J5 _ _ _ _ (by show g≠w.heap.size+1;omega)).trans (J5 _ _ _ _ (by show g≠w.heap.size+1;omega)))
       ·have h:=BM g hg
        exact(J5 _ _ _ _ (by show g≠w.heap.size+1;omega)).trans ((J5 _ _ _ _ (by show g≠w.heap.size+1;omega)).trans (J5 _ _ _ _ (by show g≠w.heap.size+1;omega)))
      ·exact((H9.B.setCell (by show w.heap.size<=w.heap.size+1;omega) _).setCell (by show w.heap.size<=w.heap.size+1;omega) _).setCell (by show w.heap.size<=w.heap.size+1;omega) _
theorem uC (l:List Fd) (c:Ch) (m:Nat) (hm:l.length=m) (hl:m<=9223372036854775807) (A:EL) (cA:Nat) (Q:EL) (n qc:Nat) (hn:c.q.length=n) (hn1:n<=17592186044415) (x0:0<=c.d.b) (x1:c.d.b<18446744073709551616) (sl:gL l) (sg:c.g.s.size<=9223372036854775807) (w:EQ) (hA:Rd w A (aC l)) (RQ:Rd w Q (aV c.q)) (hop:c.op=2) (hr:aK l=true) (k:Nat) (hk:aW l c.s=k) (r:Bool) (hrt:aK (l.eraseIdx k)=r):
 Calls Tryz.prog 154 #[.slice A m cA,.agg #[.int .i64 c.op,.string c.s,.string c.g.s,.int .i64 c.g.k,.int .i64 c.g.l,.int .i64 c.d.k,.int .u64 c.d.b,.string c.d.t,.slice Q n qc]] w fun e w'=>yi (bif r then⟨l,(l.eraseIdx k),((kM m).eraseIdx k)⟩ else Tb.z) (bif r then 0 else 80) w e w':=by
 have h16:m<=16:=by rw[<-hm];exact(aQ hr).2
 obtain⟨iF,hiF,hzF0,hzF1,hzF2⟩:=info_parts fI
 obtain⟨iM,hiM,hzM0,hzM1,hzM2⟩:=info_parts iO
 obtain⟨C,N,Z,HB⟩:=dE c Q n qc w
 have hA1:=hA.below HB
 obtain⟨a0,a1,a2,a3,a4,a5,a6,a7,a8⟩:=C.c9
 obtain⟨n1,n2,n3,o1,o2,o3⟩:=N.f3
 obtain⟨i1,i2,i3,j1,j2,j3⟩:=Z.f3
 obtain⟨z,hz⟩:∃z,aW l c.s=z:=⟨_,rfl⟩
 have HZ:=J0 hz
 have HM:=J0 hm
 have HN:=J0 hn
 have y1:decide (c.op<1)=false:=by rw[hop];decide
 have y2:decide (5<c.op)=false:=by rw[hop];decide
 have y3:decide (2<=c.op)=true:=by rw[hop];decide
 have y4:decide (c.op<=4)=true:=by rw[hop];decide
 have y6:(c.op == 3)=false:=by rw[hop];decide
 have y7:(c.op == 4)=false:=by rw[hop];decide
 have y8:(c.op != 2)=false:=by rw[hop];decide
 have y9:(c.op == 1)=false:=by rw[hop];decide
 have ya:(c.op == 5)=false:=by rw[hop];decide
 obtain rfl:z=(k:Int):=by rw[<-hz,hk]
 have y5:decide ((k:Int)<0)=false:=by simp
 have hkm:k<m:=by have:=eE l c.s;omega
 have HR:=J0 hr
 have HRT:=J0 hrt
 clear hr hz hm hn hop hrt hk
 go_enter Tryz.func154,Tryz.ntmps154
 go_wp2_with (first
  |(go_at_call 114;refine(ey A cA m l HM.out c.s k HZ.out _ hA1 hl).mono ?_;rintro e w' ⟨rfl,rfl⟩)
  |(go_at_call 77;refine(ab A cA m l HM.out true HR.out _ hA1 hl sl).mono ?_;rintro e W0 ⟨rfl,hb⟩;replace HB:=HB.trans (hb.mono HB.size);replace hA1:=hA1.below hb;replace C:=C.below hb;replace N:=N.below hb;replace Z:=Z.below hb;clear hb a0 a1 a2 a3 a4 a5 a6 a7 a8 n1 n2 n3 o1 o2 o3 i1 i2 i3 j1 j2 j3;obtain⟨a0,a1,a2,a3,a4,a5,a6,a7,a8⟩:=C.c9;obtain⟨n1,n2,n3,o1,o2,o3⟩:=N.f3;obtain⟨i1,i2,i3,j1,j2,j3⟩:=Z.f3))
 have szW:w.heap.size+2<W0.heap.size:=Z.lt
 have nb:=aA (w:=W0) (.cells #[.slice A m cA,.slice none 0 0,.slice none 0 0] 110)
 have H0:TO w (W0.alloc (.cells #[.slice A m cA,.slice none 0 0,.slice none 0 0] 110)) (W0.heap.size+1) W0.heap.size (.slice A m cA) (.slice none 0 0) (.slice none 0 0) [] [] 110 157:=
  ⟨aD.new W0 _ _,ai _ _ _ _,ai _ _ _ _,fun g hg=>by simp[Value.ownBlock] at hg,Nat.lt_succ_self _,HB.trans (nb.mono HB.size),HB.size⟩
 have C0:=C.below nb
 have N0:=N.below nb
 have Z0:=Z.below nb
 clear nb C N Z HB hA1 a0 a1 a2 a3 a4 a5 a6 a7 a8 n1 n2 n3 o1 o2 o3 i1 i2 i3 j1 j2 j3
 go_loopw [9,10] (fun i _ wr=>∃(j:Nat) (vF vM:ER),j<=m/\i=.int .i64 j/\TO w wr (W0.heap.size+1) W0.heap.size (.slice A m cA) vF vM ((l.take j).eraseIdx k) ((kM j).eraseIdx k) 110 157/\aD wr (w.heap.size+1) [.slice none 0 0,.slice none 0 0,.slice none 0 0] 110/\aD wr (w.heap.size+2) [.slice none 0 0,.slice none 0 0,.slice none 0 0] 110/\cx wr w.heap.size c (.slice Q n qc) 73) (fun i _ _=>m - (intOf i).toNat)
 case atStart=>exact⟨0,_,_,by omega,rfl,(by simpa[kM] using H0),N0,Z0,C0⟩
 case round=>
  obtain⟨j,vF,vM,hj,rfl,H,N,Z,C⟩:=hrel
  clear H0 N0 Z0 C0
  obtain⟨fs,hfs⟩:∃fs,((l.take j).eraseIdx k)=fs:=⟨_,rfl⟩
  obtain⟨ms,hms⟩:∃ms,((kM j).eraseIdx k)=ms:=⟨_,rfl⟩
  rw[hfs,hms] at H
  have HFS:=J0 hfs
  have HMS:=J0 hms
  clear hfs hms
  have hAr:=hA.below H.B
  have RQr:=RQ.below H.B
  by_cases hlt:j<m
  ·obtain⟨f,hf⟩:∃f,l[j]?=some f:=⟨_,J4 (by rw[HM.out];exact hlt)⟩
   obtain⟨ad,rfl,g0,g1,g2⟩:=hAr.fld hf
   have hi0:(0:Int)<=(j:Int):=by omega
   have hi1:(j:Int)<(m:Int):=by omega
   have HF:=J0 hf
   have nu:=aA (w:=wr) (.cells #[.string f.s,.int .i64 f.k,.int .i64 f.l] 68)
   have GB:=aD.new wr [.string f.s,.int .i64 f.k,.int .i64 f.l] 68
   have HU:=H.below nu
   have NU:=N.below nu
   have ZU:=Z.below nu
   have CU:=C.below nu
   have hsz:W0.heap.size<wr.heap.size:=H.lt
   clear hf
   have szF:Hid (fs.length+1<=maxLen/\(fs.length+1) * 32<=140737488355328):=J0 (by have h5:fs.length<=j:=(by rw[<-HFS.out];have:=List.length_eraseIdx_le (l.take j) k;have:(l.take j).length<=j:=(by rw[Qx];omega);omega);simp only[maxLen];omega)
   have szM:Hid (ms.length+1<=maxLen/\(ms.length+1) * 40<=140737488355328):=J0 (by have h5:ms.length<=j:=(by rw[<-HMS.out];have:=List.length_eraseIdx_le (kM j) k;rw[aP] at this;exact this);simp only[maxLen];omega)
   obtain⟨a0,a1,a2,a3,a4,a5,a6,a7,a8⟩:=CU.c9
   have htl:(l.take j).length=j:=(by rw[Qx,HM.out];omega)
   by_cases hjk:j=k
   ·have yk:((j:Int) == (k:Int))=true:=by simp[hjk]
    have yn:((j:Int) != (k:Int))=false:=by simp[hjk]
    have hst:Hid ((l.take (j+1)).eraseIdx k=(l.take j).eraseIdx k):=J0 (by rw[Vv,HF.out];show(l.take j++[f]).eraseIdx k=_;rw[iL,Xz (by omega)])
    have hmt:Hid ((kM (j+1)).eraseIdx k=(kM j).eraseIdx k):=J0 (by rw[du,iL,Xz (by rw[aP];exact hjk)])
    clear hjk
    go_wp2
    go_roundw
    case rel=>exact⟨j+1,_,_,by omega,by go_num,(by rw[hst.out,hmt.out,HFS.out,HMS.out];exact HU),NU,ZU,CU⟩
    case measure=>simp[intOf];omega
   ·have yk:((j:Int) == (k:Int))=false:=by simp;omega
    have yn:((j:Int) != (k:Int))=true:=by simp;omega
    have hst:Hid ((l.take (j+1)).eraseIdx k=(l.take j).eraseIdx k++[f]):=J0 (by rw[Vv,HF.out];show(l.take j++[f]).eraseIdx k=_;rw[iL,Xy (by omega)])
    have hmt:Hid ((kM (j+1)).eraseIdx k=(kM j).eraseIdx k++[⟨(j:Int),Vl.z⟩]):=J0 (by rw[du,iL,Xy (by rw[aP];exact hjk)])
    clear hjk
    have nf:=aA (w:=(wr.alloc (.cells #[.string f.s,.int .i64 f.k,.int .i64 f.l] 68))) (.cells #[.string f.s,.int .i64 f.k,.int .i64 f.l] 68)
    have hbU:W0.heap.size+1<=((wr.alloc (.cells #[.string f.s,.int .i64 f.k,.int .i64 f.l] 68))).heap.size:=HU.lt
    obtain⟨p1,p2,p3,q1,q2,q3⟩:=(HU.O.below nf).f3
    obtain⟨s1,s2,s3,u1,u2,u3⟩:=HU.O.f3
    go_wp2_with (first
     |(at_builtin;refine Y4 _ rfl _ _ 27 rfl (W0.heap.size+1) 68 iF (.agg #[.string ⟨#[]⟩,.int .i64 0,.int .i64 0]) 3 32 Tryz.underlying27 hiF hzF0 hzF1 hzF2 rfl (by decide) _ _ _ rfl (aG HU.F nf) ⟨wr.heap.size+1,0,none⟩ 1 1 [.string f.s,.int .i64 f.k,.int .i64 f.l] (by first|rfl|simp) rfl ?c1 ?c2 ?c3 ?c4 ?c5 ?_))
    case c1=>rw[show wr.heap.size+1=((wr.alloc (.cells #[.string f.s,.int .i64 f.k,.int .i64 f.l] 68))).heap.size by simp];exact fV _ _ _ _ _
    case c2=>intro u hu;simp at hu;rcases hu with rfl|rfl|rfl <;> rfl
    case c3=>exact(szF.out).1
    case c4=>have:=szF.out.2;omega
    case c5=>have:=nf.size;omega
    intro vF' W5 ownF5 gr5 _ hat5
    obtain⟨O5,H6,fr6⟩:=HU.addF nf ⟨f.s,f.k,f.l⟩ gr5 hbU ownF5 (by first|exact hat5|simpa using hat5)
    obtain⟨F5,c5,rfl,_,_,_⟩:=aL ownF5
    clear p1 p2 p3 q1 q2 q3 s1 s2 s3 u1 u2 u3 ownF5 gr5 hat5
    obtain⟨s1,s2,s3,u1,u2,u3⟩:=O5.f3
    have nm:=aA (w:=W5.setCell ⟨W0.heap.size,1,none⟩ (.slice F5 (fs.length+1) c5)) (.cells #[.int .i64 j,.int .i64 0,.int .u64 0,.string ⟨#[]⟩] 157)
    have hb6:Hid (W0.heap.size+1<=(W5.setCell ⟨W0.heap.size,1,none⟩ (.slice F5 (fs.length+1) c5)).heap.size):=J0 H6.lt
    have z6:Hid (W5.heap.size=(W5.setCell ⟨W0.heap.size,1,none⟩ (.slice F5 (fs.length+1) c5)).heap.size):=J0 (by simp)
    obtain⟨p1,p2,p3,q1,q2,q3⟩:=H6.O.f3
    obtain⟨t1,t2,t3,v1,v2,v3⟩:=(H6.O.below nm).f3
    go_wp2_with (at_builtin;refine Y4 _ rfl _ _ 108 rfl (W0.heap.size+1) 157 iM (.agg #[.int .i64 0,.int .i64 0,.int .u64 0,.string ⟨#[]⟩]) 4 40 Tryz.underlying108 hiM hzM0 hzM1 hzM2 rfl (by decide) _ _ _ rfl (aG H6.M nm) ⟨W5.heap.size,0,none⟩ 1 1 [.int .i64 j,.int .i64 0,.int .u64 0,.string ⟨#[]⟩] rfl rfl ?c1 ?c2 ?c3 ?c4 ?c5 ?_)
    case c1=>rw[z6.out];exact eR _ _ _ _ _ _
    case c2=>intro u hu;simp at hu;rcases hu with rfl|rfl|rfl|rfl <;> rfl
    case c3=>exact(szM.out).1
    case c4=>have:=szM.out.2;omega
    case c5=>have:=nm.size;have:=hb6.out;omega
    intro vM' W7 ownM7 gr7 _ hat7
    obtain⟨O7,H8,fr8⟩:=H6.addM nm ⟨j,Vl.z⟩ gr7 hb6.out ownM7 (by first|exact hat7|simpa using hat7)
    obtain⟨M7,c7,rfl,_,_,_⟩:=aL ownM7
    clear p1 p2 p3 q1 q2 q3 s1 s2 s3 u1 u2 u3 t1 t2 t3 v1 v2 v3 ownM7 gr7 hat7
    obtain⟨s1,s2,s3,u1,u2,u3⟩:=O7.f3
    go_wp2
    go_roundw
    case rel=>
     refine⟨j+1,_,_,by omega,by go_num,(by rw[hst.out,hmt.out,HFS.out,HMS.out];exact H8),?_,?_,?_⟩
     ·exact(fr8 _ (by omega) (by omega)).trans ((fr6 _ (by omega) (by omega)).trans NU)
     ·exact(fr8 _ (by omega) (by omega)).trans ((fr6 _ (by omega) (by omega)).trans ZU)
     ·exact(fr8 _ (by omega) (by omega)).trans ((fr6 _ (by omega) (by omega)).trans CU)
    case measure=>simp[intOf];omega
  ·obtain rfl:j=m:=by omega
   obtain⟨F5,c5,rfl,_,_,_⟩:=aL H.F
   obtain⟨M7,c7,rfl,_,_,_⟩:=aL H.M
   have HFL:Hid (fs=l.eraseIdx k):=J0 (by rw[<-HFS.out,Vx (by rw[HM.out];exact J9 _)])
   have HML:Hid (ms=(kM j).eraseIdx k):=J0 (by rw[<-HMS.out])
   have H9:=H
   have N9:=N
   have Z9:=Z
   have C9:=C
   have HFX:Hid (fs=l.eraseIdx k):=J0 (by rw[HFL.out])
   have HMX:Hid (ms=(kM j).eraseIdx k):=J0 (by rw[HML.out])
   have szX:Hid ((fs).length<=281474976710656):=J0 ((by rw[HFL.out];have:=List.length_eraseIdx_le l k;rw[HM.out] at this;omega))
   have SFX:Hid (gL (fs)):=J0 ((by rw[HFL.out];intro x hx;exact sl x (List.mem_of_mem_eraseIdx hx)))
   generalize hFX:fs=FX at *
   generalize hMX:ms=MX at *
   clear H N Z C
   obtain⟨eF,RF⟩:=be H9.F
   obtain⟨eM,RM⟩:=be H9.M
   have EF:=J0 eF
   have EM:=J0 eM
   clear eF eM RM
   have sz9:W0.heap.size<_:=H9.lt
   have SF:gL FX:=SFX.out
   have hFl:FX.length<=9223372036854775807:=(by have:=szX.out;omega)
   obtain⟨s1,s2,s3,u1,u2,u3⟩:=H9.O.f3
   obtain⟨n1,n2,n3,o1,o2,o3⟩:=N9.f3
   obtain⟨i1,i2,i3,j1,j2,j3⟩:=Z9.f3
   obtain⟨a0,a1,a2,a3,a4,a5,a6,a7,a8⟩:=C9.c9
   cases r
   ·go_wp2_with (go_at_call 77;refine(ab _ _ _ FX (by first|exact EF.out.symm|rfl) false (by rw[HFX.out];exact HRT.out) _ RF (by first|exact hFl|(rw[EF.out];exact hFl)) SF).mono ?_;rintro e wM ⟨rfl,hb⟩;replace H9:=H9.below hb;replace N9:=N9.below hb;replace Z9:=Z9.below hb;clear hb s1 s2 s3 u1 u2 u3 n1 n2 n3 o1 o2 o3 i1 i2 i3 j1 j2 j3 a0 a1 a2 a3 a4 a5 a6 a7 a8;obtain⟨n1,n2,n3,o1,o2,o3⟩:=N9.f3;obtain⟨i1,i2,i3,j1,j2,j3⟩:=Z9.f3)
    refine Xx (v:=.tuple #[.agg #[.slice none 0 0,.slice none 0 0,.slice none 0 0],.int .i64 80]) (by simp[results,Tryz.results154,go_sem, *];done) rfl ⟨_,_,_,_,_,_,_,_,_,rfl,gP.z _ _,?_⟩
    exact((H9.B.setCell (by show w.heap.size<=w.heap.size+1;omega) _).setCell (by show w.heap.size<=w.heap.size+1;omega) _).setCell (by show w.heap.size<=w.heap.size+1;omega) _
   ·go_wp2_with (go_at_call 77;refine(ab _ _ _ FX (by first|exact EF.out.symm|rfl) true (by rw[HFX.out];exact HRT.out) _ RF (by first|exact hFl|(rw[EF.out];exact hFl)) SF).mono ?_;rintro e wM ⟨rfl,hb⟩;replace H9:=H9.below hb;replace N9:=N9.below hb;clear hb s1 s2 s3 u1 u2 u3 n1 n2 n3 o1 o2 o3 i1 i2 i3 j1 j2 j3 a0 a1 a2 a3 a4 a5 a6 a7 a8;obtain⟨n1,n2,n3,o1,o2,o3⟩:=N9.f3;obtain⟨s1,s2,s3,u1,u2,u3⟩:=H9.O.f3)
    have BF:=aF H9.F
    have BM:=aF H9.M
    refine Xx (v:=.tuple #[.agg #[.slice A j cA,.slice F5 FX.length c5,.slice M7 MX.length c7],.int .i64 0]) (by simp[results,Tryz.results154,go_sem, *];done) rfl ⟨_,_,_,_,_,_,_,_,_,rfl,?_,?_⟩
    ·refine jW (t:=⟨l,_,_⟩) HM.out ?_ (fun _ _=>trivial) (ag (aN H9.F fun g hg=>?_) (by first|exact EF.out.symm|rfl) (by rw[HFX.out])) (by first|rw[EF.out,<-HFX.out]|rw[<-HFX.out]) (fun _ _=>trivial) (ag (aN H9.M fun g hg=>?_) (by first|exact EM.out.symm|rfl) (by rw[HMX.out])) (by first|rw[EM.out,<-HMX.out]|rw[<-HMX.out]) (fun _ _=>trivial)
     ·exact hA.below (((H9.B.setCell (by show w.heap.size<=w.heap.size+1;omega) _).setCell (by show w.heap.size<=w.heap.size+1;omega) _).setCell (by show w.heap.size<=w.heap.size+1;omega) _)
     ·have h:=BF g hg
      exact(J5 _ _ _ _ (by show g≠w.heap.size+1;omega)).trans ((J5 _ _ _ _ (by show g≠w.heap.size+1;omega)).trans (J5 _ _ _ _ (by show g≠w.heap.size+1;omega)))
     ·have h:=BM g hg
      exact(J5 _ _ _ _ (by show g≠w.heap.size+1;omega)).trans ((J5 _ _ _ _ (by show g≠w.heap.size+1;omega)).trans (J5 _ _ _ _ (by show g≠w.heap.size+1;omega)))
    ·exact((H9.B.setCell (by show w.heap.size<=w.heap.size+1;omega) _).setCell (by show w.heap.size<=w.heap.size+1;omega) _).setCell (by show w.heap.size<=w.heap.size+1;omega) _
end
end Go.Proofs.YteembinfgbapgaaGreat
