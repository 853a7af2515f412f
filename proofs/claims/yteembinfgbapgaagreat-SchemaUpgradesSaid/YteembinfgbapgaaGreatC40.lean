/- Merged out of: Vc Vd Ve. -/
import Derived.Test.YteembinfgbapgaaGreatC00
import Derived.Test.YteembinfgbapgaaGreatC39
set_option linter.unusedSimpArgs false
set_option linter.unusedVariables false
set_option maxRecDepth 100000
set_option maxHeartbeats 8000000
namespace Go.Proofs.YteembinfgbapgaaGreat
section
open Go.RowKit Go.Lib Go.Maps
theorem cellsTy_set (l:List TyV) (k:Nat) (x y:TyV) (hy:l[k]?=some y):cellsTy (l.set k x)=((((cellsTy l).set (k * 4) (.string x.y.s)).set (k * 4+1) (.int .i64 (x.y.old:Nat))).set (k * 4+2) (.slice x.F x.fv.length x.f)).set (k * 4+3) (.slice x.T x.tv.length x.t):=by
 induction l generalizing k with
 |nil=>simp at hy
 |cons z r ih=>
  have e:cellsTy (z :: r)=z.cells++cellsTy r:=by simp[cellsTy]
  cases k with
  |zero=>simp[cellsTy,TyV.cells]
  |succ k=>
   have e2:cellsTy (z :: r.set k x)=z.cells++cellsTy (r.set k x):=by simp[cellsTy]
   rw[J2,e2,ih k (by simpa using hy),e,show(k+1) * 4=k * 4+1+1+1+1 by omega]
   simp only[TyV.cells,List.cons_append,List.nil_append,J2]
theorem cellsTy_at {l:List TyV} {k:Nat} {y:TyV} (hy:l[k]?=some y):(cellsTy l)[k * 4]?=some (.string y.y.s)∧(cellsTy l)[k * 4+1]?=some (.int .i64 (y.y.old:Nat))∧(cellsTy l)[k * 4+2]?=some (.slice y.F y.fv.length y.f)∧(cellsTy l)[k * 4+3]?=some (.slice y.T y.tv.length y.t):=by
 have hg:=fun r (hr:r<4)=>flat_get (F:=TyV.cells) (k:=4) (fun _=>rfl) hy r hr
 exact⟨hg 0 (by omega),hg 1 (by omega),hg 2 (by omega),hg 3 (by omega)⟩
theorem store4 {w:World} {base g n c:Nat} {X:List TyV} (h:w.ownsRow base 58 4 (.slice (some ⟨g,0,none⟩) n c) n (cellsTy X)) {k:Nat} {y:TyV} (hy:X[k]?=some y) (x:TyV) (nf nt:Nat) (hnf:x.fv.length=nf) (hnt:x.tv.length=nt) (hn:0<n):
 ((∃u,w.cell? ⟨g,k * 4,none⟩=some u)∧w.frozen? ⟨g,k * 4,none⟩=false)∧
 ((∃u,(w.setCell ⟨g,k * 4,none⟩ (.string x.y.s)).cell? ⟨g,k * 4+1,none⟩=some u)∧(w.setCell ⟨g,k * 4,none⟩ (.string x.y.s)).frozen? ⟨g,k * 4+1,none⟩=false)∧
 ((∃u,((w.setCell ⟨g,k * 4,none⟩ (.string x.y.s)).setCell ⟨g,k * 4+1,none⟩ (.int .i64 (x.y.old:Nat))).cell? ⟨g,k * 4+2,none⟩=some u)∧((w.setCell ⟨g,k * 4,none⟩ (.string x.y.s)).setCell ⟨g,k * 4+1,none⟩ (.int .i64 (x.y.old:Nat))).frozen? ⟨g,k * 4+2,none⟩=false)∧
 ((∃u,(((w.setCell ⟨g,k * 4,none⟩ (.string x.y.s)).setCell ⟨g,k * 4+1,none⟩ (.int .i64 (x.y.old:Nat))).setCell ⟨g,k * 4+2,none⟩ (.slice x.F nf x.f)).cell? ⟨g,k * 4+3,none⟩=some u)∧(((w.setCell ⟨g,k * 4,none⟩ (.string x.y.s)).setCell ⟨g,k * 4+1,none⟩ (.int .i64 (x.y.old:Nat))).setCell ⟨g,k * 4+2,none⟩ (.slice x.F nf x.f)).frozen? ⟨g,k * 4+3,none⟩=false)∧
 ((((w.setCell ⟨g,k * 4,none⟩ (.string x.y.s)).setCell ⟨g,k * 4+1,none⟩ (.int .i64 (x.y.old:Nat))).setCell ⟨g,k * 4+2,none⟩ (.slice x.F nf x.f)).setCell ⟨g,k * 4+3,none⟩ (.slice x.T nt x.t)).ownsRow base 58 4 (.slice (some ⟨g,0,none⟩) n c) n (cellsTy (X.set k x)):=by
 subst hnf hnt
 obtain⟨g0,g1,g2,g3⟩:=cellsTy_at hy
 have cell:∀{W:World} {xs:List Value},W.ownsRow base 58 4 (.slice (some ⟨g,0,none⟩) n c) n xs→∀j u,xs[j]?=some u→(∃u,W.cell? ⟨g,j,none⟩=some u)∧W.frozen? ⟨g,j,none⟩=false:=fun ho j u hj=>by
  obtain⟨g',c',e,_,_,_,_,hr⟩:=own_blk ho hn
  cases e
  exact⟨⟨u,(hr j u hj).1⟩,(hr j u hj).2⟩
 have o1:=own_set h (k * 4) (.string x.y.s)
 have o2:=own_set o1 (k * 4+1) (.int .i64 (x.y.old:Nat))
 have o3:=own_set o2 (k * 4+2) (.slice x.F x.fv.length x.f)
 have o4:=own_set o3 (k * 4+3) (.slice x.T x.tv.length x.t)
 rw[←cellsTy_set X k x y hy] at o4
 refine⟨cell h _ _ g0,cell o1 _ _ (by rw[X6 (by omega)];exact g1),cell o2 _ _ (by rw[X6 (by omega),X6 (by omega)];exact g2),cell o3 _ _ (by rw[X6 (by omega),X6 (by omega),X6 (by omega)];exact g3),o4⟩
theorem rwith_m (A:Option Addr) (c n:Nat) (X:List TyV) (hn:X.length=n) (hl:n≤1000) (hc:n≤c) (k:Nat) (hk:k<n) (x:TyV) (nf nt:Nat) (hnf:x.fv.length=nf) (hnt:x.tv.length=nt) (w:World) (hA:Rd w A (cellsTy X)):
 Calls Tryz.prog 103 #[.slice A n c,.int .i64 (k:Nat),.agg #[.string x.y.s,.int .i64 (x.y.old:Nat),.slice x.F nf x.f,.slice x.T nt x.t]] w fun e w'=>∃B d,e=.returned (.slice B n d)∧n≤d∧Rd w' B (cellsTy (X.set k x))∧Below w.heap.size w w':=by
 obtain⟨i0,hi,hz0,hz1,hz2⟩:=info_parts infoTy
 obtain⟨y,hy⟩:∃y,X[k]?=some y:=⟨_,J4 (by omega)⟩
 obtain⟨ad,rfl,_⟩:=hA.ty hy
 have nb:=below_new (w:=w) (.cells #[.string x.y.s,.int .i64 (x.y.old:Nat),.slice x.F nf x.f,.slice x.T nt x.t] 58)
 have P:=OBox.new w [.string x.y.s,.int .i64 (x.y.old:Nat),.slice x.F nf x.f,.slice x.T nt x.t] 58
 have hA1:=hA.below nb
 have HN:=J0 hn;have HY:=J0 hy;have HNF:=J0 hnf;have HNT:=J0 hnt
 have h0:(0:Int)≤(k:Int):=by omega
 have h1:(k:Int)<(n:Int):=by omega
 clear hn hy hnf hnt hA
 go_enter Tryz.func103,Tryz.ntmps103
 go_upto_region 1 with fail
 generalize w.alloc (.cells #[.string x.y.s,.int .i64 (x.y.old:Nat),.slice x.F nf x.f,.slice x.T nt x.t] 58)=W1 at *
 have hown:(W1.alloc (.cells #[] 58)).ownsRow W1.heap.size 58 4 (.slice (some ⟨W1.heap.size,0,none⟩) 0 0) 0 []:=⟨rfl,.inr ⟨_,0,#[],rfl,J9 _,World.alloc_heap_new _ _,J9 _,X8 _,rfl,rfl⟩⟩
 have hA2:=hA1.below (below_new (.cells #[] 58))
 go_upto_region 2 with (at_builtin;refine wpList_append_own _ rfl _ _ 41 rfl W1.heap.size 58 i0 (.agg #[.string ⟨#[]⟩,.int .i64 0,.slice none 0 0,.slice none 0 0]) 4 72 Tryz.underlying41 hi hz0 hz1 hz2 rfl (by decide) _ _ _ rfl hown ad n c (cellsTy X) rfl ?c0 ?c1 ?c2 ?c3 ?c4 ?c5 ?_)
 case c0=>rw[cellsTy_length,HN.out];omega
 case c1=>
  intro j u hj
  obtain⟨ad',e,h⟩:=hA2 (by rintro e;rw[e] at hj;simp at hj)
  cases e;exact h j u hj
 case c2=>
  intro u hu
  simp only[cellsTy,List.mem_flatMap] at hu
  obtain⟨f,_,hf⟩:=hu
  simp[TyV.cells] at hf
  rcases hf with rfl|rfl|rfl|rfl <;> rfl
 case c3=>simp only[maxLen];omega
 case c4=>omega
 case c5=>simp
 intro v' w3 hown' hgrow _
 have BG:Below W1.heap.size W1 w3:=((Jy _ _).alloc (J9 _) (.cells #[] 58)).grown hgrow (by simp) (fun q hq=>own_base hown q hq)
 have hown3:w3.ownsRow W1.heap.size 58 4 v' n (cellsTy X):=own_eq hown' (by simp) (by simp)
 obtain⟨g,c3,rfl,hg,hgl,hnc,_,hrow⟩:=own_blk hown3 (by omega)
 obtain⟨⟨⟨u0,s0⟩,f0⟩,⟨⟨u1,s1⟩,f1⟩,⟨⟨u2,s2⟩,f2⟩,⟨⟨u3,s3⟩,f3⟩,hfin⟩:=store4 hown3 HY.out x nf nt HNF.out HNT.out (by omega)
 obtain⟨p0,p1,p2,p3⟩:=(P.below BG).f4
 have HFI:=J0 hfin
 clear hown' hgrow hown hown3 hA1 hA2 hfin hrow P
 go_wp2
 go_ret
 obtain⟨B,d,e,hd,_,r⟩:=own_rd HFI.out
 cases e
 exact⟨_,_,rfl,hd,r,nb.trans (((((BG.setCell hg _).setCell hg _).setCell hg _).setCell hg _).mono nb.size)⟩
def RefTo (Q:Nat→Prop) (w:World) (L:List Ty) (w':World) (B:Option Addr) (k d:Nat):Prop:=∃X',X'.map (·.y)=L∧X'.length=k∧RefIs (fun g=>Q g∨w.heap.size≤g) w' B d X'∧Below w.heap.size w w'
theorem RefTo.stay {Q:Nat→Prop} {w w':World} {A:Option Addr} {c n:Nat} {X:List TyV} (h:RefIs Q w A c X) (hn:X.length=n) (hb:Below w.heap.size w w'):RefTo Q w (X.map (·.y)) w' A n c:=⟨X,rfl,hn,(h.below hb).mono (fun g hg=>.inl hg),hb⟩
def rdefD (L:List Ty) (nm:ByteArray) (fs:List Fd):List Ty:=if defE L nm fs=0 then insL L ⟨nm,1,[keepT fs]⟩ else L
theorem rDefine_m {Q:Nat→Prop} {w:World} {A:Option Addr} {c:Nat} {X:List TyV} (h:RefIs Q w A c X) (n:Nat) (hn:X.length=n) (h16:n≤16) (nm:ByteArray) (hsz:nm.size≤9223372036854775807) (F:Option Addr) (cF m:Nat) (fs:List Fd) (hm:fs.length=m) (hl:m≤9223372036854775807) (hs:NmS fs) (hF:Rd w F (cellsF fs)) (q:Int) (hq:defE (X.map (·.y)) nm fs=q) (L':List Ty) (hL:rdefD (X.map (·.y)) nm fs=L'):
 Calls Tryz.prog 67 #[.slice A n c,.string nm,.slice F m cF] w fun e w'=>∃B k d,e=.returned (.tuple #[.slice B k d,.int .i64 q])∧RefTo Q w L' w' B k d:=by
 obtain⟨rn,hrn⟩:∃r,nameB nm=r:=⟨_,rfl⟩
 obtain⟨rf,hrf⟩:∃r,rightF fs=r:=⟨_,rfl⟩
 obtain⟨z,hz⟩:∃z,fndZ (X.map (·.y)) nm=z:=⟨_,rfl⟩
 have hrow:=h.row
 have stay:q≠0→L'=X.map (·.y):=fun h0=>by rw[←hL,rdefD,if_neg (by omega)]
 have HN:=J0 hn;have HM:=J0 hm;have HNM:=J0 hrn;have HRF:=J0 hrf;have HS:=J0 hs;have HZ:=J0 hz;have HH:=J0 h;have HQ:=J0 hq;have HL:=J0 hL;have HST:=J0 stay
 have HB:=Jy w.heap.size w
 clear hn hm hrn hrf hs hz h hq hL stay
 by_cases hbad:rn=false∨rf=false
 ·have e1:q=60:=by
   rw[←HQ.out,defE,if_pos (by rw[HNM.out,HRF.out];exact hbad)]
  subst e1
  have hL':=HST.out (by decide)
  have HLL:=J0 hL'
  clear hL'
  cases rn
  ·clear hbad
   go_enter Tryz.func67,Tryz.ntmps67
   go_wp2_with (first|(go_at_call 57;refine(rName_calls nm hsz _).mono ?_;rw[HNM.out];rintro e W1 ⟨rfl,hb⟩;replace HB:=HB.trans (hb.mono HB.size);clear hb)|(go_at_call 77;refine(rRight_m F cF m fs HM.out _ HRF.out _ (hF.below HB) hl HS.out.fds).mono ?_;rintro e W2 ⟨rfl,hb⟩;replace HB:=HB.trans (hb.mono HB.size);clear hb))
   refine bodyPost_ret (v:=.tuple #[.slice A n c,.int .i64 60]) (by simp[results,Tryz.results67,go_sem, *];done) rfl ⟨A,n,c,rfl,by rw[HLL.out];exact RefTo.stay HH.out HN.out HB⟩
  ·obtain rfl:rf=false:=by rcases hbad with h|h <;> simp_all
   clear hbad
   go_enter Tryz.func67,Tryz.ntmps67
   go_wp2_with (first|(go_at_call 57;refine(rName_calls nm hsz _).mono ?_;rw[HNM.out];rintro e W1 ⟨rfl,hb⟩;replace HB:=HB.trans (hb.mono HB.size);clear hb)|(go_at_call 77;refine(rRight_m F cF m fs HM.out _ HRF.out _ (hF.below HB) hl HS.out.fds).mono ?_;rintro e W2 ⟨rfl,hb⟩;replace HB:=HB.trans (hb.mono HB.size);clear hb))
   refine bodyPost_ret (v:=.tuple #[.slice A n c,.int .i64 60]) (by simp[results,Tryz.results67,go_sem, *];done) rfl ⟨A,n,c,rfl,by rw[HLL.out];exact RefTo.stay HH.out HN.out HB⟩
 ·obtain rfl:rn=true:=by cases rn with|true=>rfl|false=>exact absurd (.inl rfl) hbad
  obtain rfl:rf=true:=by cases rf with|true=>rfl|false=>exact absurd (.inr rfl) hbad
  clear hbad
  by_cases hth:0≤z∨16≤n
  ·have e1:q=91:=by
    rw[←HQ.out,defE,if_neg (by rw[HNM.out,HRF.out];simp),if_pos]
    rcases hth with h1|h1
    ·left
     intro hc
     have:=fndZ_none hc
     rw[HZ.out] at this
     omega
    ·right;rw[Kz,HN.out];exact h1
   subst e1
   have hL':=HST.out (by decide)
   have HLL:=J0 hL'
   clear hL'
   by_cases hz0:0≤z
   ·have d1:decide ((0:Int)≤z)=true:=by simpa using hz0
    clear hth
    go_enter Tryz.func67,Tryz.ntmps67
    go_wp2_with (first|(go_at_call 57;refine(rName_calls nm hsz _).mono ?_;rw[HNM.out];rintro e W1 ⟨rfl,hb⟩;replace HB:=HB.trans (hb.mono HB.size);clear hb)|(go_at_call 77;refine(rRight_m F cF m fs HM.out _ HRF.out _ (hF.below HB) hl HS.out.fds).mono ?_;rintro e W2 ⟨rfl,hb⟩;replace HB:=HB.trans (hb.mono HB.size);clear hb)|(go_at_call 42;refine(rFind9_m A c n X HN.out (by omega) nm _ HZ.out _ (hrow.below HB)).mono ?_;rintro e W3 ⟨rfl,hb⟩;replace HB:=HB.trans (hb.mono HB.size);clear hb))
    refine bodyPost_ret (v:=.tuple #[.slice A n c,.int .i64 91]) (by simp[results,Tryz.results67,go_sem, *];done) rfl ⟨A,n,c,rfl,by rw[HLL.out];exact RefTo.stay HH.out HN.out HB⟩
   ·have d1:decide ((0:Int)≤z)=false:=by simpa using hz0
    have d2:decide ((16:Int)≤(n:Int))=true:=by simp;omega
    have d3:decide (16≤n)=true:=by simp;omega
    clear hth
    go_enter Tryz.func67,Tryz.ntmps67
    go_wp2_with (first|(go_at_call 57;refine(rName_calls nm hsz _).mono ?_;rw[HNM.out];rintro e W1 ⟨rfl,hb⟩;replace HB:=HB.trans (hb.mono HB.size);clear hb)|(go_at_call 77;refine(rRight_m F cF m fs HM.out _ HRF.out _ (hF.below HB) hl HS.out.fds).mono ?_;rintro e W2 ⟨rfl,hb⟩;replace HB:=HB.trans (hb.mono HB.size);clear hb)|(go_at_call 42;refine(rFind9_m A c n X HN.out (by omega) nm _ HZ.out _ (hrow.below HB)).mono ?_;rintro e W3 ⟨rfl,hb⟩;replace HB:=HB.trans (hb.mono HB.size);clear hb))
    refine bodyPost_ret (v:=.tuple #[.slice A n c,.int .i64 91]) (by simp[results,Tryz.results67,go_sem, *];done) rfl ⟨A,n,c,rfl,by rw[HLL.out];exact RefTo.stay HH.out HN.out HB⟩
  ·have hz0:¬0≤z:=fun h=>hth (.inl h)
   have hn0:¬16≤n:=fun h=>hth (.inr h)
   have e1:q=0:=by
    rw[←HQ.out,defE,if_neg (by rw[HNM.out,HRF.out];simp),if_neg]
    rintro (h1|h1)
    ·cases hf:findY (X.map (·.y)) nm with
     |none=>exact h1 hf
     |some t=>obtain⟨i,e,_⟩:=fndZ_some hf;rw[HZ.out] at e;omega
    ·rw[Kz,HN.out] at h1;exact hn0 h1
   subst e1
   have hLL:L'=insL (X.map (·.y)) ⟨nm,1,[keepT fs]⟩:=by rw[←HL.out,rdefD,if_pos HQ.out]
   have HLL:=J0 hLL
   have d1:decide ((0:Int)≤z)=false:=by simpa using hz0
   have d2:decide ((16:Int)≤(n:Int))=false:=by simp;omega
   have d3:decide (16≤n)=false:=by simp;omega
   clear hth hLL
   go_enter Tryz.func67,Tryz.ntmps67
   go_upto_region 5 with (first|(go_at_call 57;refine(rName_calls nm hsz _).mono ?_;rw[HNM.out];rintro e W1 ⟨rfl,hb⟩;replace HB:=HB.trans (hb.mono HB.size);clear hb)|(go_at_call 77;refine(rRight_m F cF m fs HM.out _ HRF.out _ (hF.below HB) hl HS.out.fds).mono ?_;rintro e W2 ⟨rfl,hb⟩;replace HB:=HB.trans (hb.mono HB.size);clear hb)|(go_at_call 42;refine(rFind9_m A c n X HN.out (by omega) nm _ HZ.out _ (hrow.below HB)).mono ?_;rintro e W3 ⟨rfl,hb⟩;replace HB:=HB.trans (hb.mono HB.size);clear hb))
   rename World=>W3
   obtain⟨x,hx⟩:∃x:TyV,x=⟨⟨nm,1,[keepT fs]⟩,some ⟨W3.heap.size,0,none⟩,1,none,0,[⟨fs,F,cF⟩],[]⟩:=⟨_,rfl⟩
   have nb:=below_new (w:=W3) (.cells #[.slice F m cF] 27)
   have hrow4:=(hrow.below HB).below nb
   have hput:=rput_m A c n X HN.out (by omega) x 1 0 (by rw[hx];rfl) (by rw[hx];rfl) _ hrow4
   rw[hx] at hput
   dsimp only at hput
   have HPUT:=J0 hput
   have HX:=J0 hx
   clear hput hx hrow4
   go_wp2_with (go_at_call 58;refine HPUT.out.mono ?_;rintro e w5 ⟨B,d,rfl,hd,rB,hb5⟩)
   refine bodyPost_ret (v:=.tuple #[.slice B (n+1) d,.int .i64 0]) (by simp[results,Tryz.results67,go_sem, *];done) rfl ⟨B,n+1,d,rfl,?_⟩
   rw[←HX.out] at rB
   have hkr:=keepT_right HRF.out
   have HB4:=nb.trans (hb5.mono nb.size)
   have HB5:=HB.trans (HB4.mono HB.size)
   have hz:=HB.size
   refine⟨insT (·.y.s) x X,?_,?_,⟨rB,fun u hu=>?_,?_,?_⟩,HB5⟩
   ·rw[HLL.out,insL]
    refine(insT_map (fun x:TyV=>x.y) (fun t:Ty=>t.s) x X).trans ?_
    rw[HX.out]
   ·rw[(insT_perm _ x X).length_eq];simp[HN.out]
   ·rcases List.mem_cons.1 ((insT_perm _ x X).subset hu) with rfl|hu
    ·rw[HX.out]
     refine⟨?_,(fun hne=>absurd rfl hne),?_,(fun v hv=>by cases hv),?_,rfl,J9 _,fun _=>⟨rfl,rfl⟩⟩
     ·have r0:RdP (fun g=>Q g∨w.heap.size≤g) (W3.alloc (.cells #[.slice F m cF] 27)) (some ⟨W3.heap.size,0,none⟩) [.slice F m cF]:=RdP.mk (rd_new W3 [.slice F m cF] 27) (fun ad e=>by cases e;right;exact hz)
      have:=r0.up hb5
      simpa[cellsFV,HM.out] using this
     ·intro v hv
      simp at hv;subst hv
      exact hF.below HB5
     ·simp[hkr]
    ·exact((HH.out.ty u hu).below HB5).mono (fun g hg=>.inl hg)
   ·rw[(insT_perm _ x X).length_eq];simp[HN.out];exact hd
   ·intro he
    have:=congrArg List.length he
    rw[(insT_perm _ x X).length_eq] at this
    simp at this
def Long (cs:List Value):Prop:=cs=[]∨(∃s k i l j r,cs=Value.string s :: Value.int k i :: Value.int l j :: r)∨∃k i l j r,cs=Value.int k i :: Value.int l j :: r
theorem Long.flds (l:List Fd):Long (cellsF l):=by
 cases l with
 |nil=>exact .inl rfl
 |cons f r=>exact .inr (.inl ⟨_,_,_,_,_,_,rfl⟩)
theorem Long.moves (l:List Mv):Long (cellsM l):=by
 cases l with
 |nil=>exact .inl rfl
 |cons f r=>exact .inr (.inr ⟨_,_,_,_,_,rfl⟩)
theorem Rd.ne4 {w:World} {A:Option Addr} {cs:List Value} {b:Nat} {T:TypeId} {s:ByteArray} {k:IntKind} {o:Int} {F G:Option Addr} {n1 c1 n2 c2:Nat} (h:Rd w A cs) (hb:OBox w b [.string s,.int k o,.slice F n1 c1,.slice G n2 c2] T) (hl:Long cs):RdP (fun g=>g≠b) w A cs:=by
 intro hn
 obtain⟨ad,e,hc⟩:=h hn
 refine⟨ad,e,?_,hc⟩
 intro hbk
 have hadd:∀j,(ad.add j).block=ad.block:=fun j=>by unfold Addr.add;split <;> rfl
 have hoff:∀j,(ad.add j).off=ad.off+j:=fun j=>by unfold Addr.add;split <;> simp_all
 unfold OBox at hb
 have get:∀j u,cs[j]?=some u→([Value.string s,Value.int k o,Value.slice F n1 c1,Value.slice G n2 c2]:List Value)[ad.off+j]?=some u:=fun j u hj=>by
  have h1:=hc j u hj
  have hbb:w.heap[(ad.add j).block]?=some (.cells [Value.string s,Value.int k o,Value.slice F n1 c1,Value.slice G n2 c2].toArray T (0,0)):=by rw[hadd,hbk];exact hb
  simp only[World.cell?,hbb] at h1
  split at h1
  ·cases h1
  ·rw[hoff] at h1
   simpa using h1
 have lt:∀j u,cs[j]?=some u→ad.off+j<4:=fun j u hj=>by
  have:=(J6.1 (get j u hj)).1
  simpa using this
 rcases hl with rfl|⟨s',k1,i1,k2,i2,r,rfl⟩|⟨k1,i1,k2,i2,r,rfl⟩
 ·exact hn rfl
 ·have g0:=get 0 _ rfl
  have g2:=get 2 _ rfl
  have l0:=lt 0 _ rfl
  have l2:=lt 2 _ rfl
  rcases(by omega:ad.off=0∨ad.off=1) with h0|h0 <;> rw[h0] at g0 g2 <;> simp at g0 g2
 ·have g0:=get 0 _ rfl
  have g1:=get 1 _ rfl
  have l1:=lt 1 _ rfl
  rcases(by omega:ad.off=0∨ad.off=1∨ad.off=2) with h0|h0|h0 <;> rw[h0] at g0 g1 <;> simp at g0 g1
theorem putY_set {X:List TyV} (hnd:(X.map (·.y.s)).Nodup) {i:Nat} {x x':TyV} (hi:X[i]?=some x) (hs:x'.y.s=x.y.s):(X.set i x').map (·.y)=putY (X.map (·.y)) x'.y:=by
 have hil:=(J6.1 hi).1
 unfold putY
 rw[List.map_map,List.map_set]
 apply Xv
 intro j
 by_cases hj:j=i
 ·subst hj
  rw[List.getElem?_set_self (by simpa using hil),Kv,hi]
  simp[hs]
 ·rw[X6 (by omega),Kv,Kv]
  cases he:X[j]? with
  |none=>rfl
  |some e=>
   have hne:e.y.s≠x'.y.s:=by
    intro hc
    have a1:(X.map (·.y.s))[j]?=some x.y.s:=by rw[Kv,he];exact congrArg some (hc.trans hs)
    have a2:(X.map (·.y.s))[i]?=some x.y.s:=by rw[Kv,hi];rfl
    have b1:=(J6.1 a1).1
    exact hj ((List.getElem?_inj b1 hnd).1 (a1.trans a2.symm))
   simp[hne]
theorem rChange_none {Q:Nat→Prop} {w:World} {A:Option Addr} {c:Nat} {X:List TyV} (h:RefIs Q w A c X) (n:Nat) (hn:X.length=n) (h16:n≤16) (hok:∀x∈X,x.y.Ok) (hnd:(X.map (·.y.s)).Nodup) (nm:ByteArray) (hz:fndZ (X.map (·.y)) nm=-1) (K:Option Addr) (cK nc:Nat):
 Calls Tryz.prog 68 #[.slice A n c,.string nm,.slice K nc cK] w fun e w'=>e=.returned (.tuple #[.slice A n c,.int .i64 0,.int .i64 90])∧Below w.heap.size w w':=by
 have hrow:=h.row
 have HN:=J0 hn;have HZ:=J0 hz
 have HB:=Jy w.heap.size w
 clear hn hz h
 go_enter Tryz.func68,Tryz.ntmps68
 go_wp2_with (go_at_call 42;refine(rFind9_m A c n X HN.out (by omega) nm _ HZ.out _ (hrow.below HB)).mono ?_;rintro e W3 ⟨rfl,hb⟩;replace HB:=HB.trans (hb.mono HB.size);clear hb)
 refine bodyPost_ret (v:=.tuple #[.slice A n c,.int .i64 0,.int .i64 90]) (by simp[results,Tryz.results68,go_sem, *];done) rfl ⟨rfl,HB⟩
theorem rChange_full {Q:Nat→Prop} {w:World} {A:Option Addr} {c:Nat} {X:List TyV} (h:RefIs Q w A c X) (n:Nat) (hn:X.length=n) (h16:n≤16) (hok:∀x∈X,x.y.Ok) (hnd:(X.map (·.y.s)).Nodup) (nm:ByteArray) {x:TyV} (i:Nat) (hi:X[i]?=some x) (hf:fndZ (X.map (·.y)) nm=(i:Int)) (h64:64≤x.y.top) (K:Option Addr) (cK nc:Nat):
 Calls Tryz.prog 68 #[.slice A n c,.string nm,.slice K nc cK] w fun e w'=>e=.returned (.tuple #[.slice A n c,.int .i64 0,.int .i64 91])∧Below w.heap.size w w':=by
 have hrow:=h.row
 have hxm:=J7 hi
 have hxo:=hok x hxm
 obtain⟨hfl,htl⟩:=(h.ty x hxm).len
 obtain⟨nf,hnf⟩:∃m,x.fv.length=m:=⟨_,rfl⟩
 obtain⟨nt,hnt⟩:∃m,x.tv.length=m:=⟨_,rfl⟩
 obtain⟨top,htop⟩:∃m,x.y.top=m:=⟨_,rfl⟩
 have hlen:0<x.y.ts.length:=by cases hx:x.y.ts with|nil=>exact absurd hx hxo.ne|cons a r=>simp
 have hsum:x.y.old+nf=top+1:=by have h2:x.y.top=x.y.old+x.y.ts.length - 1:=rfl;omega
 have hhi:top≤64:=by have:=hxo.hi;omega
 rw[htop] at h64
 have d1:decide ((64:Int)≤(top:Int))=true:=by simp;omega
 have d2:(64:Int)≤(top:Int):=by omega
 have hil:i<n:=by rw[←hn];exact(J6.1 hi).1
 have i0:(0:Int)≤(i:Int):=by omega
 have i1:(i:Int)<(n:Int):=by omega
 have i2:decide ((i:Int)<0)=false:=by simp
 have HN:=J0 hn;have HZ:=J0 hf;have HS:=J0 hsum;have HI:=J0 hi;have HNF:=J0 hnf;have HNT:=J0 hnt
 have HB:=Jy w.heap.size w
 clear hn hf h hxo hfl htl htop hsum hi hnf hnt hlen hok hnd hxm
 go_enter Tryz.func68,Tryz.ntmps68
 go_upto_region 4 with (go_at_call 42;refine(rFind9_m A c n X HN.out (by omega) nm _ HZ.out _ (hrow.below HB)).mono ?_;rintro e W3 ⟨rfl,hb⟩;replace HB:=HB.trans (hb.mono HB.size);clear hb)
 obtain⟨ad,rfl,c0,c1,c2,c3⟩:=(hrow.below HB).ty HI.out
 rw[HNF.out] at c2;rw[HNT.out] at c3
 rename World=>W3
 have nb:=below_new (w:=W3) (.cells #[.string x.y.s,.int .i64 (x.y.old:Nat),.slice x.F nf x.f,.slice x.T nt x.t] 58)
 have P:=OBox.new W3 [.string x.y.s,.int .i64 (x.y.old:Nat),.slice x.F nf x.f,.slice x.T nt x.t] 58
 go_upto_region 5 with fail
 generalize W3.alloc (.cells #[.string x.y.s,.int .i64 (x.y.old:Nat),.slice x.F nf x.f,.slice x.T nt x.t] 58)=W4 at *
 obtain⟨p0,p1,p2,p3⟩:=P.f4
 clear c0 c1 c2 c3
 replace HB:=HB.trans (nb.mono HB.size)
 go_wp2_with (go_at_call 24;refine(rNewest_m x.y.s x.y.old nf x.F x.f x.T nt x.t top HS.out (by omega) _).mono ?_;rintro e W5 ⟨rfl,hb⟩;replace HB:=HB.trans (hb.mono HB.size);clear hb)
 refine bodyPost_ret (v:=.tuple #[.slice (some ad) n c,.int .i64 0,.int .i64 91]) (by simp[results,Tryz.results68,go_sem, *];done) rfl ⟨rfl,HB⟩
end
end Go.Proofs.YteembinfgbapgaaGreat
