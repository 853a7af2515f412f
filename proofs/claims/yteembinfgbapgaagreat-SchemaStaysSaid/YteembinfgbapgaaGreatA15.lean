/- Merged out of: Ng Nh. -/
import Derived.Test.YteembinfgbapgaaGreatA14
import Derived.BigRegion
set_option linter.unusedSimpArgs false
set_option linter.unusedVariables false
set_option maxRecDepth 100000
set_option maxHeartbeats 8000000
namespace Go.Proofs.YteembinfgbapgaaGreat
section
open Go.RowKit Go.Lib
theorem cellsF_one {l:List Fd}:∀u∈cellsF l,u.oneCell'=true:=by
 intro u hu
 simp only[cellsF,List.mem_flatMap] at hu
 obtain⟨f,_,hu⟩:=hu
 simp at hu
 rcases hu with rfl|rfl|rfl <;> rfl
theorem cellsM_one {l:List Mv}:∀u∈cellsM l,u.oneCell'=true:=by
 intro u hu
 simp only[cellsM,List.mem_flatMap] at hu
 obtain⟨f,_,hu⟩:=hu
 simp at hu
 rcases hu with rfl|rfl|rfl|rfl <;> rfl
theorem cellsF_take (l:List Fd) (k:Nat):cellsF (l.take k)=(cellsF l).take (k * 3)∧cellsF (l.drop k)=(cellsF l).drop (k * 3):=by
 induction l generalizing k with
 |nil=>simp[cellsF]
 |cons f r ih=>
  cases k with
  |zero=>simp[cellsF]
  |succ k=>
   have e:cellsF (f :: r)=[.string f.s,.int .i64 f.k,.int .i64 f.l]++cellsF r:=by simp[cellsF]
   have e2:cellsF (f :: r.take k)=[.string f.s,.int .i64 f.k,.int .i64 f.l]++cellsF (r.take k):=by simp[cellsF]
   obtain⟨h1,h2⟩:=ih k
   rw[List.take_succ_cons,List.drop_succ_cons,e,e2,h1,h2,show(k+1) * 3=k * 3+1+1+1 by omega]
   simp
theorem cellsM_take (l:List Mv) (k:Nat):cellsM (l.take k)=(cellsM l).take (k * 4)∧cellsM (l.drop k)=(cellsM l).drop (k * 4):=by
 induction l generalizing k with
 |nil=>simp[cellsM]
 |cons f r ih=>
  cases k with
  |zero=>simp[cellsM]
  |succ k=>
   have e:cellsM (f :: r)=[.int .i64 f.f,.int .i64 f.d.k,.int .u64 f.d.b,.string f.d.t]++cellsM r:=by simp[cellsM]
   have e2:cellsM (f :: r.take k)=[.int .i64 f.f,.int .i64 f.d.k,.int .u64 f.d.b,.string f.d.t]++cellsM (r.take k):=by simp[cellsM]
   obtain⟨h1,h2⟩:=ih k
   rw[List.take_succ_cons,List.drop_succ_cons,e,e2,h1,h2,show(k+1) * 4=k * 4+1+1+1+1 by omega]
   simp
theorem cellsF_erase (l:List Fd) (k:Nat):cellsF (l.eraseIdx k)=(cellsF l).take (k * 3)++(cellsF l).drop ((k+1) * 3):=by
 rw[List.eraseIdx_eq_take_drop_succ,cellsF_append,(cellsF_take l k).1,(cellsF_take l (k+1)).2]
theorem cellsM_erase (l:List Mv) (k:Nat):cellsM (l.eraseIdx k)=(cellsM l).take (k * 4)++(cellsM l).drop ((k+1) * 4):=by
 rw[List.eraseIdx_eq_take_drop_succ,cellsM_append,(cellsM_take l k).1,(cellsM_take l (k+1)).2]
theorem cellsF_set (l:List Fd) (k:Nat) (f g:Fd) (hf:l[k]?=some f):cellsF (l.set k g)=(((cellsF l).set (k * 3) (.string g.s)).set (k * 3+1) (.int .i64 g.k)).set (k * 3+2) (.int .i64 g.l):=by
 induction l generalizing k with
 |nil=>simp at hf
 |cons x r ih=>
  have e:cellsF (x :: r)=[.string x.s,.int .i64 x.k,.int .i64 x.l]++cellsF r:=by simp[cellsF]
  cases k with
  |zero=>simp[cellsF]
  |succ k=>
   have e2:cellsF (x :: r.set k g)=[.string x.s,.int .i64 x.k,.int .i64 x.l]++cellsF (r.set k g):=by simp[cellsF]
   rw[List.set_cons_succ,e2,ih k (by simpa using hf),e,show(k+1) * 3=k * 3+1+1+1 by omega]
   simp only[List.cons_append,List.nil_append,List.set_cons_succ]
theorem own_set {w:World} {base g n c:Nat} {T:TypeId} {K:Nat} {xs:List Value} (h:w.ownsRow base T K (.slice (some ⟨g,0,none⟩) n c) n xs) (j:Nat) (v:Value):(w.setCell ⟨g,j,none⟩ v).ownsRow base T K (.slice (some ⟨g,0,none⟩) n c) n (xs.set j v):=by
 obtain⟨h1,h2⟩:=h
 refine⟨by simp[h1],?_⟩
 rcases h2 with ⟨h,_⟩|⟨g',c',cur,hv,hb,hg,hc,hm,hs,ht⟩
 ·cases h
 ·cases hv
  have h3:(w.setCell ⟨g,j,none⟩ v).heap[g]?=some (.cells (cur.setIfInBounds j v) T (0,0)):=by
   obtain⟨hlt,hk⟩:=Array.getElem?_eq_some_iff.1 hg
   show(w.heap.modify g _)[g]?=_
   rw[Array.getElem?_eq_getElem (by rw[Array.size_modify];exact hlt),Array.getElem_modify_self,hk]
   simp
  refine .inr ⟨g,c,_,rfl,hb,h3,hc,hm,by simp[hs],?_⟩
  rw[Array.toList_setIfInBounds,List.take_set,ht]
theorem own_blk {w:World} {base n:Nat} {T:TypeId} {K:Nat} {v:Value} {xs:List Value} (h:w.ownsRow base T K v n xs) (hn:0<n):∃g c,v=.slice (some ⟨g,0,none⟩) n c∧base≤g∧g<w.heap.size∧n≤c∧c≤maxLen∧∀j u,xs[j]?=some u→w.cell? ⟨g,j,none⟩=some u∧w.frozen? ⟨g,j,none⟩=false:=by
 obtain⟨h1,h2⟩:=h
 rcases h2 with ⟨_,h⟩|⟨g,c,cur,rfl,hb,hg,hc,hm,hs,ht⟩
 ·omega
 ·refine⟨g,c,rfl,hb,(Array.getElem?_eq_some_iff.1 hg).1,hc,hm,fun j u hj=>⟨?_,by simp[World.frozen?,hg]⟩⟩
  rw[←ht,List.getElem?_take] at hj
  split at hj
  ·simp only[World.cell?,hg];simpa using hj
  ·cases hj
theorem grown_of_set {w:World} (g o:Nat) (v:Value):w.grownBy (w.setCell ⟨g,o,none⟩ v) (some g):=⟨rfl,rfl,rfl,by simp[World.setCell],fun k hk hne=>Below.heap_setCell _ _ _ _ (by rintro rfl;exact hne rfl)⟩
theorem drops_m (l:List Fd) (c:Ch) (m:Nat) (hm:l.length=m) (h16:m≤16) (B:Option Addr) (d b1 b2:Nat) (v2 v3 qv:Value) (w:World) (h1:b1≤b2) (h2:b2≤w.heap.size) (R1:RdB b1 w B (cellsF l)) (own2:w.ownsRow b1 68 3 v2 m (cellsF l)) (lt2:OwnLt b2 v2) (own3:w.ownsRow b2 137 4 v3 m (cellsM (kM m))) (P:Nat→Prop) (hP1:∀ad,B=some ad→P ad.block) (hP2:∀g,v2.ownBlock=some g→P g) (hP3:∀g,v3.ownBlock=some g→P g) (hPn:∀g,w.heap.size≤g→P g) (k:Nat) (hk:k<m):
 Calls Tryz.prog 137 #[.agg #[.slice B m d,v2,v3],.agg #[.int .i64 c.op,.string c.s,.string c.g.s,.int .i64 c.g.k,.int .i64 c.g.l,.int .i64 c.d.k,.int .u64 c.d.b,.string c.d.t,qv],.int .i64 k] w fun e w'=>StepP v2.ownBlock v3.ownBlock P ⟨l,l.eraseIdx k,(kM m).eraseIdx k⟩ 0 w e w':=by
 obtain⟨N,rfl⟩:∃N,m=N+1:=⟨m - 1,by omega⟩
 obtain⟨g2,d2,rfl,gb2,gz2,hd2,hmx2,rd2⟩:=own_blk own2 (by omega)
 obtain⟨g3,d3,rfl,gb3,gz3,hd3,hmx3,rd3⟩:=own_blk own3 (by omega)
 have g23:g2<b2:=lt2 g2 rfl
 have bb1:=below_new (w:=w) (.cells #[.slice B (N+1) d,.slice (some ⟨g2,0,none⟩) (N+1) d2,.slice (some ⟨g3,0,none⟩) (N+1) d3] 96)
 have bb2:=below_new (w:=w.alloc (.cells #[.slice B (N+1) d,.slice (some ⟨g2,0,none⟩) (N+1) d2,.slice (some ⟨g3,0,none⟩) (N+1) d3] 96)) (.cells #[.int .i64 c.op,.string c.s,.string c.g.s,.int .i64 c.g.k,.int .i64 c.g.l,.int .i64 c.d.k,.int .u64 c.d.b,.string c.d.t,qv] 76)
 have bb3:=below_new (w:=(w.alloc (.cells #[.slice B (N+1) d,.slice (some ⟨g2,0,none⟩) (N+1) d2,.slice (some ⟨g3,0,none⟩) (N+1) d3] 96)).alloc (.cells #[.int .i64 c.op,.string c.s,.string c.g.s,.int .i64 c.g.k,.int .i64 c.g.l,.int .i64 c.d.k,.int .u64 c.d.b,.string c.d.t,qv] 76)) (.cells #[.slice none 0 0,.slice none 0 0,.slice none 0 0] 96)
 have T1:=((OBox.new w [.slice B (N+1) d,.slice (some ⟨g2,0,none⟩) (N+1) d2,.slice (some ⟨g3,0,none⟩) (N+1) d3] 96).below bb2).below bb3
 have C1:CBox _ _ c qv 76:=(OBox.new (w.alloc (.cells #[.slice B (N+1) d,.slice (some ⟨g2,0,none⟩) (N+1) d2,.slice (some ⟨g3,0,none⟩) (N+1) d3] 96)) (chL c qv) 76).below bb3
 have N1:=OBox.new ((w.alloc (.cells #[.slice B (N+1) d,.slice (some ⟨g2,0,none⟩) (N+1) d2,.slice (some ⟨g3,0,none⟩) (N+1) d3] 96)).alloc (.cells #[.int .i64 c.op,.string c.s,.string c.g.s,.int .i64 c.g.k,.int .i64 c.g.l,.int .i64 c.d.k,.int .u64 c.d.b,.string c.d.t,qv] 76)) [.slice none 0 0,.slice none 0 0,.slice none 0 0] 96
 have HB:=below_seq (below_seq bb1 bb2) bb3
 rw[World.size_alloc] at C1
 rw[World.size_alloc,World.size_alloc] at N1
 obtain⟨i1,i2,i3,j1,j2,j3⟩:=T1.f3
 obtain⟨n1,n2,n3,o1,o2,o3⟩:=N1.f3
 obtain⟨a0,a1,a2,a3,a4,a5,a6,a7,a8⟩:=C1.c9
 have HM:=Lib.hid hm
 have HP1:=Lib.hid hP1
 have HP2:=Lib.hid hP2
 have HP3:=Lib.hid hP3
 have HPN:=Lib.hid hPn
 clear hm bb1 bb2 bb3 hP1 hP2 hP3 hPn
 have ow2:=own_below own2 HB
 have ow3:=own_below own3 HB
 have R2:=R1.below (HB.mono (Nat.le_trans h1 h2))
 have hkn:k≤N:=by omega
 have hk1:(k:Int)+1≤17:=by omega
 have zz:=N1.lt
 clear own2 own3 R1 C1 a0 a1 a2 a3 a4 a5 a6 a7 a8 rd2 rd3
 go_enter Tryz.func137,Tryz.ntmps137
 go_wp2_with (go_at_call 162;refine(DeleteF_m b1 g2 d2 N k _ _ ow2 cellsF_one hkn).mono ?_)
 rintro e W2 ⟨rfl,ox2,gr2⟩
 have HB2:Only (some g2) (some g3) w W2:=(Only.of HB).grown gr2 (.inl rfl)
 have T2:=T1.grown gr2 (by intro e;cases e;omega)
 have N2:=N1.grown gr2 (by intro e;cases e;omega)
 have ox3:=own_grown ow3 gr2 (by intro g hg e;cases e;have:=own_base ow3 g2 hg;omega)
 have R3:=R2.grown gr2 (by have:=HB.size;omega) (fun g hg=>by cases hg;exact gb2)
 have z2:=gr2.size
 clear ow2 ow3 R2 HB T1 N1 gr2 i1 i2 i3 j1 j2 j3 n1 n2 n3 o1 o2 o3
 obtain⟨i1,i2,i3,j1,j2,j3⟩:=T2.f3
 have T3:=obox_set T2 1 (.slice (some ⟨g2,0,none⟩) N d2)
 have N3:OBox (W2.setCell ⟨w.heap.size,1,none⟩ (.slice (some ⟨g2,0,none⟩) N d2)) (w.heap.size+2) _ 96:=(Below.heap_setCell _ _ _ _ (by show _≠_;simp)).trans N2
 have oy2:=own_keep (w1:=W2.setCell ⟨w.heap.size,1,none⟩ (.slice (some ⟨g2,0,none⟩) N d2)) ox2 (fun g hg=>Below.heap_setCell _ _ _ _ (by cases hg;show g2≠w.heap.size;omega))
 have oy3:=own_keep (w1:=W2.setCell ⟨w.heap.size,1,none⟩ (.slice (some ⟨g2,0,none⟩) N d2)) ox3 (fun g hg=>Below.heap_setCell _ _ _ _ (by cases hg;show g3≠w.heap.size;omega))
 have R4:=R3.below ((Below.refl b1 W2).setCell (p:=⟨w.heap.size,1,none⟩) (by show b1≤w.heap.size;omega) (.slice (some ⟨g2,0,none⟩) N d2))
 have HB3:=HB2.setCell (p:=⟨w.heap.size,1,none⟩) (Nat.le_refl _) (.slice (some ⟨g2,0,none⟩) N d2)
 have z3:(W2.setCell ⟨w.heap.size,1,none⟩ (.slice (some ⟨g2,0,none⟩) N d2)).heap.size=W2.heap.size:=by simp
 obtain⟨p1,p2,p3,q1,q2,q3⟩:=T3.f3
 go_wp2_with (go_at_call 163;refine(DeleteM_m b2 g3 d3 N k _ _ oy3 cellsM_one hkn).mono ?_)
 rintro e W5 ⟨rfl,oz3,gr5⟩
 have HB5:=HB3.grown gr5 (.inr rfl)
 have T5:=T3.grown gr5 (by intro e;cases e;omega)
 have N5:=N3.grown gr5 (by intro e;cases e;omega)
 have oz2:=own_grown oy2 gr5 (by intro g hg e;have e1:g2=g:=Option.some.inj hg;have e2:=Option.some.inj e;omega)
 have R5:=R4.grown gr5 (by omega) (fun g hg=>by have hh:=Option.some.inj hg;omega)
 clear i1 i2 i3 j1 j2 j3 p1 p2 p3 q1 q2 q3
 obtain⟨i1,i2,i3,j1,j2,j3⟩:=T5.f3
 obtain⟨n1,n2,n3,o1,o2,o3⟩:=N5.f3
 go_wp2
 refine bodyPost_ret (v:=.tuple #[.agg #[.slice B (N+1) d,.slice (some ⟨g2,0,none⟩) N d2,.slice (some ⟨g3,0,none⟩) N d3],.int .i64 0]) (by simp[results,Tryz.results137,go_sem, *];done) rfl ⟨_,_,_,_,_,_,_,_,_,rfl,fun _=>?_,?_⟩
 ·refine own_TV (t:=⟨l,l.eraseIdx k,(kM (N+1)).eraseIdx k⟩) HM.out (RdB.rd (R5.below ?_)) HP1.out (own_eq (own_keep oz2 fun g hg=>?_) rfl (cellsF_erase l k).symm) (by show(l.eraseIdx k).length=N;rw[List.length_eraseIdx_of_lt (by rw[HM.out];exact hk),HM.out];rfl) (fun g hg=>HP2.out g hg) (own_eq (own_keep oz3 fun g hg=>?_) rfl (cellsM_erase _ k).symm) (by show((kM (N+1)).eraseIdx k).length=N;rw[List.length_eraseIdx_of_lt (by rw[kM_length];exact hk),kM_length];rfl) (fun g hg=>HP3.out g hg)
  ·exact((((Below.refl b1 W5).setCell (by show b1≤w.heap.size;omega) _).setCell (by show b1≤w.heap.size+2;omega) _).setCell (by show b1≤w.heap.size+2;omega) _).setCell (by show b1≤w.heap.size+2;omega) _
  ·cases hg
   exact(Below.heap_setCell _ _ _ _ (by show g2≠w.heap.size+2;omega)).trans ((Below.heap_setCell _ _ _ _ (by show g2≠w.heap.size+2;omega)).trans ((Below.heap_setCell _ _ _ _ (by show g2≠w.heap.size+2;omega)).trans (Below.heap_setCell _ _ _ _ (by show g2≠w.heap.size;omega))))
  ·cases hg
   exact(Below.heap_setCell _ _ _ _ (by show g3≠w.heap.size+2;omega)).trans ((Below.heap_setCell _ _ _ _ (by show g3≠w.heap.size+2;omega)).trans ((Below.heap_setCell _ _ _ _ (by show g3≠w.heap.size+2;omega)).trans (Below.heap_setCell _ _ _ _ (by show g3≠w.heap.size;omega))))
 ·exact(((HB5.setCell (Nat.le_refl _) _).setCell (by show w.heap.size≤w.heap.size+2;omega) _).setCell (by show w.heap.size≤w.heap.size+2;omega) _).setCell (by show w.heap.size≤w.heap.size+2;omega) _
theorem set_same {α:Type} {xs:List α} {j:Nat} {v:α} (h:xs[j]?=some v):xs.set j v=xs:=by
 apply List.ext_getElem?
 intro i
 rw[List.getElem?_set]
 split
 ·rename_i e;subst e
  split
  ·exact h.symm
  ·rename_i hl;rw[List.getElem?_eq_none (by omega)] at h;cases h
 ·rfl
theorem cellsF_name {l:List Fd} {k:Nat} {f:Fd} (hf:l[k]?=some f) (s:ByteArray):cellsF (l.set k ⟨s,f.k,f.l⟩)=(cellsF l).set (k * 3) (.string s):=by
 obtain⟨_,h1,h2⟩:=cellsF_get l k f hf
 rw[cellsF_set l k f _ hf,set_same (xs:=(cellsF l).set (k * 3) (.string s)) (j:=k * 3+1) (by rw[List.getElem?_set_ne (by omega)];exact h1),set_same (by rw[List.getElem?_set_ne (by omega)];exact h2)]
theorem cellsF_kind {l:List Fd} {k:Nat} {f:Fd} (hf:l[k]?=some f) (kd ln:Int):cellsF (l.set k ⟨f.s,kd,ln⟩)=((cellsF l).set (k * 3+1) (.int .i64 kd)).set (k * 3+2) (.int .i64 ln):=by
 obtain⟨h0,_,_⟩:=cellsF_get l k f hf
 rw[cellsF_set l k f _ hf,set_same (xs:=cellsF l) (j:=k * 3) h0]
theorem own_rd_blk {w:World} {base g n c:Nat} {T:TypeId} {K:Nat} {xs:List Value} (h:w.ownsRow base T K (.slice (some ⟨g,0,none⟩) n c) n xs):Rd w (some ⟨g,0,none⟩) xs:=by
 obtain⟨A,c',e,_,_,hr⟩:=own_rd h
 cases e
 exact hr
theorem Rd.fldL {w:World} {g:Nat} {fs:List Fd} (h:Rd w (some ⟨g,0,none⟩) (cellsF fs)) {k:Nat} {f:Fd} (hf:fs[k]?=some f):w.cell? ⟨g,k * 3,none⟩=some (.string f.s)∧w.cell? ⟨g,k * 3+1,none⟩=some (.int .i64 f.k)∧w.cell? ⟨g,k * 3+2,none⟩=some (.int .i64 f.l)∧
 w.cell? ⟨g,k * 3+(0+1),none⟩=some (.int .i64 f.k)∧w.cell? ⟨g,k * 3+(1+1),none⟩=some (.int .i64 f.l):=by
 obtain⟨g0,g1,g2⟩:=cellsF_get fs k f hf
 have key:∀j u,(cellsF fs)[j]?=some u→w.cell? ⟨g,j,none⟩=some u:=fun j u hj=>by
  obtain⟨ad,e,hc⟩:=h (by rintro e;rw[e] at hj;simp at hj)
  cases e
  have:=hc j u hj
  rw[Addr.add_lit,Nat.zero_add] at this
  exact this
 exact⟨key _ _ g0,key _ _ g1,key _ _ g2,key _ _ g1,key _ _ g2⟩
theorem renames_m (l:List Fd) (c:Ch) (m:Nat) (hm:l.length=m) (h16:m≤16) (B:Option Addr) (d b1 b2:Nat) (v2 v3 qv:Value) (w:World) (h1:b1≤b2) (h2:b2≤w.heap.size) (R1:RdB b1 w B (cellsF l)) (own2:w.ownsRow b1 68 3 v2 m (cellsF l)) (lt2:OwnLt b2 v2) (own3:w.ownsRow b2 137 4 v3 m (cellsM (kM m))) (P:Nat→Prop) (hP1:∀ad,B=some ad→P ad.block) (hP2:∀g,v2.ownBlock=some g→P g) (hP3:∀g,v3.ownBlock=some g→P g) (hPn:∀g,w.heap.size≤g→P g) (k:Nat) (f:Fd) (hf:l[k]?=some f):
 Calls Tryz.prog 138 #[.agg #[.slice B m d,v2,v3],.agg #[.int .i64 c.op,.string c.s,.string c.g.s,.int .i64 c.g.k,.int .i64 c.g.l,.int .i64 c.d.k,.int .u64 c.d.b,.string c.d.t,qv],.int .i64 k] w fun e w'=>StepP v2.ownBlock v3.ownBlock P ⟨l,l.set k ⟨c.g.s,f.k,f.l⟩,kM m⟩ 0 w e w':=by
 have hk:k<m:=by rw[←hm];exact(List.getElem?_eq_some_iff.1 hf).1
 obtain⟨g2,d2,rfl,gb2,gz2,hd2,hmx2,rd2⟩:=own_blk own2 (by omega)
 obtain⟨g3,d3,rfl,gb3,gz3,hd3,hmx3,rd3⟩:=own_blk own3 (by omega)
 have g23:g2<b2:=lt2 g2 rfl
 have bb1:=below_new (w:=w) (.cells #[.slice B m d,.slice (some ⟨g2,0,none⟩) m d2,.slice (some ⟨g3,0,none⟩) m d3] 96)
 have bb2:=below_new (w:=w.alloc (.cells #[.slice B m d,.slice (some ⟨g2,0,none⟩) m d2,.slice (some ⟨g3,0,none⟩) m d3] 96)) (.cells #[.int .i64 c.op,.string c.s,.string c.g.s,.int .i64 c.g.k,.int .i64 c.g.l,.int .i64 c.d.k,.int .u64 c.d.b,.string c.d.t,qv] 76)
 have bb3:=below_new (w:=(w.alloc (.cells #[.slice B m d,.slice (some ⟨g2,0,none⟩) m d2,.slice (some ⟨g3,0,none⟩) m d3] 96)).alloc (.cells #[.int .i64 c.op,.string c.s,.string c.g.s,.int .i64 c.g.k,.int .i64 c.g.l,.int .i64 c.d.k,.int .u64 c.d.b,.string c.d.t,qv] 76)) (.cells #[.slice none 0 0,.slice none 0 0,.slice none 0 0] 96)
 have T1:=((OBox.new w [.slice B m d,.slice (some ⟨g2,0,none⟩) m d2,.slice (some ⟨g3,0,none⟩) m d3] 96).below bb2).below bb3
 have C1:CBox _ _ c qv 76:=(OBox.new (w.alloc (.cells #[.slice B m d,.slice (some ⟨g2,0,none⟩) m d2,.slice (some ⟨g3,0,none⟩) m d3] 96)) (chL c qv) 76).below bb3
 have N1:=OBox.new ((w.alloc (.cells #[.slice B m d,.slice (some ⟨g2,0,none⟩) m d2,.slice (some ⟨g3,0,none⟩) m d3] 96)).alloc (.cells #[.int .i64 c.op,.string c.s,.string c.g.s,.int .i64 c.g.k,.int .i64 c.g.l,.int .i64 c.d.k,.int .u64 c.d.b,.string c.d.t,qv] 76)) [.slice none 0 0,.slice none 0 0,.slice none 0 0] 96
 have HB:=below_seq (below_seq bb1 bb2) bb3
 rw[World.size_alloc] at C1
 rw[World.size_alloc,World.size_alloc] at N1
 obtain⟨i1,i2,i3,j1,j2,j3⟩:=T1.f3
 obtain⟨n1,n2,n3,o1,o2,o3⟩:=N1.f3
 obtain⟨a0,a1,a2,a3,a4,a5,a6,a7,a8⟩:=C1.c9
 have HM:=Lib.hid hm
 have HP1:=Lib.hid hP1
 have HP2:=Lib.hid hP2
 have HP3:=Lib.hid hP3
 have HPN:=Lib.hid hPn
 clear hm bb1 bb2 bb3 hP1 hP2 hP3 hPn
 have ow2:=own_below own2 HB
 have ow3:=own_below own3 HB
 have R2:=R1.below (HB.mono (Nat.le_trans h1 h2))
 have zz:=N1.lt
 obtain⟨cf0,cf1,cf2⟩:=cellsF_get l k f hf
 have gn1:g2≠w.heap.size:=by omega
 have gn2:g2≠w.heap.size+2:=by omega
 obtain⟨_,_,e1,_,_,_,_,rdx⟩:=own_blk ow2 (by omega)
 cases e1
 obtain⟨k0,f0⟩:=rdx _ _ cf0
 have hi0:(0:Int)≤(k:Int):=by omega
 have hi1:(k:Int)<(m:Int):=by omega
 have ow2':=own_set ow2 (k * 3) (.string c.g.s)
 have T2:=T1.grown (grown_of_set g2 (k * 3) (.string c.g.s)) (by intro e;have:=Option.some.inj e;omega)
 have N2:=N1.grown (grown_of_set g2 (k * 3) (.string c.g.s)) (by intro e;have:=Option.some.inj e;omega)
 have ow3':=own_grown ow3 (grown_of_set g2 (k * 3) (.string c.g.s)) (by intro g hg e;have e1:g3=g:=Option.some.inj hg;have e2:=Option.some.inj e;omega)
 have R3:=R2.grown (grown_of_set g2 (k * 3) (.string c.g.s)) (by omega) (fun g hg=>by have hh:=Option.some.inj hg;omega)
 have HB2:Only (some g2) (some g3) w _:=(Only.of HB).grown (grown_of_set g2 (k * 3) (.string c.g.s)) (.inl rfl)
 obtain⟨p1,p2,p3,q1,q2,q3⟩:=T2.f3
 obtain⟨s1,s2,s3,u1,u2,u3⟩:=N2.f3
 have HF:=Lib.hid hf
 clear own2 own3 R1 rd2 rd3 ow2 ow3 R2 hf cf0 cf1 cf2 rdx
 go_enter Tryz.func138,Tryz.ntmps138
 go_wp2
 refine bodyPost_ret (v:=.tuple #[.agg #[.slice B m d,.slice (some ⟨g2,0,none⟩) m d2,.slice (some ⟨g3,0,none⟩) m d3],.int .i64 0]) (by simp[results,Tryz.results138,go_sem, *];done) rfl ⟨_,_,_,_,_,_,_,_,_,rfl,fun _=>?_,?_⟩
 ·refine own_TV (t:=⟨l,l.set k ⟨c.g.s,f.k,f.l⟩,kM m⟩) HM.out (RdB.rd (R3.below ?_)) HP1.out (own_eq (own_keep ow2' fun g hg=>?_) rfl (cellsF_name HF.out c.g.s).symm) (by show(l.set k _).length=m;rw[List.length_set,HM.out]) (fun g hg=>HP2.out g hg) (own_keep ow3' fun g hg=>?_) (kM_length m) (fun g hg=>HP3.out g hg)
  ·exact(((Below.refl b1 _).setCell (by show b1≤w.heap.size+2;omega) _).setCell (by show b1≤w.heap.size+2;omega) _).setCell (by show b1≤w.heap.size+2;omega) _
  ·have e1:g2=g:=Option.some.inj hg
   exact(Below.heap_setCell _ _ _ _ (by show g≠w.heap.size+2;omega)).trans ((Below.heap_setCell _ _ _ _ (by show g≠w.heap.size+2;omega)).trans (Below.heap_setCell _ _ _ _ (by show g≠w.heap.size+2;omega)))
  ·have e1:g3=g:=Option.some.inj hg
   exact(Below.heap_setCell _ _ _ _ (by show g≠w.heap.size+2;omega)).trans ((Below.heap_setCell _ _ _ _ (by show g≠w.heap.size+2;omega)).trans (Below.heap_setCell _ _ _ _ (by show g≠w.heap.size+2;omega)))
 ·exact((HB2.setCell (by show w.heap.size≤w.heap.size+2;omega) _).setCell (by show w.heap.size≤w.heap.size+2;omega) _).setCell (by show w.heap.size≤w.heap.size+2;omega) _
theorem recasts_no (l:List Fd) (c:Ch) (m:Nat) (hm:l.length=m) (h16:m≤16) (B:Option Addr) (d b1 b2:Nat) (v2 v3 qv:Value) (w:World) (h1:b1≤b2) (h2:b2≤w.heap.size) (R1:RdB b1 w B (cellsF l)) (own2:w.ownsRow b1 68 3 v2 m (cellsF l)) (lt2:OwnLt b2 v2) (own3:w.ownsRow b2 137 4 v3 m (cellsM (kM m))) (P:Nat→Prop) (hP1:∀ad,B=some ad→P ad.block) (hP2:∀g,v2.ownBlock=some g→P g) (hP3:∀g,v3.ownBlock=some g→P g) (hPn:∀g,w.heap.size≤g→P g) (k:Nat) (f:Fd) (hf:l[k]?=some f) (hr:castsB f.k f.l c.g.k c.g.l=false):
 Calls Tryz.prog 139 #[.agg #[.slice B m d,v2,v3],.agg #[.int .i64 c.op,.string c.s,.string c.g.s,.int .i64 c.g.k,.int .i64 c.g.l,.int .i64 c.d.k,.int .u64 c.d.b,.string c.d.t,qv],.int .i64 k] w fun e w'=>StepP v2.ownBlock v3.ownBlock P Tb.z 80 w e w':=by
 have hk:k<m:=by rw[←hm];exact(List.getElem?_eq_some_iff.1 hf).1
 obtain⟨g2,d2,rfl,gb2,gz2,hd2,hmx2,rd2⟩:=own_blk own2 (by omega)
 obtain⟨g3,d3,rfl,gb3,gz3,hd3,hmx3,rd3⟩:=own_blk own3 (by omega)
 have g23:g2<b2:=lt2 g2 rfl
 have bb1:=below_new (w:=w) (.cells #[.slice B m d,.slice (some ⟨g2,0,none⟩) m d2,.slice (some ⟨g3,0,none⟩) m d3] 96)
 have bb2:=below_new (w:=w.alloc (.cells #[.slice B m d,.slice (some ⟨g2,0,none⟩) m d2,.slice (some ⟨g3,0,none⟩) m d3] 96)) (.cells #[.int .i64 c.op,.string c.s,.string c.g.s,.int .i64 c.g.k,.int .i64 c.g.l,.int .i64 c.d.k,.int .u64 c.d.b,.string c.d.t,qv] 76)
 have bb3:=below_new (w:=(w.alloc (.cells #[.slice B m d,.slice (some ⟨g2,0,none⟩) m d2,.slice (some ⟨g3,0,none⟩) m d3] 96)).alloc (.cells #[.int .i64 c.op,.string c.s,.string c.g.s,.int .i64 c.g.k,.int .i64 c.g.l,.int .i64 c.d.k,.int .u64 c.d.b,.string c.d.t,qv] 76)) (.cells #[.slice none 0 0,.slice none 0 0,.slice none 0 0] 96)
 have T1:=((OBox.new w [.slice B m d,.slice (some ⟨g2,0,none⟩) m d2,.slice (some ⟨g3,0,none⟩) m d3] 96).below bb2).below bb3
 have C1:CBox _ _ c qv 76:=(OBox.new (w.alloc (.cells #[.slice B m d,.slice (some ⟨g2,0,none⟩) m d2,.slice (some ⟨g3,0,none⟩) m d3] 96)) (chL c qv) 76).below bb3
 have N1:=OBox.new ((w.alloc (.cells #[.slice B m d,.slice (some ⟨g2,0,none⟩) m d2,.slice (some ⟨g3,0,none⟩) m d3] 96)).alloc (.cells #[.int .i64 c.op,.string c.s,.string c.g.s,.int .i64 c.g.k,.int .i64 c.g.l,.int .i64 c.d.k,.int .u64 c.d.b,.string c.d.t,qv] 76)) [.slice none 0 0,.slice none 0 0,.slice none 0 0] 96
 have HB:=below_seq (below_seq bb1 bb2) bb3
 rw[World.size_alloc] at C1
 rw[World.size_alloc,World.size_alloc] at N1
 obtain⟨i1,i2,i3,j1,j2,j3⟩:=T1.f3
 obtain⟨n1,n2,n3,o1,o2,o3⟩:=N1.f3
 obtain⟨a0,a1,a2,a3,a4,a5,a6,a7,a8⟩:=C1.c9
 have HM:=Lib.hid hm
 have HP1:=Lib.hid hP1
 have HP2:=Lib.hid hP2
 have HP3:=Lib.hid hP3
 have HPN:=Lib.hid hPn
 clear hm bb1 bb2 bb3 hP1 hP2 hP3 hPn
 have RF:Rd _ (some ⟨g2,0,none⟩) (cellsF l):=(own_rd_blk own2).below HB
 have HF:=Lib.hid hf
 have HR:=Lib.hid hr
 have hi0:(0:Int)≤(k:Int):=by omega
 have hi1:(k:Int)<(m:Int):=by omega
 clear own2 own3 R1 rd2 rd3 hf hr
 go_enter Tryz.func139,Tryz.ntmps139
 go_upto_region 1 with fail
 refine RW.start (fun w'=>Below w.heap.size w w'∧OBox w' w.heap.size [.slice B m d,.slice (some ⟨g2,0,none⟩) m d2,.slice (some ⟨g3,0,none⟩) m d3] 96∧CBox w' (w.heap.size+1) c qv 76∧OBox w' (w.heap.size+2) [.slice none 0 0,.slice none 0 0,.slice none 0 0] 96∧Rd w' (some ⟨g2,0,none⟩) (cellsF l)) (by kernel_rfl) (by kernel_rfl) ⟨HB.drew,T1,C1,N1,RF⟩ ?_
 clear HB T1 C1 N1 RF i1 i2 i3 j1 j2 j3 n1 n2 n3 o1 o2 o3 a0 a1 a2 a3 a4 a5 a6 a7 a8
 repeat (first
  |(refine' RW.val (by rfl) ?_ ?_;rotate_left;(focus (intro w' hS;obtain⟨HB,T1,C1,N1,RF⟩:=hS;obtain⟨i1,i2,i3,j1,j2,j3⟩:=T1.f3;obtain⟨a0,a1,a2,a3,a4,a5,a6,a7,a8⟩:=C1.c9;obtain⟨k0,k1,k2,k3,k4⟩:=RF.fldL HF.out;go_simp;rfl));simp only[Act.put,List.setIfInBounds_toArray,List.set_cons_zero,List.set_cons_succ])
  |(refine RW.off (by rfl) ?_;simp only[Act.put,List.setIfInBounds_toArray,List.set_cons_zero,List.set_cons_succ])
  |(refine' RW.call (by rfl) ?_ ?_ ?_
    rotate_left 3
    (focus (intro w' hS;obtain⟨HB,T1,C1,N1,RF⟩:=hS;obtain⟨i1,i2,i3,j1,j2,j3⟩:=T1.f3;obtain⟨a0,a1,a2,a3,a4,a5,a6,a7,a8⟩:=C1.c9;obtain⟨k0,k1,k2,k3,k4⟩:=RF.fldL HF.out;go_simp;exact⟨rfl,rfl⟩))
    (focus
      intro w' hS
      obtain⟨HB,T1,C1,N1,RF⟩:=hS;obtain⟨i1,i2,i3,j1,j2,j3⟩:=T1.f3;obtain⟨a0,a1,a2,a3,a4,a5,a6,a7,a8⟩:=C1.c9;obtain⟨k0,k1,k2,k3,k4⟩:=RF.fldL HF.out
      first
       |(refine(Casts_is f.s c.g.s f.k f.l c.g.k c.g.l false HR.out _).mono ?_;rintro e w1 ⟨rfl,hb⟩;exact⟨rfl,⟨(below_seq HB hb),(T1.below hb),(C1.below hb),(N1.below hb),(RF.below hb)⟩⟩))
    simp only[Act.put,List.setIfInBounds_toArray,List.set_cons_zero,List.set_cons_succ]))
 refine RW.done (fun w' hS=>?_)
 obtain⟨HB,T1,C1,N1,RF⟩:=hS;obtain⟨i1,i2,i3,j1,j2,j3⟩:=T1.f3;obtain⟨a0,a1,a2,a3,a4,a5,a6,a7,a8⟩:=C1.c9;obtain⟨k0,k1,k2,k3,k4⟩:=RF.fldL HF.out
 obtain⟨i1,i2,i3,j1,j2,j3⟩:=T1.f3
 obtain⟨n1,n2,n3,o1,o2,o3⟩:=N1.f3
 go_wp2
 refine bodyPost_ret (v:=.tuple #[.agg #[.slice B m d,.slice (some ⟨g2,0,none⟩) m d2,.slice (some ⟨g3,0,none⟩) m d3],.int .i64 80]) (by simp[results,Tryz.results139,go_sem, *];done) rfl ⟨_,_,_,_,_,_,_,_,_,rfl,fun h=>absurd h (by decide),Only.of ?_⟩
 (repeat (first|exact HB|refine Below.setCell ?_ (by dsimp only;omega) _|refine Below.alloc ?_ (by have hs_:=HB.size;first|(simp;done)|(simp;omega)|omega) _|apply Below.drew))
theorem recasts_yes (l:List Fd) (c:Ch) (m:Nat) (hm:l.length=m) (h16:m≤16) (B:Option Addr) (d b1 b2:Nat) (v2 v3 qv:Value) (w:World) (h1:b1≤b2) (h2:b2≤w.heap.size) (R1:RdB b1 w B (cellsF l)) (own2:w.ownsRow b1 68 3 v2 m (cellsF l)) (lt2:OwnLt b2 v2) (own3:w.ownsRow b2 137 4 v3 m (cellsM (kM m))) (P:Nat→Prop) (hP1:∀ad,B=some ad→P ad.block) (hP2:∀g,v2.ownBlock=some g→P g) (hP3:∀g,v3.ownBlock=some g→P g) (hPn:∀g,w.heap.size≤g→P g) (k:Nat) (f:Fd) (hf:l[k]?=some f) (hr:castsB f.k f.l c.g.k c.g.l=true):
 Calls Tryz.prog 139 #[.agg #[.slice B m d,v2,v3],.agg #[.int .i64 c.op,.string c.s,.string c.g.s,.int .i64 c.g.k,.int .i64 c.g.l,.int .i64 c.d.k,.int .u64 c.d.b,.string c.d.t,qv],.int .i64 k] w fun e w'=>StepP v2.ownBlock v3.ownBlock P ⟨l,l.set k ⟨f.s,c.g.k,c.g.l⟩,kM m⟩ 0 w e w':=by
 have hk:k<m:=by rw[←hm];exact(List.getElem?_eq_some_iff.1 hf).1
 obtain⟨g2,d2,rfl,gb2,gz2,hd2,hmx2,rd2⟩:=own_blk own2 (by omega)
 obtain⟨g3,d3,rfl,gb3,gz3,hd3,hmx3,rd3⟩:=own_blk own3 (by omega)
 have g23:g2<b2:=lt2 g2 rfl
 have bb1:=below_new (w:=w) (.cells #[.slice B m d,.slice (some ⟨g2,0,none⟩) m d2,.slice (some ⟨g3,0,none⟩) m d3] 96)
 have bb2:=below_new (w:=w.alloc (.cells #[.slice B m d,.slice (some ⟨g2,0,none⟩) m d2,.slice (some ⟨g3,0,none⟩) m d3] 96)) (.cells #[.int .i64 c.op,.string c.s,.string c.g.s,.int .i64 c.g.k,.int .i64 c.g.l,.int .i64 c.d.k,.int .u64 c.d.b,.string c.d.t,qv] 76)
 have bb3:=below_new (w:=(w.alloc (.cells #[.slice B m d,.slice (some ⟨g2,0,none⟩) m d2,.slice (some ⟨g3,0,none⟩) m d3] 96)).alloc (.cells #[.int .i64 c.op,.string c.s,.string c.g.s,.int .i64 c.g.k,.int .i64 c.g.l,.int .i64 c.d.k,.int .u64 c.d.b,.string c.d.t,qv] 76)) (.cells #[.slice none 0 0,.slice none 0 0,.slice none 0 0] 96)
 have T1:=((OBox.new w [.slice B m d,.slice (some ⟨g2,0,none⟩) m d2,.slice (some ⟨g3,0,none⟩) m d3] 96).below bb2).below bb3
 have C1:CBox _ _ c qv 76:=(OBox.new (w.alloc (.cells #[.slice B m d,.slice (some ⟨g2,0,none⟩) m d2,.slice (some ⟨g3,0,none⟩) m d3] 96)) (chL c qv) 76).below bb3
 have N1:=OBox.new ((w.alloc (.cells #[.slice B m d,.slice (some ⟨g2,0,none⟩) m d2,.slice (some ⟨g3,0,none⟩) m d3] 96)).alloc (.cells #[.int .i64 c.op,.string c.s,.string c.g.s,.int .i64 c.g.k,.int .i64 c.g.l,.int .i64 c.d.k,.int .u64 c.d.b,.string c.d.t,qv] 76)) [.slice none 0 0,.slice none 0 0,.slice none 0 0] 96
 have HB:=below_seq (below_seq bb1 bb2) bb3
 rw[World.size_alloc] at C1
 rw[World.size_alloc,World.size_alloc] at N1
 obtain⟨i1,i2,i3,j1,j2,j3⟩:=T1.f3
 obtain⟨n1,n2,n3,o1,o2,o3⟩:=N1.f3
 obtain⟨a0,a1,a2,a3,a4,a5,a6,a7,a8⟩:=C1.c9
 have HM:=Lib.hid hm
 have HP1:=Lib.hid hP1
 have HP2:=Lib.hid hP2
 have HP3:=Lib.hid hP3
 have HPN:=Lib.hid hPn
 clear hm bb1 bb2 bb3 hP1 hP2 hP3 hPn
 have RF:Rd _ (some ⟨g2,0,none⟩) (cellsF l):=(own_rd_blk own2).below HB
 have HF:=Lib.hid hf
 have HR:=Lib.hid hr
 have hi0:(0:Int)≤(k:Int):=by omega
 have hi1:(k:Int)<(m:Int):=by omega
 clear rd2 rd3 hf hr
 go_enter Tryz.func139,Tryz.ntmps139
 go_upto_region 1 with fail
 refine RW.start (fun w'=>Below w.heap.size w w'∧OBox w' w.heap.size [.slice B m d,.slice (some ⟨g2,0,none⟩) m d2,.slice (some ⟨g3,0,none⟩) m d3] 96∧CBox w' (w.heap.size+1) c qv 76∧OBox w' (w.heap.size+2) [.slice none 0 0,.slice none 0 0,.slice none 0 0] 96∧Rd w' (some ⟨g2,0,none⟩) (cellsF l)) (by kernel_rfl) (by kernel_rfl) ⟨HB.drew,T1,C1,N1,RF⟩ ?_
 clear HB T1 C1 N1 RF i1 i2 i3 j1 j2 j3 n1 n2 n3 o1 o2 o3 a0 a1 a2 a3 a4 a5 a6 a7 a8
 repeat (first
  |(refine' RW.val (by rfl) ?_ ?_;rotate_left;(focus (intro w' hS;obtain⟨HB,T1,C1,N1,RF⟩:=hS;obtain⟨i1,i2,i3,j1,j2,j3⟩:=T1.f3;obtain⟨a0,a1,a2,a3,a4,a5,a6,a7,a8⟩:=C1.c9;obtain⟨k0,k1,k2,k3,k4⟩:=RF.fldL HF.out;go_simp;rfl));simp only[Act.put,List.setIfInBounds_toArray,List.set_cons_zero,List.set_cons_succ])
  |(refine RW.off (by rfl) ?_;simp only[Act.put,List.setIfInBounds_toArray,List.set_cons_zero,List.set_cons_succ])
  |(refine' RW.call (by rfl) ?_ ?_ ?_
    rotate_left 3
    (focus (intro w' hS;obtain⟨HB,T1,C1,N1,RF⟩:=hS;obtain⟨i1,i2,i3,j1,j2,j3⟩:=T1.f3;obtain⟨a0,a1,a2,a3,a4,a5,a6,a7,a8⟩:=C1.c9;obtain⟨k0,k1,k2,k3,k4⟩:=RF.fldL HF.out;go_simp;exact⟨rfl,rfl⟩))
    (focus
      intro w' hS
      obtain⟨HB,T1,C1,N1,RF⟩:=hS;obtain⟨i1,i2,i3,j1,j2,j3⟩:=T1.f3;obtain⟨a0,a1,a2,a3,a4,a5,a6,a7,a8⟩:=C1.c9;obtain⟨k0,k1,k2,k3,k4⟩:=RF.fldL HF.out
      first
       |(refine(Casts_is f.s c.g.s f.k f.l c.g.k c.g.l true HR.out _).mono ?_;rintro e w1 ⟨rfl,hb⟩;exact⟨rfl,⟨(below_seq HB hb),(T1.below hb),(C1.below hb),(N1.below hb),(RF.below hb)⟩⟩))
    simp only[Act.put,List.setIfInBounds_toArray,List.set_cons_zero,List.set_cons_succ]))
 refine RW.done (fun w' hS=>?_)
 obtain⟨HB,T1,C1,N1,RF⟩:=hS;obtain⟨i1,i2,i3,j1,j2,j3⟩:=T1.f3;obtain⟨a0,a1,a2,a3,a4,a5,a6,a7,a8⟩:=C1.c9;obtain⟨k0,k1,k2,k3,k4⟩:=RF.fldL HF.out
 go_upto_region 3 with fail
 have ow2:=own_below own2 HB
 have ow3:=own_below own3 HB
 have R2:=R1.below (HB.mono (Nat.le_trans h1 h2))
 have zz:=N1.lt
 obtain⟨cf0,cf1,cf2⟩:=cellsF_get l k f HF.out
 have gn1:g2≠w.heap.size:=by omega
 have gn2:g2≠w.heap.size+1:=by omega
 obtain⟨_,_,e1,_,_,_,_,rdx⟩:=own_blk ow2 (by omega)
 cases e1
 obtain⟨k1,f1⟩:=rdx _ _ cf1
 obtain⟨k2,f2⟩:=rdx _ _ cf2
 obtain⟨i1,i2,i3,j1,j2,j3⟩:=T1.f3
 obtain⟨a0,a1,a2,a3,a4,a5,a6,a7,a8⟩:=C1.c9
 clear own2 own3 R1 RF rdx cf0 cf1 cf2
 go_region
 have GR:w'.grownBy ((w'.setCell ⟨g2,k * 3+1,none⟩ (.int .i64 c.g.k)).setCell ⟨g2,k * 3+2,none⟩ (.int .i64 c.g.l)).drew (some g2):=⟨rfl,rfl,rfl,by simp[World.setCell],fun j hj hne=>(Below.heap_setCell _ _ _ _ (by rintro rfl;exact hne rfl)).trans (Below.heap_setCell _ _ _ _ (by rintro rfl;exact hne rfl))⟩
 have ow2':((w'.setCell ⟨g2,k * 3+1,none⟩ (.int .i64 c.g.k)).setCell ⟨g2,k * 3+2,none⟩ (.int .i64 c.g.l)).drew.ownsRow b1 68 3 (.slice (some ⟨g2,0,none⟩) m d2) m (((cellsF l).set (k * 3+1) (.int .i64 c.g.k)).set (k * 3+2) (.int .i64 c.g.l)):=own_set (own_set ow2 _ _) _ _
 have T2:=T1.grown GR (by intro e;have:=Option.some.inj e;omega)
 have N2:=N1.grown GR (by intro e;have:=Option.some.inj e;omega)
 have ow3':=own_grown ow3 GR (by intro g hg e;have e1:g3=g:=Option.some.inj hg;have e2:=Option.some.inj e;omega)
 have R3:=R2.grown GR (by omega) (fun g hg=>by have hh:=Option.some.inj hg;omega)
 have HB2:Only (some g2) (some g3) w _:=(Only.of HB).grown GR (.inl rfl)
 clear GR ow2 ow3 R2 HB T1 N1 C1 i1 i2 i3 j1 j2 j3 a0 a1 a2 a3 a4 a5 a6 a7 a8 k1 k2 f1 f2
 obtain⟨p1,p2,p3,q1,q2,q3⟩:=T2.f3
 obtain⟨s1,s2,s3,u1,u2,u3⟩:=N2.f3
 generalize ((w'.setCell ⟨g2,k * 3+1,none⟩ (.int .i64 c.g.k)).setCell ⟨g2,k * 3+2,none⟩ (.int .i64 c.g.l)).drew=W5 at *
 go_wp2
 refine bodyPost_ret (v:=.tuple #[.agg #[.slice B m d,.slice (some ⟨g2,0,none⟩) m d2,.slice (some ⟨g3,0,none⟩) m d3],.int .i64 0]) (by simp[results,Tryz.results139,go_sem, *];done) rfl ⟨_,_,_,_,_,_,_,_,_,rfl,fun _=>?_,?_⟩
 ·refine own_TV (t:=⟨l,l.set k ⟨f.s,c.g.k,c.g.l⟩,kM m⟩) HM.out (RdB.rd (R3.below ?_)) HP1.out (own_eq (own_keep ow2' fun g hg=>?_) rfl (cellsF_kind HF.out c.g.k c.g.l).symm) (by show(l.set k _).length=m;rw[List.length_set,HM.out]) (fun g hg=>HP2.out g hg) (own_keep ow3' fun g hg=>?_) (kM_length m) (fun g hg=>HP3.out g hg)
  ·exact(((Below.refl b1 _).setCell (by show b1≤w.heap.size+2;omega) _).setCell (by show b1≤w.heap.size+2;omega) _).setCell (by show b1≤w.heap.size+2;omega) _
  ·have e1:g2=g:=Option.some.inj hg
   exact(Below.heap_setCell _ _ _ _ (by show g≠w.heap.size+2;omega)).trans ((Below.heap_setCell _ _ _ _ (by show g≠w.heap.size+2;omega)).trans (Below.heap_setCell _ _ _ _ (by show g≠w.heap.size+2;omega)))
  ·have e1:g3=g:=Option.some.inj hg
   exact(Below.heap_setCell _ _ _ _ (by show g≠w.heap.size+2;omega)).trans ((Below.heap_setCell _ _ _ _ (by show g≠w.heap.size+2;omega)).trans (Below.heap_setCell _ _ _ _ (by show g≠w.heap.size+2;omega)))
 ·exact((HB2.setCell (by show w.heap.size≤w.heap.size+2;omega) _).setCell (by show w.heap.size≤w.heap.size+2;omega) _).setCell (by show w.heap.size≤w.heap.size+2;omega) _
end
end Go.Proofs.YteembinfgbapgaaGreat
