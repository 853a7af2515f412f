/- Merged out of: Ne Nf. -/
import Derived.Test.YteembinfgbapgaaGreatA13
import Derived.Deep.RegionLaw
import Derived.Deep.MidRow
import Derived.ChangeKeysEq
import Derived.Lib.SliceRun
import Derived.Laws.IdiomCopy
import Derived.Maps.AppendAt
set_option linter.unusedSimpArgs false
set_option linter.unusedVariables false
set_option maxRecDepth 100000
set_option maxHeartbeats 8000000
namespace Go.Proofs.YteembinfgbapgaaGreat
section
open Go.RowKit Go.Lib
theorem setCells_at (g:Nat) (e:TypeId) (fr:Nat×Nat):∀(vs:List Value) (o:Nat) (w:World) (cur:Array Value),w.heap[g]?=some (.cells cur e fr)→o+vs.length≤cur.size→
 ∃cur',(w.setCells g o vs).heap[g]?=some (.cells cur' e fr)∧cur'.toList=cur.toList.take o++vs++cur.toList.drop (o+vs.length)
 |[],o,w,cur,hg,_=>⟨cur,hg,by simp⟩
 |v :: r,o,w,cur,hg,hl=>by
  simp only[List.length_cons] at hl
  have h1:(w.setCell ⟨g,o,none⟩ v).heap[g]?=some (.cells (cur.setIfInBounds o v) e fr):=by
   obtain⟨hlt,hk⟩:=Array.getElem?_eq_some_iff.1 hg
   show(w.heap.modify g _)[g]?=_
   rw[Array.getElem?_eq_getElem (by rw[Array.size_modify];exact hlt),Array.getElem_modify_self,hk]
   simp
  obtain⟨cur',h2,h3⟩:=setCells_at g e fr r (o+1) _ _ h1 (by simp;omega)
  refine⟨cur',h2,h3.trans ?_⟩
  simp only[Array.toList_setIfInBounds]
  have hol:o<cur.toList.length:=by simp;omega
  have e1:(cur.toList.set o v).take (o+1)=cur.toList.take o++[v]:=by
   rw[List.take_add_one,List.take_set_of_le (Nat.le_refl _)]
   simp[List.getElem?_set_self,hol,show o<cur.size by omega]
  have e2:(cur.toList.set o v).drop (o+1+r.length)=cur.toList.drop (o+1+r.length):=by
   rw[List.drop_set_of_lt (by omega)]
  rw[e1,e2,List.length_cons,show o+(r.length+1)=o+1+r.length by omega]
  simp
theorem grown_setCells {w:World} {g:Nat}:∀(vs:List Value) (o:Nat) (W:World),w.grownBy W (some g)→w.grownBy (W.setCells g o vs) (some g)
 |[],_,_,h=>h
 |v :: r,o,W,h=>grown_setCells r (o+1) (W.setCell ⟨g,o,none⟩ v) ⟨h.os,h.tape,h.output,by simpa[World.setCell] using h.size,fun k hk hne=>(Below.heap_setCell _ _ _ _ (by rintro rfl;exact hne rfl)).trans (h.block k hk hne)⟩
theorem run_clear_one {P:Program} (w:World) (t e ty:TypeId) (z:Value) (zc:List Value) (ht:P.underlying t=some (.slice e)) (hv:∀w,(zeroValue e).run P w=.ok z w) (hz:z.cells.toList=zc) (h0:0<zc.length) (h1:∀u∈zc,u.oneCell'=true) (b o c:Nat)
 (hc:∀j,j<zc.length→(w.cell? ⟨b,o+j,none⟩).isSome=true) (hf:∀j,j<zc.length→w.frozen? ⟨b,o+j,none⟩=false):
 (Builtin.clear_ #[t] ty #[.slice (some ⟨b,o,none⟩) 1 c]).run P w=.ok (.tuple #[]) (w.setCells b o zc):=by
 have hzc:(Builtin.zeroCells z.cells 1).toList=zc:=by
  rw[←hz]
  simp[Builtin.zeroCells]
  apply List.ext_getElem
  ·simp
  ·intro i h1 h2
   simp at h1
   simp[Nat.mod_eq_of_lt h1,h1]
 have hst:=run_storeCells_cells (P:=P) b o zc 0 w (by simpa using hc) (by simpa using hf) h1
 simp only[Nat.add_zero] at hst
 simp[Builtin.clear_,run_underlying ht,hv,hzc,hst]
theorem own_struck {w:World} {base g cap N i K:Nat} {T:TypeId} {xs news zc:List Value} {cur:Array Value} (hbase:base≤g) (hg:w.heap[g]?=some (.cells cur T (0,0))) (hc:N+1≤cap) (hm:cap≤maxLen) (hs:cur.size=cap * K) (ht:cur.toList.take ((N+1) * K)=xs) (hi:i≤N)
 (hn:news=xs.drop ((i+1) * K)) (hz:zc.length=K):
 ((w.setCells g (i * K) news).setCells g (N * K) zc).ownsRow base T K (.slice (some ⟨g,0,none⟩) N cap) N (xs.take (i * K)++xs.drop ((i+1) * K)):=by
 have m1:(N+1) * K=N * K+K:=by rw[Nat.add_mul];omega
 have m2:(i+1) * K=i * K+K:=by rw[Nat.add_mul];omega
 have m3:(N+1) * K≤cap * K:=Nat.mul_le_mul_right K hc
 have m4:i * K≤N * K:=Nat.mul_le_mul_right K hi
 have hxl:xs.length=(N+1) * K:=by rw[←ht,List.length_take,Array.length_toList];omega
 have hnl:news.length=N * K - i * K:=by rw[hn,List.length_drop];omega
 obtain⟨cur1,h1,e1⟩:=setCells_at g T (0,0) news (i * K) w cur hg (by omega)
 have hl1:cur1.size=cap * K:=by
  have:=congrArg List.length e1
  simp only[Array.length_toList,List.length_append,List.length_take,List.length_drop] at this
  omega
 obtain⟨cur2,h2,e2⟩:=setCells_at g T (0,0) zc (N * K) _ cur1 h1 (by omega)
 have hl2:cur2.size=cap * K:=by
  have:=congrArg List.length e2
  simp only[Array.length_toList,List.length_append,List.length_take,List.length_drop] at this
  omega
 refine⟨by rw[List.length_append,List.length_take,List.length_drop];omega,.inr ⟨g,cap,cur2,rfl,hbase,h2,by omega,hm,hl2,?_⟩⟩
 rw[e2,List.append_assoc,List.take_append_of_le_length (by rw[List.length_take,Array.length_toList];omega),List.take_take,Nat.min_self,e1,List.take_append_of_le_length (by rw[List.length_append,List.length_take,Array.length_toList];omega),List.take_of_length_le (by rw[List.length_append,List.length_take,Array.length_toList];omega)]
 rw[←hn,←ht,List.take_take,Nat.min_eq_left (by omega)]
theorem DeleteF_m (base g cap N i:Nat) (xs:List Value) (w:World) (ho:w.ownsRow base 68 3 (.slice (some ⟨g,0,none⟩) (N+1) cap) (N+1) xs) (hone:∀u∈xs,u.oneCell'=true) (hi:i≤N):
 Calls Tryz.prog 162 #[.slice (some ⟨g,0,none⟩) (N+1) cap,.int .i64 i,.int .i64 ((i:Int)+1)] w fun e w'=>e=.returned (.slice (some ⟨g,0,none⟩) N cap)∧w'.ownsRow base 68 3 (.slice (some ⟨g,0,none⟩) N cap) N (xs.take (i * 3)++xs.drop ((i+1) * 3))∧w.grownBy w' (some g):=by
 obtain⟨i0,hi0,hz0,hz1,hz2⟩:=info_parts infoFd
 obtain⟨hxl,h⟩:=ho
 rcases h with ⟨h,_⟩|⟨g',cap',cur,hv,hbase,hg,hc,hm,hs,ht⟩
 ·cases h
 cases hv
 have hm':cap≤9223372036854775807:=by simp only[maxLen] at hm;omega
 have hcell:∀t,t<cap * 3→(w.drew.cell? ⟨g,t,none⟩).isSome=true∧w.drew.frozen? ⟨g,t,none⟩=false:=fun t htl=>by
  have hg':w.drew.heap[g]?=some (.cells cur 68 (0,0)):=hg
  refine⟨?_,by simp[World.frozen?,hg']⟩
  simp[World.cell?,hg',show t<cur.size by omega]
 obtain⟨news,hnews⟩:∃news,news=xs.drop ((i+1) * 3):=⟨_,rfl⟩
 have hlen:news.length=(N - i) * 3:=by rw[hnews,List.length_drop,hxl];omega
 have hget:∀t u,news[t]?=some u→w.drew.cell? ⟨g,(i+1) * 3+t,none⟩=some u:=by
  intro t u htu
  have hg':w.drew.heap[g]?=some (.cells cur 68 (0,0)):=hg
  rw[hnews,List.getElem?_drop,←ht,List.getElem?_take] at htu
  split at htu
  ·simp only[World.cell?,hg']
   simpa using htu
  ·cases htu
 obtain⟨A,hA,hsrc⟩:∃A:Addr,(if cap=i+1 then some (⟨g,0,none⟩:Addr) else some ⟨g,(i+1) * 3,none⟩)=some A∧Hid (∀t u,news[t]?=some u→w.drew.cell? (A.add t)=some u):=by
  by_cases h:cap=i+1
  ·refine⟨⟨g,0,none⟩,by simp[h],fun t u hu=>?_⟩
   have h0:news.length=0:=by rw[hlen];omega
   rw[List.length_eq_zero_iff.1 h0] at hu
   simp at hu
  ·refine⟨⟨g,(i+1) * 3,none⟩,by simp[h],fun t u hu=>?_⟩
   rw[Addr.add_lit]
   exact hget t u hu
 have s1:Hid (news.length=(N - i) * 3):=hlen
 have s2:Hid (∀u∈news,u.oneCell'=true):=by
  intro u hu
  rw[hnews] at hu
  exact hone u (List.mem_of_mem_drop hu)
 have s3:Hid (∀t,t<news.length→(w.drew.cell? ⟨g,0+i * 3+t,none⟩).isSome=true∧w.drew.frozen? ⟨g,0+i * 3+t,none⟩=false):=by
  intro t ht
  rw[hlen] at ht
  exact hcell _ (by omega)
 obtain⟨W1,hW1⟩:∃W1,W1=w.drew.setCells g (0+i * 3) news:=⟨_,rfl⟩
 have hown:=own_struck (w:=w.drew) (base:=base) (g:=g) (cap:=cap) (N:=N) (i:=i) (K:=3) (T:=68) (xs:=xs) (news:=news) (zc:=[.string ⟨#[]⟩,.int .i64 0,.int .i64 0]) (cur:=cur) hbase hg hc hm hs ht hi hnews rfl
 have hgr:=grown_setCells (w:=w) (g:=g) [.string ⟨#[]⟩,.int .i64 0,.int .i64 0] (N * 3) _ (grown_setCells news (i * 3) w.drew ⟨rfl,rfl,rfl,Nat.le_refl _,fun _ _ _=>rfl⟩)
 have hW1':w.drew.setCells g (i * 3) news=W1:=by rw[hW1,Nat.zero_add]
 rw[hW1'] at hown hgr
 have hc1:∀t,t<cap * 3→(W1.cell? ⟨g,t,none⟩).isSome=true∧W1.frozen? ⟨g,t,none⟩=false:=fun t htl=>by
  obtain⟨c1,c2⟩:=hcell t htl
  rw[hW1]
  exact⟨World.isSome_setCells g news _ _ _ c1,by rw[World.frozen?_setCells];exact c2⟩
 have hcl:∀ty,(Builtin.clear_ #[27] ty #[.slice (some ⟨g,N * 3,none⟩) 1 (cap - N)]).run Tryz.prog W1=.ok (.tuple #[]) (W1.setCells g (N * 3) [.string ⟨#[]⟩,.int .i64 0,.int .i64 0]):=
  fun ty=>run_clear_one W1 _ _ ty (.agg #[.string ⟨#[]⟩,.int .i64 0,.int .i64 0]) [.string ⟨#[]⟩,.int .i64 0,.int .i64 0] Tryz.underlying27 (fun _=>by simp only[zeroValue,Sem.run_bind,run_typeInfo _ hi0,Result.andThen_ok,hz0,Sem.run_pure]) rfl (by decide) (by intro u hu;simp at hu;rcases hu with rfl|rfl|rfl|rfl <;> rfl) g (N * 3) _ (fun t ht=>by simp at ht;exact(hc1 _ (by omega)).1) (fun t ht=>by simp at ht;exact(hc1 _ (by omega)).2)
 have hW:Hid (W1=w.drew.setCells g (0+i * 3) news):=hW1
 have hic:i≤cap:=by omega
 have hjc:i+1≤cap:=by omega
 have mixed:Tryz.prog.follows .mixedOrders=true:=by kernel_rfl
 have hi1:(0:Int)≤(i:Int)+1:=by omega
 have hN1:i+(N - i)=N:=by omega
 have hN2:N+1 - N=1:=by omega
 clear hW1 hW1' hnews hget hlen hcell hc1
 go_enter Tryz.func162,Tryz.ntmps162
 go_wp2_with fail
 go_region_law_o (refine step_append_room rfl (.tmp 22) (.tmp 25) 27 rfl 68 i0 3 Tryz.underlying27 hi0 hz1 g 0 i cap (by simp[Act.eval,Act.put]) A (N - i) (cap - (i+1)) news (by simp[Act.eval,Act.put]) s1.out hsrc.out s2.out (by omega) s3.out ?_;rw[←hW.out,hN1])
 go_wp2
 go_ret
 exact⟨rfl,hown,hgr⟩
theorem DeleteM_m (base g cap N i:Nat) (xs:List Value) (w:World) (ho:w.ownsRow base 137 4 (.slice (some ⟨g,0,none⟩) (N+1) cap) (N+1) xs) (hone:∀u∈xs,u.oneCell'=true) (hi:i≤N):
 Calls Tryz.prog 163 #[.slice (some ⟨g,0,none⟩) (N+1) cap,.int .i64 i,.int .i64 ((i:Int)+1)] w fun e w'=>e=.returned (.slice (some ⟨g,0,none⟩) N cap)∧w'.ownsRow base 137 4 (.slice (some ⟨g,0,none⟩) N cap) N (xs.take (i * 4)++xs.drop ((i+1) * 4))∧w.grownBy w' (some g):=by
 obtain⟨i0,hi0,hz0,hz1,hz2⟩:=info_parts infoMv
 obtain⟨hxl,h⟩:=ho
 rcases h with ⟨h,_⟩|⟨g',cap',cur,hv,hbase,hg,hc,hm,hs,ht⟩
 ·cases h
 cases hv
 have hm':cap≤9223372036854775807:=by simp only[maxLen] at hm;omega
 have hcell:∀t,t<cap * 4→(w.drew.cell? ⟨g,t,none⟩).isSome=true∧w.drew.frozen? ⟨g,t,none⟩=false:=fun t htl=>by
  have hg':w.drew.heap[g]?=some (.cells cur 137 (0,0)):=hg
  refine⟨?_,by simp[World.frozen?,hg']⟩
  simp[World.cell?,hg',show t<cur.size by omega]
 obtain⟨news,hnews⟩:∃news,news=xs.drop ((i+1) * 4):=⟨_,rfl⟩
 have hlen:news.length=(N - i) * 4:=by rw[hnews,List.length_drop,hxl];omega
 have hget:∀t u,news[t]?=some u→w.drew.cell? ⟨g,(i+1) * 4+t,none⟩=some u:=by
  intro t u htu
  have hg':w.drew.heap[g]?=some (.cells cur 137 (0,0)):=hg
  rw[hnews,List.getElem?_drop,←ht,List.getElem?_take] at htu
  split at htu
  ·simp only[World.cell?,hg']
   simpa using htu
  ·cases htu
 obtain⟨A,hA,hsrc⟩:∃A:Addr,(if cap=i+1 then some (⟨g,0,none⟩:Addr) else some ⟨g,(i+1) * 4,none⟩)=some A∧Hid (∀t u,news[t]?=some u→w.drew.cell? (A.add t)=some u):=by
  by_cases h:cap=i+1
  ·refine⟨⟨g,0,none⟩,by simp[h],fun t u hu=>?_⟩
   have h0:news.length=0:=by rw[hlen];omega
   rw[List.length_eq_zero_iff.1 h0] at hu
   simp at hu
  ·refine⟨⟨g,(i+1) * 4,none⟩,by simp[h],fun t u hu=>?_⟩
   rw[Addr.add_lit]
   exact hget t u hu
 have s1:Hid (news.length=(N - i) * 4):=hlen
 have s2:Hid (∀u∈news,u.oneCell'=true):=by
  intro u hu
  rw[hnews] at hu
  exact hone u (List.mem_of_mem_drop hu)
 have s3:Hid (∀t,t<news.length→(w.drew.cell? ⟨g,0+i * 4+t,none⟩).isSome=true∧w.drew.frozen? ⟨g,0+i * 4+t,none⟩=false):=by
  intro t ht
  rw[hlen] at ht
  exact hcell _ (by omega)
 obtain⟨W1,hW1⟩:∃W1,W1=w.drew.setCells g (0+i * 4) news:=⟨_,rfl⟩
 have hown:=own_struck (w:=w.drew) (base:=base) (g:=g) (cap:=cap) (N:=N) (i:=i) (K:=4) (T:=137) (xs:=xs) (news:=news) (zc:=[.int .i64 0,.int .i64 0,.int .u64 0,.string ⟨#[]⟩]) (cur:=cur) hbase hg hc hm hs ht hi hnews rfl
 have hgr:=grown_setCells (w:=w) (g:=g) [.int .i64 0,.int .i64 0,.int .u64 0,.string ⟨#[]⟩] (N * 4) _ (grown_setCells news (i * 4) w.drew ⟨rfl,rfl,rfl,Nat.le_refl _,fun _ _ _=>rfl⟩)
 have hW1':w.drew.setCells g (i * 4) news=W1:=by rw[hW1,Nat.zero_add]
 rw[hW1'] at hown hgr
 have hc1:∀t,t<cap * 4→(W1.cell? ⟨g,t,none⟩).isSome=true∧W1.frozen? ⟨g,t,none⟩=false:=fun t htl=>by
  obtain⟨c1,c2⟩:=hcell t htl
  rw[hW1]
  exact⟨World.isSome_setCells g news _ _ _ c1,by rw[World.frozen?_setCells];exact c2⟩
 have hcl:∀ty,(Builtin.clear_ #[94] ty #[.slice (some ⟨g,N * 4,none⟩) 1 (cap - N)]).run Tryz.prog W1=.ok (.tuple #[]) (W1.setCells g (N * 4) [.int .i64 0,.int .i64 0,.int .u64 0,.string ⟨#[]⟩]):=
  fun ty=>run_clear_one W1 _ _ ty (.agg #[.int .i64 0,.int .i64 0,.int .u64 0,.string ⟨#[]⟩]) [.int .i64 0,.int .i64 0,.int .u64 0,.string ⟨#[]⟩] Tryz.underlying94 (fun _=>by simp only[zeroValue,Sem.run_bind,run_typeInfo _ hi0,Result.andThen_ok,hz0,Sem.run_pure]) rfl (by decide) (by intro u hu;simp at hu;rcases hu with rfl|rfl|rfl|rfl <;> rfl) g (N * 4) _ (fun t ht=>by simp at ht;exact(hc1 _ (by omega)).1) (fun t ht=>by simp at ht;exact(hc1 _ (by omega)).2)
 have hW:Hid (W1=w.drew.setCells g (0+i * 4) news):=hW1
 have hic:i≤cap:=by omega
 have hjc:i+1≤cap:=by omega
 have mixed:Tryz.prog.follows .mixedOrders=true:=by kernel_rfl
 have hi1:(0:Int)≤(i:Int)+1:=by omega
 have hN1:i+(N - i)=N:=by omega
 have hN2:N+1 - N=1:=by omega
 clear hW1 hW1' hnews hget hlen hcell hc1
 go_enter Tryz.func163,Tryz.ntmps163
 go_wp2_with fail
 go_region_law_o (refine step_append_room rfl (.tmp 22) (.tmp 25) 94 rfl 137 i0 4 Tryz.underlying94 hi0 hz1 g 0 i cap (by simp[Act.eval,Act.put]) A (N - i) (cap - (i+1)) news (by simp[Act.eval,Act.put]) s1.out hsrc.out s2.out (by omega) s3.out ?_;rw[←hW.out,hN1])
 go_wp2
 go_ret
 exact⟨rfl,hown,hgr⟩
theorem OBox.grown {w w':World} {b:Nat} {cs:List Value} {T:TypeId} {row:Option Nat} (h:OBox w b cs T) (hg:w.grownBy w' row) (hn:some b≠row):OBox w' b cs T:=(hg.block b h.lt hn).trans h
theorem own_grown {w w':World} {base:Nat} {e:TypeId} {size n:Nat} {v:Value} {xs:List Value} {row:Option Nat} (h:w.ownsRow base e size v n xs) (hg:w.grownBy w' row) (hn:∀g,v.ownBlock=some g→some g≠row):w'.ownsRow base e size v n xs:=
 own_keep h fun g hk=>hg.block g (own_lt h g hk) (hn g hk)
theorem RdB.grown {b:Nat} {w w':World} {A:Option Addr} {cs:List Value} {row:Option Nat} (h:RdB b w A cs) (hg:w.grownBy w' row) (hb:b≤w.heap.size) (hn:∀g,row=some g→b≤g):RdB b w' A cs:=
 h.below ((Below.refl b w).grown hg hb hn)
def chL (c:Ch) (qv:Value):List Value:=[.int .i64 c.op,.string c.s,.string c.g.s,.int .i64 c.g.k,.int .i64 c.g.l,.int .i64 c.d.k,.int .u64 c.d.b,.string c.d.t,qv]
def CBox (w:World) (b:Nat) (c:Ch) (qv:Value) (T:TypeId):Prop:=OBox w b (chL c qv) T
theorem CBox.c9 {w:World} {b:Nat} {c:Ch} {qv:Value} {T:TypeId} (h:CBox w b c qv T):w.cell? ⟨b,0,none⟩=some (.int .i64 c.op)∧w.cell? ⟨b,1,none⟩=some (.string c.s)∧w.cell? ⟨b,2,none⟩=some (.string c.g.s)∧w.cell? ⟨b,3,none⟩=some (.int .i64 c.g.k)∧w.cell? ⟨b,4,none⟩=some (.int .i64 c.g.l)∧
 w.cell? ⟨b,5,none⟩=some (.int .i64 c.d.k)∧w.cell? ⟨b,6,none⟩=some (.int .u64 c.d.b)∧w.cell? ⟨b,7,none⟩=some (.string c.d.t)∧w.cell? ⟨b,8,none⟩=some qv:=
 ⟨OBox.cell h rfl,OBox.cell h rfl,OBox.cell h rfl,OBox.cell h rfl,OBox.cell h rfl,OBox.cell h rfl,OBox.cell h rfl,OBox.cell h rfl,OBox.cell h rfl⟩
theorem CBox.below {w w1:World} {b:Nat} {c:Ch} {qv:Value} {T:TypeId} (h:CBox w b c qv T) (hb:Below w.heap.size w w1):CBox w1 b c qv T:=OBox.below h hb
structure Only (r2 r3:Option Nat) (w w':World):Prop where
 os:w'.os=w.os
 tape:w'.tape=w.tape
 output:w'.output=w.output
 size:w.heap.size≤w'.heap.size
 block:∀k,k<w.heap.size→some k≠r2→some k≠r3→w'.heap[k]?=w.heap[k]?
theorem Only.of {r2 r3:Option Nat} {w w':World} (h:Below w.heap.size w w'):Only r2 r3 w w':=⟨h.os,h.tape,h.output,h.size,fun k hk _ _=>h.block k hk⟩
theorem Only.low {r2 r3:Option Nat} {w w':World} {B:Nat} (h:Only r2 r3 w w') (hB:B≤w.heap.size) (h2:∀g,r2=some g→B≤g) (h3:∀g,r3=some g→B≤g):Below B w w':=
 ⟨h.os,h.tape,h.output,h.size,fun k hk=>h.block k (by omega) (fun e=>by have:=h2 k e.symm;omega) (fun e=>by have:=h3 k e.symm;omega)⟩
theorem Only.grown {r2 r3 row:Option Nat} {w W W':World} (h:Only r2 r3 w W) (hg:W.grownBy W' row) (hr:row=r2∨row=r3):Only r2 r3 w W':=
 ⟨hg.os.trans h.os,hg.tape.trans h.tape,hg.output.trans h.output,Nat.le_trans h.size hg.size,fun k hk n2 n3=>(hg.block k (by have:=h.size;omega) (by rcases hr with e|e <;> rw[e] <;> assumption)).trans (h.block k hk n2 n3)⟩
theorem Only.seq {r2 r3:Option Nat} {w W W':World} (h:Only r2 r3 w W) (hb:Below W.heap.size W W'):Only r2 r3 w W':=
 ⟨hb.os.trans h.os,hb.tape.trans h.tape,hb.output.trans h.output,Nat.le_trans h.size hb.size,fun k hk n2 n3=>(hb.block k (by have:=h.size;omega)).trans (h.block k hk n2 n3)⟩
theorem Only.setCell {r2 r3:Option Nat} {w W:World} (h:Only r2 r3 w W) {p:Addr} (hp:w.heap.size≤p.block) (u:Value):Only r2 r3 w (W.setCell p u):=
 ⟨h.os,h.tape,h.output,by simpa[World.setCell] using h.size,fun k hk n2 n3=>(Below.heap_setCell _ _ _ _ (by omega)).trans (h.block k hk n2 n3)⟩
theorem Only.then {r2 r3:Option Nat} {w W W':World} (h:Only r2 r3 w W) (hb:Only r2 r3 W W'):Only r2 r3 w W':=
 ⟨hb.os.trans h.os,hb.tape.trans h.tape,hb.output.trans h.output,Nat.le_trans h.size hb.size,fun k hk n2 n3=>(hb.block k (by have:=h.size;omega) n2 n3).trans (h.block k hk n2 n3)⟩
theorem OBox.only {r2 r3:Option Nat} {w w':World} {b:Nat} {cs:List Value} {T:TypeId} (h:OBox w b cs T) (ho:Only r2 r3 w w') (n2:some b≠r2) (n3:some b≠r3):OBox w' b cs T:=(ho.block b h.lt n2 n3).trans h
def RdP (P:Nat→Prop) (w:World) (A:Option Addr) (cs:List Value):Prop:=cs≠[]→∃ad,A=some ad∧P ad.block∧∀j u,cs[j]?=some u→w.cell? (ad.add j)=some u
theorem RdP.rd {P:Nat→Prop} {w:World} {A:Option Addr} {cs:List Value} (h:RdP P w A cs):Rd w A cs:=fun hn=>by
 obtain⟨ad,e,_,hc⟩:=h hn;exact⟨ad,e,hc⟩
theorem RdP.keep {P:Nat→Prop} {w w':World} {A:Option Addr} {cs:List Value} (h:RdP P w A cs) (hk:∀k,P k→w'.heap[k]?=w.heap[k]?):RdP P w' A cs:=fun hn=>by
 obtain⟨ad,e,hp,hc⟩:=h hn
 refine⟨ad,e,hp,fun j u hj=>(World.cell?_of_block ?_).trans (hc j u hj)⟩
 have:(ad.add j).block=ad.block:=by unfold Addr.add;split <;> rfl
 rw[this];exact hk _ hp
theorem RdP.mono {P Q:Nat→Prop} {w:World} {A:Option Addr} {cs:List Value} (h:RdP P w A cs) (hq:∀k,P k→Q k):RdP Q w A cs:=fun hn=>by
 obtain⟨ad,e,hp,hc⟩:=h hn;exact⟨ad,e,hq _ hp,hc⟩
theorem RdP.mk {P:Nat→Prop} {w:World} {A:Option Addr} {cs:List Value} (h:Rd w A cs) (hp:∀ad,A=some ad→P ad.block):RdP P w A cs:=fun hn=>by
 obtain⟨ad,e,hc⟩:=h hn;exact⟨ad,e,hp ad e,hc⟩
def TVP (P:Nat→Prop) (w:World) (v:Value) (t:Tb):Prop:=∃A c B d C e,v=.agg #[.slice A t.o.length c,.slice B t.n.length d,.slice C t.m.length e]∧t.n.length≤d∧RdP P w A (cellsF t.o)∧RdP P w B (cellsF t.n)∧RdP P w C (cellsM t.m)
theorem TVP.keep {P:Nat→Prop} {w w':World} {v:Value} {t:Tb} (h:TVP P w v t) (hk:∀k,P k→w'.heap[k]?=w.heap[k]?):TVP P w' v t:=by
 obtain⟨A,c,B,d,C,e,hv,hd,h0,h1,h2⟩:=h
 exact⟨A,c,B,d,C,e,hv,hd,h0.keep hk,h1.keep hk,h2.keep hk⟩
theorem TVP.mono {P Q:Nat→Prop} {w:World} {v:Value} {t:Tb} (h:TVP P w v t) (hq:∀k,P k→Q k):TVP Q w v t:=by
 obtain⟨A,c,B,d,C,e,hv,hd,h0,h1,h2⟩:=h
 exact⟨A,c,B,d,C,e,hv,hd,h0.mono hq,h1.mono hq,h2.mono hq⟩
def StepP (r2 r3:Option Nat) (P:Nat→Prop) (t:Tb) (code:Int) (w:World) (e:Ending) (w':World):Prop:=
 ∃A na ca B nb cb C nc cc,e=.returned (.tuple #[.agg #[.slice A na ca,.slice B nb cb,.slice C nc cc],.int .i64 code])∧(code=0→TVP P w' (.agg #[.slice A na ca,.slice B nb cb,.slice C nc cc]) t)∧Only r2 r3 w w'
theorem own_P {w:World} {P:Nat→Prop} {base n c:Nat} {e:TypeId} {K:Nat} {A:Option Addr} {xs:List Value} (h:w.ownsRow base e K (.slice A n c) n xs) (hp:∀g,(Value.slice A n c).ownBlock=some g→P g):RdP P w A xs:=by
 obtain⟨A',c',e1,_,_,hr⟩:=own_rd h
 cases e1
 exact RdP.mk hr fun ad e=>hp _ (by rw[e];rfl)
theorem own_TV {w:World} {P:Nat→Prop} {A:Option Addr} {m c n k b b':Nat} {v2 v3:Value} {t:Tb} (hm:t.o.length=m) (R:Rd w A (cellsF t.o)) (hp:∀ad,A=some ad→P ad.block) (o2:w.ownsRow b 68 3 v2 n (cellsF t.n)) (hn:t.n.length=n) (p2:∀g,v2.ownBlock=some g→P g)
 (o3:w.ownsRow b' 137 4 v3 k (cellsM t.m)) (hk:t.m.length=k) (p3:∀g,v3.ownBlock=some g→P g):TVP P w (.agg #[.slice A m c,v2,v3]) t:=by
 subst hm hn hk
 obtain⟨B,d,rfl,hd,_,_⟩:=own_rd o2
 obtain⟨C,e,rfl,_,_,_⟩:=own_rd o3
 exact⟨A,c,B,d,C,e,rfl,hd,RdP.mk R hp,own_P o2 p2,own_P o3 p3⟩
theorem adds_no (l:List Fd) (c:Ch) (m:Nat) (hm:l.length=m) (h16:m≤16) (B:Option Addr) (d b1 b2:Nat) (v2 v3 qv:Value) (w:World) (h1:b1≤b2) (h2:b2≤w.heap.size) (R1:RdB b1 w B (cellsF l)) (own2:w.ownsRow b1 68 3 v2 m (cellsF l)) (lt2:OwnLt b2 v2) (own3:w.ownsRow b2 137 4 v3 m (cellsM (kM m))) (P:Nat→Prop) (hP1:∀ad,B=some ad→P ad.block) (hP2:∀g,v2.ownBlock=some g→P g) (hP3:∀g,v3.ownBlock=some g→P g) (hPn:∀g,w.heap.size≤g→P g) (x0:0≤c.d.b) (x1:c.d.b<18446744073709551616) (hr:rightB c.d.k c.d.b c.d.t c.g.k c.g.l=false):
 Calls Tryz.prog 135 #[.agg #[.slice B m d,v2,v3],.agg #[.int .i64 c.op,.string c.s,.string c.g.s,.int .i64 c.g.k,.int .i64 c.g.l,.int .i64 c.d.k,.int .u64 c.d.b,.string c.d.t,qv]] w fun e w'=>StepP v2.ownBlock v3.ownBlock P Tb.z 80 w e w':=by
 obtain⟨B2,d2,rfl,hd2,hmx2,rd2⟩:=own_rd own2
 obtain⟨B3,d3,rfl,hd3,hmx3,rd3⟩:=own_rd own3
 have bb1:=below_new (w:=w) (.cells #[.slice B m d,.slice B2 m d2,.slice B3 m d3] 96)
 have bb2:=below_new (w:=w.alloc (.cells #[.slice B m d,.slice B2 m d2,.slice B3 m d3] 96)) (.cells #[.int .i64 c.op,.string c.s,.string c.g.s,.int .i64 c.g.k,.int .i64 c.g.l,.int .i64 c.d.k,.int .u64 c.d.b,.string c.d.t,qv] 76)
 have bb3:=below_new (w:=(w.alloc (.cells #[.slice B m d,.slice B2 m d2,.slice B3 m d3] 96)).alloc (.cells #[.int .i64 c.op,.string c.s,.string c.g.s,.int .i64 c.g.k,.int .i64 c.g.l,.int .i64 c.d.k,.int .u64 c.d.b,.string c.d.t,qv] 76)) (.cells #[.slice none 0 0,.slice none 0 0,.slice none 0 0] 96)
 have T1:=((OBox.new w [.slice B m d,.slice B2 m d2,.slice B3 m d3] 96).below bb2).below bb3
 have C1:CBox _ _ c qv 76:=(OBox.new (w.alloc (.cells #[.slice B m d,.slice B2 m d2,.slice B3 m d3] 96)) (chL c qv) 76).below bb3
 have N1:=OBox.new ((w.alloc (.cells #[.slice B m d,.slice B2 m d2,.slice B3 m d3] 96)).alloc (.cells #[.int .i64 c.op,.string c.s,.string c.g.s,.int .i64 c.g.k,.int .i64 c.g.l,.int .i64 c.d.k,.int .u64 c.d.b,.string c.d.t,qv] 76)) [.slice none 0 0,.slice none 0 0,.slice none 0 0] 96
 have HB:=below_seq (below_seq bb1 bb2) bb3
 rw[World.size_alloc] at C1
 rw[World.size_alloc,World.size_alloc] at N1
 obtain⟨i1,i2,i3,j1,j2,j3⟩:=T1.f3
 obtain⟨n1,n2,n3,o1,o2,o3⟩:=N1.f3
 obtain⟨a0,a1,a2,a3,a4,a5,a6,a7,a8⟩:=C1.c9
 have HM:=Lib.hid hm
 have HP1:=Lib.hid hP1
 have HP2:=Lib.hid hP2
 have HP3:=Lib.hid hP3
 have HPN:=Lib.hid hPn
 clear hm bb1 bb2 bb3 hP1 hP2 hP3 hPn
 have HR:=Lib.hid hr
 clear hr
 go_enter Tryz.func135,Tryz.ntmps135
 go_wp2_with (go_at_call 95;refine(Right_is c.d.k c.d.b c.d.t c.g.s c.g.k c.g.l x0 x1 false HR.out _).mono ?_;rintro e wM ⟨rfl,hb⟩;replace HB:=HB.trans (hb.mono HB.size);replace T1:=T1.below hb;replace N1:=N1.below hb;clear hb i1 i2 i3 j1 j2 j3 n1 n2 n3 o1 o2 o3 a0 a1 a2 a3 a4 a5 a6 a7 a8;obtain⟨i1,i2,i3,j1,j2,j3⟩:=T1.f3;obtain⟨n1,n2,n3,o1,o2,o3⟩:=N1.f3)
 refine bodyPost_ret (v:=.tuple #[.agg #[.slice B m d,.slice B2 m d2,.slice B3 m d3],.int .i64 80]) (by simp[results,Tryz.results135,go_sem, *];done) rfl ⟨_,_,_,_,_,_,_,_,_,rfl,fun h=>absurd h (by decide),Only.of ?_⟩
 (repeat (first|exact HB|refine Below.setCell ?_ (by dsimp only;omega) _|refine Below.alloc ?_ (by have hs_:=HB.size;first|(simp;done)|(simp;omega)|omega) _|apply Below.drew))
theorem adds_yes (l:List Fd) (c:Ch) (m:Nat) (hm:l.length=m) (h16:m≤16) (B:Option Addr) (d b1 b2:Nat) (v2 v3 qv:Value) (w:World) (h1:b1≤b2) (h2:b2≤w.heap.size) (R1:RdB b1 w B (cellsF l)) (own2:w.ownsRow b1 68 3 v2 m (cellsF l)) (lt2:OwnLt b2 v2) (own3:w.ownsRow b2 137 4 v3 m (cellsM (kM m))) (P:Nat→Prop) (hP1:∀ad,B=some ad→P ad.block) (hP2:∀g,v2.ownBlock=some g→P g) (hP3:∀g,v3.ownBlock=some g→P g) (hPn:∀g,w.heap.size≤g→P g) (x0:0≤c.d.b) (x1:c.d.b<18446744073709551616) (hr:rightB c.d.k c.d.b c.d.t c.g.k c.g.l=true):
 Calls Tryz.prog 135 #[.agg #[.slice B m d,v2,v3],.agg #[.int .i64 c.op,.string c.s,.string c.g.s,.int .i64 c.g.k,.int .i64 c.g.l,.int .i64 c.d.k,.int .u64 c.d.b,.string c.d.t,qv]] w fun e w'=>StepP v2.ownBlock v3.ownBlock P ⟨l,l++[c.g],kM m++[⟨-1,c.d⟩]⟩ 0 w e w':=by
 obtain⟨iF,hiF,hzF0,hzF1,hzF2⟩:=info_parts infoFd
 obtain⟨iM,hiM,hzM0,hzM1,hzM2⟩:=info_parts infoMv
 obtain⟨B2,d2,rfl,hd2,hmx2,rd2⟩:=own_rd own2
 obtain⟨B3,d3,rfl,hd3,hmx3,rd3⟩:=own_rd own3
 have bb1:=below_new (w:=w) (.cells #[.slice B m d,.slice B2 m d2,.slice B3 m d3] 96)
 have bb2:=below_new (w:=w.alloc (.cells #[.slice B m d,.slice B2 m d2,.slice B3 m d3] 96)) (.cells #[.int .i64 c.op,.string c.s,.string c.g.s,.int .i64 c.g.k,.int .i64 c.g.l,.int .i64 c.d.k,.int .u64 c.d.b,.string c.d.t,qv] 76)
 have bb3:=below_new (w:=(w.alloc (.cells #[.slice B m d,.slice B2 m d2,.slice B3 m d3] 96)).alloc (.cells #[.int .i64 c.op,.string c.s,.string c.g.s,.int .i64 c.g.k,.int .i64 c.g.l,.int .i64 c.d.k,.int .u64 c.d.b,.string c.d.t,qv] 76)) (.cells #[.slice none 0 0,.slice none 0 0,.slice none 0 0] 96)
 have T1:=((OBox.new w [.slice B m d,.slice B2 m d2,.slice B3 m d3] 96).below bb2).below bb3
 have C1:CBox _ _ c qv 76:=(OBox.new (w.alloc (.cells #[.slice B m d,.slice B2 m d2,.slice B3 m d3] 96)) (chL c qv) 76).below bb3
 have N1:=OBox.new ((w.alloc (.cells #[.slice B m d,.slice B2 m d2,.slice B3 m d3] 96)).alloc (.cells #[.int .i64 c.op,.string c.s,.string c.g.s,.int .i64 c.g.k,.int .i64 c.g.l,.int .i64 c.d.k,.int .u64 c.d.b,.string c.d.t,qv] 76)) [.slice none 0 0,.slice none 0 0,.slice none 0 0] 96
 have HB:=below_seq (below_seq bb1 bb2) bb3
 rw[World.size_alloc] at C1
 rw[World.size_alloc,World.size_alloc] at N1
 obtain⟨i1,i2,i3,j1,j2,j3⟩:=T1.f3
 obtain⟨n1,n2,n3,o1,o2,o3⟩:=N1.f3
 obtain⟨a0,a1,a2,a3,a4,a5,a6,a7,a8⟩:=C1.c9
 have HM:=Lib.hid hm
 have HP1:=Lib.hid hP1
 have HP2:=Lib.hid hP2
 have HP3:=Lib.hid hP3
 have HPN:=Lib.hid hPn
 clear hm bb1 bb2 bb3 hP1 hP2 hP3 hPn
 have HR:=Lib.hid hr
 have l2:=own_lt own2
 have l3:=own_lt own3
 clear hr
 go_enter Tryz.func135,Tryz.ntmps135
 go_wp2_with (first
  |(go_at_call 95;refine(Right_is c.d.k c.d.b c.d.t c.g.s c.g.k c.g.l x0 x1 true HR.out _).mono ?_;rintro e wM ⟨rfl,hb⟩;replace HB:=HB.trans (hb.mono HB.size);replace T1:=T1.below hb;replace C1:=C1.below hb;replace N1:=N1.below hb;clear hb i1 i2 i3 j1 j2 j3 n1 n2 n3 o1 o2 o3 a0 a1 a2 a3 a4 a5 a6 a7 a8;obtain⟨i1,i2,i3,j1,j2,j3⟩:=T1.f3;obtain⟨a0,a1,a2,a3,a4,a5,a6,a7,a8⟩:=C1.c9;have ow2:=own_below own2 HB;have ow3:=own_below own3 HB;have R2:=R1.below (HB.mono (Nat.le_trans h1 h2));clear own2 own3 R1;have zz:=N1.lt;have nf:=below_new (w:=wM) (.cells #[.string c.g.s,.int .i64 c.g.k,.int .i64 c.g.l] 68);have T2:=T1.below nf;obtain⟨p1,p2,p3,q1,q2,q3⟩:=T2.f3)
  |(at_builtin;refine wpList_append_own_at _ rfl _ _ 27 rfl b1 68 iF (.agg #[.string ⟨#[]⟩,.int .i64 0,.int .i64 0]) 3 32 Tryz.underlying27 hiF hzF0 hzF1 hzF2 rfl (by decide) _ _ _ rfl (own_below ow2 nf) ⟨wM.heap.size,0,none⟩ 1 1 [.string c.g.s,.int .i64 c.g.k,.int .i64 c.g.l] rfl rfl ?c1 ?c2 ?c3 ?c4 ?c5 ?_))
 case c1=>exact news3 _ _ _ _ _
 case c2=>intro u hu;simp at hu;rcases hu with rfl|rfl|rfl <;> rfl
 case c3=>simp only[maxLen];omega
 case c4=>omega
 case c5=>have:=nf.size;omega
 intro v' W2 ow2' hg2 _ hat2
 have T3:=T2.grown hg2 (by intro e;have:=l2 _ e.symm;omega)
 have C3:CBox W2 (w.heap.size+1) c qv 76:=OBox.grown (C1.below nf) hg2 (by intro e;have:=l2 _ e.symm;omega)
 have N3:=(N1.below nf).grown hg2 (by intro e;have:=l2 _ e.symm;omega)
 have ow3':=own_grown (own_below ow3 nf) hg2 (by intro g hg e;have h5:=lt2 _ e.symm;have h6:=own_base ow3 g hg;omega)
 have R3:=(R2.below (nf.mono (by have:=HB.size;omega))).grown hg2 (by have:=nf.size;have:=HB.size;omega) (fun g hg=>own_base ow2 g hg)
 have HB2:Only (Value.slice B2 m d2).ownBlock (Value.slice B3 m d3).ownBlock w W2:=((Only.of HB).seq nf).grown hg2 (.inl rfl)
 have z2:wM.heap.size+1≤W2.heap.size:=by have:=hg2.size;simpa using this
 have lv':∀g,v'.ownBlock=some g→g<b2∨wM.heap.size<g:=by
  intro g hg
  rcases hat2 with h|h
  ·exact .inl (lt2 g (by rw[←h];exact hg))
  ·rw[hg] at h;have h:=Option.some.inj h;(try simp at h);right;omega
 have pv':Hid (∀g,v'.ownBlock=some g→P g):=Lib.hid (by
  intro g hg
  rcases hat2 with h|h
  ·exact HP2.out g (by rw[←h];exact hg)
  ·rw[hg] at h;have h:=Option.some.inj h;(try simp at h);exact HPN.out g (by omega))
 clear nf T2 T1 C1 N1 ow2 ow3 R2 HB hg2 hat2 i1 i2 i3 j1 j2 j3 a0 a1 a2 a3 a4 a5 a6 a7 a8 p1 p2 p3 q1 q2 q3
 obtain⟨i1,i2,i3,j1,j2,j3⟩:=T3.f3
 obtain⟨B2',d2',rfl,hd2',hmx2',rd2'⟩:=own_rd ow2'
 have T4:=obox_set T3 1 (.slice B2' (m+1) d2')
 have C4:CBox (W2.setCell ⟨w.heap.size,1,none⟩ (.slice B2' (m+1) d2')) (w.heap.size+1) c qv 76:=(Below.heap_setCell _ _ _ _ (by show _≠_;simp)).trans C3
 have N4:OBox (W2.setCell ⟨w.heap.size,1,none⟩ (.slice B2' (m+1) d2')) (w.heap.size+2) _ 96:=(Below.heap_setCell _ _ _ _ (by show _≠_;simp)).trans N3
 have ow2s:=own_keep (w1:=W2.setCell ⟨w.heap.size,1,none⟩ (.slice B2' (m+1) d2')) ow2' (fun g hg=>Below.heap_setCell _ _ _ _ (by show g≠w.heap.size;have:=lv' g hg;omega))
 have ow3s:=own_keep (w1:=W2.setCell ⟨w.heap.size,1,none⟩ (.slice B2' (m+1) d2')) ow3' (fun g hg=>Below.heap_setCell _ _ _ _ (by show g≠w.heap.size;have:=l3 g hg;omega))
 have R4:=R3.below ((Below.refl b1 W2).setCell (p:=⟨w.heap.size,1,none⟩) (by show b1≤w.heap.size;omega) (.slice B2' (m+1) d2'))
 have HB4:=HB2.setCell (p:=⟨w.heap.size,1,none⟩) (Nat.le_refl _) (.slice B2' (m+1) d2')
 have z4:Hid (W2.heap.size=(W2.setCell ⟨w.heap.size,1,none⟩ (.slice B2' (m+1) d2')).heap.size):=Lib.hid (by simp)
 have NM:=below_new (w:=W2.setCell ⟨w.heap.size,1,none⟩ (.slice B2' (m+1) d2')) (.cells #[.int .i64 (-1),.int .i64 c.d.k,.int .u64 c.d.b,.string c.d.t] 137)
 obtain⟨a0,a1,a2,a3,a4,a5,a6,a7,a8⟩:=C4.c9
 obtain⟨p1,p2,p3,q1,q2,q3⟩:=T4.f3
 obtain⟨s1,s2,s3,u1,u2,u3⟩:=(T4.below NM).f3
 go_wp2_with (at_builtin;refine wpList_append_own_at _ rfl _ _ 94 rfl b2 137 iM (.agg #[.int .i64 0,.int .i64 0,.int .u64 0,.string ⟨#[]⟩]) 4 40 Tryz.underlying94 hiM hzM0 hzM1 hzM2 rfl (by decide) _ _ _ rfl (own_below ow3s NM) ⟨W2.heap.size,0,none⟩ 1 1 [.int .i64 (-1),.int .i64 c.d.k,.int .u64 c.d.b,.string c.d.t] rfl rfl ?c1 ?c2 ?c3 ?c4 ?c5 ?_)
 case c1=>rw[z4.out];exact news4 _ _ _ _ _ _
 case c2=>intro u hu;simp at hu;rcases hu with rfl|rfl|rfl|rfl <;> rfl
 case c3=>simp only[maxLen];omega
 case c4=>omega
 case c5=>simp;omega
 intro v'' W5 ow3x hg5 _ hat5
 have T5:=(T4.below NM).grown hg5 (by intro e;have:=l3 _ e.symm;omega)
 have N5:=(N4.below NM).grown hg5 (by intro e;have:=l3 _ e.symm;omega)
 have ow2x:=own_grown (own_below ow2s NM) hg5 (by intro g hg e;have h5:=lv' g hg;have h6:=own_base ow3s g e.symm;have h7:=l3 g e.symm;omega)
 have nmz:b1≤(W2.setCell ⟨w.heap.size,1,none⟩ (.slice B2' (m+1) d2')).heap.size:=by rw[←z4.out];omega
 have R5:=(R4.below (NM.mono nmz)).grown hg5 (by have:=NM.size;omega) (fun g hg=>Nat.le_trans h1 (own_base ow3s g hg))
 have HB5:=(HB4.seq NM).grown hg5 (.inr rfl)
 have lw':∀g,v''.ownBlock=some g→g<w.heap.size∨wM.heap.size<g:=by
  intro g hg
  rcases hat5 with h|h
  ·exact .inl (l3 g (by rw[←h];exact hg))
  ·rw[hg] at h;have h:=Option.some.inj h;(try simp at h);right;omega
 have pw':Hid (∀g,v''.ownBlock=some g→P g):=Lib.hid (by
  intro g hg
  rcases hat5 with h|h
  ·exact HP3.out g (by rw[←h];exact hg)
  ·rw[hg] at h;have h:=Option.some.inj h;(try simp at h);exact HPN.out g (by omega))
 obtain⟨B3',d3',rfl,hd3',hmx3',rd3'⟩:=own_rd ow3x
 clear i1 i2 i3 j1 j2 j3 a0 a1 a2 a3 a4 a5 a6 a7 a8 p1 p2 p3 q1 q2 q3 s1 s2 s3 u1 u2 u3
 obtain⟨i1,i2,i3,j1,j2,j3⟩:=T5.f3
 obtain⟨n1,n2,n3,o1,o2,o3⟩:=N5.f3
 go_wp2
 refine bodyPost_ret (v:=.tuple #[.agg #[.slice B m d,.slice B2' (m+1) d2',.slice B3' (m+1) d3'],.int .i64 0]) (by simp[results,Tryz.results135,go_sem, *];done) rfl ⟨_,_,_,_,_,_,_,_,_,rfl,fun _=>?_,?_⟩
 ·refine own_TV (t:=⟨l,l++[c.g],kM m++[⟨-1,c.d⟩]⟩) HM.out (RdB.rd (R5.below ?_)) HP1.out (own_eq (own_keep ow2x fun g hg=>?_) rfl (by simp[cellsF])) (by simp[HM.out]) pv'.out (own_eq (own_keep ow3x fun g hg=>?_) rfl (by simp[cellsM])) (by simp[kM_length]) pw'.out
  ·exact((((Below.refl b1 W5).setCell (by show b1≤w.heap.size;omega) _).setCell (by show b1≤w.heap.size+2;omega) _).setCell (by show b1≤w.heap.size+2;omega) _).setCell (by show b1≤w.heap.size+2;omega) _
  ·have h:=lv' g hg
   exact(Below.heap_setCell _ _ _ _ (by show g≠w.heap.size+2;omega)).trans ((Below.heap_setCell _ _ _ _ (by show g≠w.heap.size+2;omega)).trans ((Below.heap_setCell _ _ _ _ (by show g≠w.heap.size+2;omega)).trans (Below.heap_setCell _ _ _ _ (by show g≠w.heap.size;omega))))
  ·have h:=lw' g hg
   exact(Below.heap_setCell _ _ _ _ (by show g≠w.heap.size+2;omega)).trans ((Below.heap_setCell _ _ _ _ (by show g≠w.heap.size+2;omega)).trans ((Below.heap_setCell _ _ _ _ (by show g≠w.heap.size+2;omega)).trans (Below.heap_setCell _ _ _ _ (by show g≠w.heap.size;omega))))
 ·exact(((HB5.setCell (Nat.le_refl _) _).setCell (by show w.heap.size≤w.heap.size+2;omega) _).setCell (by show w.heap.size≤w.heap.size+2;omega) _).setCell (by show w.heap.size≤w.heap.size+2;omega) _
end
end Go.Proofs.YteembinfgbapgaaGreat
