/- Merged out of: Rg Kd Ga Gb Gc Gd. -/
import Derived.Test.YteembinfgbapgaaGreatC00
import Derived.Test.YteembinfgbapgaaGreatC01
import Derived.OrdersHeld
import Derived.Deep.RegionHeld
import Derived.Laws.RangeAny
import Derived.Lib.Hide
set_option linter.unusedSimpArgs false
set_option linter.unusedVariables false
set_option maxRecDepth 100000
set_option maxHeartbeats 8000000
namespace Go.Proofs.YteembinfgbapgaaGreat
section
open Go.RowKit
section
variable {P:Program} {ops:Array Oper} {Q:Exit→Act→World→Prop} {md:Region.Mode} {S:World→Prop}
def Gives (P:Program) (S:World→Prop) (m:Sem Next) (v:Value):Prop:=
 ∀w,S w→(∃w1,m.run P w=.ok (.value v) w1∧S w1)∨(∃f args w1,m.run P w=.ok (.enter f args) w1∧Calls P f args w1 fun e w'=>e=.returned v∧S w')
def YU (P:Program) (ops:Array Oper) (S:World→Prop) (o:Oper) (v:Value) (a:Act):Prop:=
 (Region.wanted o (yielded ops a.tmps)=true∧Gives P S (execOp a.eval o) v)∨(Region.wanted o (yielded ops a.tmps)=false∧v=undef)
theorem YU.of_same {o:Oper} {v:Value} {a a':Act} (hy:YU P ops S o v a) (he:execOp a'.eval o=execOp a.eval o)
 (hw:Region.wanted o (yielded ops a'.tmps)=Region.wanted o (yielded ops a.tmps)):YU P ops S o v a':=by
 unfold YU at *;rw[he,hw];exact hy
theorem YU.wpOp {i:Nat} {o:Oper} {v:Value} {a:Act} (hi:ops[i]?=some o) (hy:YU P ops S o v a)
 {K:Act→World→Prop} {w:World} (hS:S w) (h:∀w',S w'→K (a.put o.dst v) w'):wpOp P ops Q i K a w:=by
 unfold Go.wpOp
 simp only[hi]
 rcases hy with ⟨hw,hv⟩|⟨hw,rfl⟩
 ·simp only[hw,if_true,Oper.wp]
  refine .inl ?_
  rcases hv w hS with ⟨w1,e,h1⟩|⟨f,args,w1,e,h1⟩
  ·rw[e];exact h _ h1
  ·rw[e];exact h1.mono fun e w' ⟨he,hs⟩=>by subst he;exact h _ hs
 ·simp only[hw,Bool.false_eq_true,if_false];exact h _ hS
def wpAnyU (P:Program) (md:Region.Mode) (ops:Array Oper) (Q:Exit→Act→World→Prop) (S:World→Prop):Nat→Array Bool→Act→Prop
 |0,listed,a=>Region.ready md ops listed=[]∧∀w,S w→Q .normal a w
 |fuel+1,listed,a=>
  (Region.ready md ops listed=[]→∀w,S w→Q .normal a w)∧
  ∀i∈Region.ready md ops listed,∃o v,ops[i]?=some o∧YU P ops S o v a∧wpAnyU P md ops Q S fuel (listed.setIfInBounds i true) (a.put o.dst v)
theorem wpAny_of_U:∀(fuel:Nat) (listed:Array Bool) (a:Act) (w:World),S w→wpAnyU P md ops Q S fuel listed a→wpAny P md ops Q fuel listed a w
 |0,_,_,w,hS,h=>⟨h.1,h.2 w hS⟩
 |fuel+1,_,_,w,hS,h=>⟨fun hr=>h.1 hr w hS,fun i hi=>by
  obtain⟨o,v,ho,hy,hn⟩:=h.2 i hi
  exact hy.wpOp ho hS fun w' hS'=>wpAny_of_U fuel _ _ w' hS' hn⟩
theorem wpAnyU_first {i:Nat} {oi:Oper} {v:Value} (hi:ops[i]?=some oi) (hsel:∀(j:Nat) (o:Oper) cs b,ops[j]?=some o→o.op≠.select cs b):
 ∀(fuel:Nat) (listed:Array Bool) (a:Act),
  (∀j oj,ops[j]?=some oj→j≠i→listed.getD j true=false→(∀e∈oj.after,Region.binds md e=true→e.on≠i)→oi.apart ops oj=true)→
  i∈Region.ready md ops listed→YU P ops S oi v a→
  wpAnyU P md ops Q S fuel (listed.setIfInBounds i true) (a.put oi.dst v)→wpAnyU P md ops Q S (fuel+1) listed a:=by
 intro fuel
 induction fuel with
 |zero=>
  intro listed a _ hr hy H
  refine⟨fun h=>(by rw[h] at hr;cases hr),fun j hj=>?_⟩
  by_cases hji:j=i
  ·subst hji;exact⟨oi,v,hi,hy,H⟩
  ·have:=ready_mono hj hji
   rw[H.1] at this
   cases this
 |succ fuel ih=>
  intro listed a hfree hr hy H
  refine⟨fun h=>(by rw[h] at hr;cases hr),fun j hj=>?_⟩
  by_cases hji:j=i
  ·subst hji;exact⟨oi,v,hi,hy,H⟩
  ·obtain⟨oj,u,hoj,hyj,hn⟩:=H.2 j (ready_mono hj hji)
   obtain⟨hjun,oj',hoj',hall⟩:=mem_ready.1 hj
   obtain rfl:oj'=oj:=by rw[hoj] at hoj';exact(Jj hoj').symm
   have hnot:∀e∈oj'.after,Region.binds md e=true→e.on≠i:=fun e he hb heq=>by
    have h1:=hall e he hb
    have h0:=(mem_ready.1 hr).1
    rw[heq] at h1
    rcases Nat.lt_or_ge i listed.size with h'|h'
    ·simp[h'] at h0 h1;rw[h0] at h1;cases h1
    ·simp[Array.getElem?_eq_none h'] at h1
   have hap:=hfree j oj' hoj hji hjun hnot
   obtain⟨h1,h2,h3⟩:=Oper.apart_spec hap
   have hsj:=fun cs b=>hsel j oj' cs b hoj
   have hsi:=fun cs b=>hsel i oi cs b hi
   refine⟨oj',u,hoj,hyj.of_same (execOp_put oj' hsj a oi.dst v h1).symm (wanted_put oj' a oi.dst v h1).symm,?_⟩
   have hfree':∀k ok,ops[k]?=some ok→k≠i→(listed.setIfInBounds j true).getD k true=false→
    (∀e∈ok.after,Region.binds md e=true→e.on≠i)→oi.apart ops ok=true:=fun k ok hk hki hun hno=>by
    refine hfree k ok hk hki ?_ hno
    by_cases hjk:j=k
    ·subst hjk;exact hjun
    ·rw[getD_set_ne true hjk] at hun;exact hun
   refine ih (listed.setIfInBounds j true) (a.put oj'.dst u) hfree' (ready_mono hr (Ne.symm hji)) (hy.of_same (execOp_put oi hsi a oj'.dst u h3) (wanted_put oi a oj'.dst u h3)) ?_
   rw[Array.setIfInBounds_comm _ _ hji,←Act.put_comm a v u h2]
   exact hn
def upto (n i:Nat):Array Bool:=(List.replicate i true++List.replicate (n - i) false).toArray
def inOrder (md:Region.Mode) (ops:Array Oper):Bool:=
 Region.noSelect ops && (List.range ops.size).all fun i=>Region.free md ops (upto ops.size i) i && (Region.ready md ops (upto ops.size i)).contains i
def RW (P:Program) (ops:Array Oper) (Q:Exit→Act→World→Prop) (S:World→Prop) (rest:List Oper) (i:Nat) (a:Act):Prop:=
 ops.toList.drop i=rest→inOrder .any ops=true→wpAnyU P .any ops Q S (ops.size - i) (upto ops.size i) a
theorem upto_succ (n i:Nat) (h:i<n):(upto n i).setIfInBounds i true=upto n (i+1):=by
 apply Array.ext'
 simp only[upto,Array.toList_setIfInBounds,List.toList_toArray]
 obtain⟨m,hm⟩:∃m,n - i=m+1:=⟨n - i - 1,by omega⟩
 rw[hm,show n - (i+1)=m by omega,List.replicate_succ,List.set_append_right _ _ (by simp)]
 simp[List.replicate_succ',Xj]
theorem RW.take {o:Oper} {rest:List Oper} {v:Value} {i:Nat} {a:Act} (hy:YU P ops S o v a) (h:RW P ops Q S rest (i+1) (a.put o.dst v)):RW P ops Q S (o :: rest) i a:=by
 intro hd hc
 have hlt:i<ops.size:=by
  rcases Nat.lt_or_ge i ops.size with h|h
  ·exact h
  ·rw[List.drop_of_length_le (by simpa using h)] at hd;cases hd
 have hi:ops[i]?=some o:=by
  have:=congrArg List.head? hd
  simpa[List.head?_drop] using this
 have hr:ops.toList.drop (i+1)=rest:=by rw[←List.tail_drop,hd];rfl
 have h1:=h hr hc
 simp only[inOrder,Qy,List.all_eq_true,List.mem_range] at hc
 obtain⟨hs,hall⟩:=hc
 obtain⟨hf,hrd⟩:=hall i hlt
 rw[show ops.size - i=(ops.size - (i+1))+1 by omega]
 refine wpAnyU_first hi (Region.noSelect_spec hs) _ _ a (Region.free_spec hi hf) (by simpa using hrd) hy ?_
 rw[upto_succ _ _ hlt]
 exact h1
theorem RW.val {o:Oper} {rest:List Oper} {v:Value} {i:Nat} {a:Act} (hw:Region.wanted o (yielded ops a.tmps)=true) (hy:∀w,S w→(execOp a.eval o).run P w=.ok (.value v) w)
 (h:RW P ops Q S rest (i+1) (a.put o.dst v)):RW P ops Q S (o :: rest) i a:=RW.take (.inl ⟨hw,fun w hS=>.inl ⟨w,hy w hS,hS⟩⟩) h
theorem RW.off {o:Oper} {rest:List Oper} {i:Nat} {a:Act} (hw:Region.wanted o (yielded ops a.tmps)=false)
 (h:RW P ops Q S rest (i+1) (a.put o.dst undef)):RW P ops Q S (o :: rest) i a:=RW.take (.inr ⟨hw,rfl⟩) h
theorem RW.call {o:Oper} {rest:List Oper} {v:Value} {f:FuncId} {args:Array Value} {i:Nat} {a:Act} (hw:Region.wanted o (yielded ops a.tmps)=true) (he:∀w,S w→(execOp a.eval o).run P w=.ok (.enter f args) w)
 (hc:∀w,S w→Calls P f args w fun e w'=>e=.returned v∧S w') (h:RW P ops Q S rest (i+1) (a.put o.dst v)):RW P ops Q S (o :: rest) i a:=
 RW.take (.inl ⟨hw,fun w hS=>.inr ⟨f,args,w,he w hS,hc w hS⟩⟩) h
theorem RW.done {i:Nat} {a:Act} (h:∀w,S w→Q .normal a w):RW P ops Q S [] i a:=by
 intro hd _
 have hge:ops.size≤i:=by simpa using List.drop_eq_nil_iff.1 hd
 rw[show ops.size - i=0 by omega]
 refine⟨?_,h⟩
 unfold Region.ready
 rw[List.filter_eq_nil_iff]
 intro j hj
 have hj':j<ops.size:=by simpa using hj
 simp only[upto]
 rw[show ops.size - i=0 by omega]
 simp[List.getElem?_replicate,show j<i by omega,Array.getElem?_eq_getElem hj']
theorem RW.start (S:World→Prop) {id:Nat} {l:List Oper} {a:Act} {w:World} (hm:P.follows .mixedOrders=true) (hc:inOrder .any l.toArray=true) (hS:S w.drew)
 (h:RW P l.toArray Q S l 0 a):(Code.region id l.toArray true).wp P Q a w:=by
 refine wp_region_any hm (wpAny_of_U _ _ _ _ hS ?_)
 have:=h (by simp) hc
 simpa[upto] using this
end
def FBox (w:World) (b:Nat) (s:ByteArray) (k l:Int):Prop:=w.cell? ⟨b,0,none⟩=some (.string s)∧w.cell? ⟨b,1,none⟩=some (.int .i64 k)∧w.cell? ⟨b,2,none⟩=some (.int .i64 l)
def VBox (w:World) (b:Nat) (k x:Int) (t:ByteArray):Prop:=w.cell? ⟨b,0,none⟩=some (.int .i64 k)∧w.cell? ⟨b,1,none⟩=some (.int .u64 x)∧w.cell? ⟨b,2,none⟩=some (.string t)
theorem FBox.below {w w1:World} {b:Nat} {s:ByteArray} {k l:Int} (h:FBox w b s k l) (hb:Below w.heap.size w w1):FBox w1 b s k l:=⟨cell_below (B:=0) hb h.1,cell_below (B:=0) hb h.2.1,cell_below (B:=0) hb h.2.2⟩
theorem VBox.below {w w1:World} {b:Nat} {k x:Int} {t:ByteArray} (h:VBox w b k x t) (hb:Below w.heap.size w w1):VBox w1 b k x t:=⟨cell_below (B:=0) hb h.1,cell_below (B:=0) hb h.2.1,cell_below (B:=0) hb h.2.2⟩
theorem FBox.new (w:World) (s:ByteArray) (k l:Int):FBox (w.alloc (.cells #[.string s,.int .i64 k,.int .i64 l] 68)) w.heap.size s k l:=⟨cell_new _ _ _ _ _ rfl,cell_new _ _ _ _ _ rfl,cell_new _ _ _ _ _ rfl⟩
theorem VBox.new (w:World) (k x:Int) (t:ByteArray):VBox (w.alloc (.cells #[.int .i64 k,.int .u64 x,.string t] 71)) w.heap.size k x t:=⟨cell_new _ _ _ _ _ rfl,cell_new _ _ _ _ _ rfl,cell_new _ _ _ _ _ rfl⟩
theorem FBox.alloc {w:World} {b:Nat} {s:ByteArray} {k l:Int} (h:FBox w b s k l) (o:Obj):FBox (w.alloc o) b s k l:=h.below (below_new o)
theorem VBox.alloc {w:World} {b:Nat} {k x:Int} {t:ByteArray} (h:VBox w b k x t) (o:Obj):VBox (w.alloc o) b k x t:=h.below (below_new o)
def mayB (k l:Int):Bool:=if k=12 then btw 1 l 64 else decide (0<sizeZ k) && decide (l=0)
def longZ (k l:Int):Int:=if mayB k l=true then(if k=12 then l else sizeZ k) else 0
theorem may_calls (s:ByteArray) (k l:Int) (w:World):Calls Tryz.prog 127 #[.agg #[.string s,.int .i64 k,.int .i64 l]] w fun e w'=>e=.returned (.bool (mayB k l))∧Below w.heap.size w w':=by
 by_cases hk:k=12
 ·subst hk
  go_enter Tryz.func127,Tryz.ntmps127
  go_wp2
  all_goals
   go_ret
   exact⟨ret_bool (by rw[Qx];simp[mayB,btw];try omega),below_new _⟩
 ·go_enter Tryz.func127,Tryz.ntmps127
  go_wp2_with (go_at_call 128;refine(Size_calls _ _).mono ?_;rintro e w' ⟨rfl,rfl⟩)
  all_goals
   go_ret
   exact⟨ret_bool (by rw[Qx];simp[mayB,hk];try omega),below_new _⟩
theorem Long_calls (s:ByteArray) (k l:Int) (w:World):Calls Tryz.prog 89 #[.agg #[.string s,.int .i64 k,.int .i64 l]] w fun e w'=>e=.returned (.int .i64 (longZ k l))∧Below w.heap.size w w':=by
 by_cases hm:mayB k l=true
 ·have hkk:k=12∨¬k=12:=by omega
  rcases hkk with rfl|hk
  all_goals
   go_enter Tryz.func89,Tryz.ntmps89
   go_wp2_with (first|(go_at_call 128;refine(Size_calls _ _).mono ?_;rintro e w' ⟨rfl,rfl⟩)|(go_at_call 127;refine(may_calls _ _ _ _).mono ?_;rintro e w1 ⟨rfl,hb⟩;obtain⟨hc,hf⟩:=bcell hb))
   go_ret
   exact⟨ret_int (by simp[longZ, *]),below_seq (below_new _) hb⟩
 ·rw[Bool.not_eq_true] at hm
  go_enter Tryz.func89,Tryz.ntmps89
  go_wp2_with (first|(go_at_call 127;refine(may_calls _ _ _ _).mono ?_;rintro e w1 ⟨rfl,hb⟩;obtain⟨hc,hf⟩:=bcell hb))
  go_ret
  exact⟨ret_int (by simp[longZ,hm]),below_seq (below_new _) hb⟩
theorem Fits_is (n width:Int) (s:Bool) (h0:0≤n) (h1:n<18446744073709551616) (r:Bool) (h:fitsB n width s=r) (w:World):Calls Tryz.prog 131 #[.int .u64 n,.int .i64 width,.bool s] w fun e w'=>e=.returned (.bool r)∧w=w':=h▸Fits_calls n width s h0 h1 w
def fitB (bits k l:Int):Bool:=if k=12 then decide (bits=0) else if k=9 then decide (bits≤1) else fitsB bits (longZ k l) (btw 5 k 8) || decide (k=10) || decide (k=11)
theorem fits_calls (pf pv:Nat) (s:ByteArray) (k l bits:Int) (h0:0≤bits) (h1:bits<18446744073709551616) (w:World) (c0:w.cell? ⟨pf,0,none⟩=some (.string s)) (c1:w.cell? ⟨pf,1,none⟩=some (.int .i64 k)) (c2:w.cell? ⟨pf,2,none⟩=some (.int .i64 l))
 (d1:w.cell? ⟨pv,1,none⟩=some (.int .u64 bits)):
 Calls Tryz.prog 132 #[.pointer (some ⟨pf,0,none⟩),.pointer (some ⟨pv,0,none⟩)] w fun e w'=>e=.returned (.bool (fitB bits k l))∧Below w.heap.size w w':=by
 by_cases hk:k=12
 ·subst hk
  go_enter Tryz.func132,Tryz.ntmps132
  go_wp2
  go_ret
  exact⟨ret_bool (by rw[Qx];simp[fitB]),Jy _ _⟩
 ·by_cases hk9:k=9
  ·subst hk9
   go_enter Tryz.func132,Tryz.ntmps132
   go_wp2
   go_ret
   exact⟨ret_bool (by rw[Qx];simp[fitB]),Jy _ _⟩
  ·have hk12':(k == 12)=false:=by simpa using hk
   have hk9':(k == 9)=false:=by simpa using hk9
   have f0:=blk_lt_of c0
   have f1:=blk_lt_of d1
   obtain⟨r,hr⟩:∃r,fitsB bits (longZ k l) (btw 5 k 8)=r:=⟨_,rfl⟩
   obtain⟨q,hq⟩:∃q,(k == 10)=q:=⟨_,rfl⟩
   have H:=J0 hr
   clear hr
   cases r <;> cases q
   all_goals
    go_enter Tryz.func132,Tryz.ntmps132
    go_wp2
    refine RW.start (fun w'=>Below w.heap.size w w'∧w'.cell? ⟨pf,0,none⟩=some (.string s)∧w'.cell? ⟨pf,1,none⟩=some (.int .i64 k)∧w'.cell? ⟨pf,2,none⟩=some (.int .i64 l)∧w'.cell? ⟨pv,1,none⟩=some (.int .u64 bits)) (by kernel_rfl) (by kernel_rfl) ⟨(Jy _ _).drew,c0,c1,c2,d1⟩ ?_
    clear c0 c1 c2 d1
    repeat (first
     |(refine' RW.val (by rfl) ?_ ?_;rotate_left;(focus (intro w' hS;obtain⟨hB,c0,c1,c2,d1⟩:=hS;go_simp;rfl));simp only[Act.put,J1,J3,J2])
     |(refine RW.off (by rfl) ?_;simp only[Act.put,J1,J3,J2])
     |(refine' RW.call (by rfl) ?_ ?_ ?_
       rotate_left 3
       (focus (intro w' hS;obtain⟨hB,c0,c1,c2,d1⟩:=hS;go_simp;exact⟨rfl,rfl⟩))
       (focus
         intro w' hS
         obtain⟨hB,c0,c1,c2,d1⟩:=hS
         first
          |(refine(Long_calls _ _ _ _).mono ?_;rintro e w1 ⟨rfl,hb⟩;exact⟨rfl,⟨(below_seq hB hb),(cell_below (B:=0) hb c0),(cell_below (B:=0) hb c1),(cell_below (B:=0) hb c2),(cell_below (B:=0) hb d1)⟩⟩)
          |(refine(signed_calls _ _).mono ?_;rintro e w1 ⟨rfl,rfl⟩;exact⟨rfl,hB,c0,c1,c2,d1⟩)
          |(refine(Fits_is _ _ _ h0 h1 _ H.out _).mono ?_;rintro e w1 ⟨rfl,rfl⟩;exact⟨rfl,hB,c0,c1,c2,d1⟩))
       simp only[Act.put,J1,J3,J2]))
    refine RW.done (fun w' hS=>?_)
    obtain⟨hB,c0,c1,c2,d1⟩:=hS
    go_wp2
    go_ret
    refine⟨ret_bool ?_,hB⟩
    rw[fitB,if_neg hk,if_neg hk9,H.out,Qx]
    simp at hq
    simp[hq]
structure Fd where
 s:ByteArray
 k:Int
 l:Int
def Fd.v (f:Fd):Value:=.agg #[.string f.s,.int .i64 f.k,.int .i64 f.l]
def cellsF (fs:List Fd):List Value:=fs.flatMap fun f=>[.string f.s,.int .i64 f.k,.int .i64 f.l]
theorem cellsF_length (fs:List Fd):(cellsF fs).length=3 * fs.length:=by
 induction fs with
 |nil=>rfl
 |cons f r ih=>simp only[cellsF,List.flatMap_cons,Qz,Xx,List.length_nil] at *;omega
theorem cellsF_get (fs:List Fd) (i:Nat) (f:Fd) (h:fs[i]?=some f):(cellsF fs)[i * 3]?=some (.string f.s)∧(cellsF fs)[i * 3+1]?=some (.int .i64 f.k)∧(cellsF fs)[i * 3+2]?=some (.int .i64 f.l):=by
 induction fs generalizing i with
 |nil=>simp at h
 |cons g r ih=>
  cases i with
  |zero=>
   simp at h
   subst h
   exact⟨rfl,rfl,rfl⟩
  |succ i=>
   have:=ih i (by simpa using h)
   rw[cellsF,List.flatMap_cons]
   refine⟨?_,?_,?_⟩
   ·rw[show (i+1) * 3=i * 3+3 by omega,Q8 (by simp)];simpa[cellsF] using this.1
   ·rw[show (i+1) * 3+1=i * 3+1+3 by omega,Q8 (by simp)];simpa[cellsF] using this.2.1
   ·rw[show (i+1) * 3+2=i * 3+2+3 by omega,Q8 (by simp)];simpa[cellsF] using this.2.2
def upN (at_ n:Nat):Nat:=(at_+n - 1) / n * n
theorem up_calls (at_ n:Nat) (hn:0<n) (h:at_+n≤4611686018427387904) (w:World):Calls Tryz.prog 105 #[.int .i64 at_,.int .i64 n] w fun e w'=>e=.returned (.int .i64 (upN at_ n))∧w=w':=by
 have hz:((n:Int) == 0)=false:=by simp;omega
 have hq:(at_+n - 1) / n * n≤at_+n - 1:=Nat.div_mul_le_self _ _
 have hd:(at_+n - 1) / n≤at_+n - 1:=Nat.div_le_self _ _
 go_enter Tryz.func105,Tryz.ntmps105
 go_wp2
 go_ret
 refine⟨ret_int ?_,rfl⟩
 have e:((at_:Int)+n - 1) / n * n=((upN at_ n:Nat):Int):=by
  unfold upN
  rw[Int.natCast_mul,Int.natCast_ediv,show((at_+n - 1:Nat):Int)=at_+n - 1 by omega]
 have hb:upN at_ n≤at_+n - 1:=hq
 show wrap64 _=_
 rw[e]
 generalize upN at_ n=u at *
 clear e hd hz
 first|(unfold wrap64;omega)|(simp[wrap64];omega)
def findZ:List Fd→ByteArray→Int
 |[],_=>-1
 |f :: r,nm=>if f.s=nm then 0 else if findZ r nm<0 then -1 else findZ r nm+1
theorem findZ_ge (fs:List Fd) (nm:ByteArray):-1≤findZ fs nm∧findZ fs nm<fs.length:=by
 induction fs with
 |nil=>simp[findZ]
 |cons f r ih=>simp only[findZ,Xx];split <;> (try split) <;> omega
theorem findZ_at (fs:List Fd) (nm:ByteArray) (k:Nat) (f:Fd) (hk:fs[k]?=some f) (h:f.s=nm) (hb:∀(j:Nat) (g:Fd),j<k→fs[j]?=some g→g.s≠nm):findZ fs nm=k:=by
 induction fs generalizing k with
 |nil=>simp at hk
 |cons g r ih=>
  cases k with
  |zero=>
   simp at hk
   subst hk
   simp[findZ,h]
  |succ k=>
   have h0:=hb 0 g (by omega) rfl
   have:=ih k (by simpa using hk) (fun j g' hj hg=>hb (j+1) g' (by omega) (by simpa using hg))
   rw[findZ,if_neg h0,this,if_neg (by omega)];omega
theorem findZ_none (fs:List Fd) (nm:ByteArray) (hb:∀(j:Nat) (g:Fd),fs[j]?=some g→g.s≠nm):findZ fs nm=-1:=by
 induction fs with
 |nil=>rfl
 |cons g r ih=>
  have h0:=hb 0 g rfl
  rw[findZ,if_neg h0,ih (fun j g' hg=>hb (j+1) g' (by simpa using hg)),if_pos (by omega)]
theorem Rd.at {w:World} {A:Option Addr} {cs:List Value} (h:Rd w A cs) {j:Nat} {u:Value} (hj:cs[j]?=some u):∃ad,A=some ad∧w.cell? (ad.add j)=some u:=by
 obtain⟨ad,e,hc⟩:=h (by intro hn;subst hn;simp at hj)
 exact⟨ad,e,hc j u hj⟩
theorem rFind_calls (A:Option Addr) (c:Nat) (fs:List Fd) (nm:ByteArray) (w:World) (hA:Rd w A (cellsF fs)) (hl:fs.length≤9223372036854775807):
 Calls Tryz.prog 114 #[.slice A fs.length c,.string nm] w fun e w'=>e=.returned (.int .i64 (findZ fs nm))∧w=w':=by
 obtain⟨r,hr⟩:∃r,findZ fs nm=r:=⟨_,rfl⟩
 rw[hr]
 go_enter Tryz.func114,Tryz.ntmps114
 go_wp2
 go_loop [5] (fun i=>∃k:Nat,k≤fs.length∧i=.int .i64 k∧∀(j:Nat) (g:Fd),j<k→fs[j]?=some g→g.s≠nm) (fun i=>fs.length - (intOf i).toNat)
 case atStart=>exact⟨0,by omega,rfl,fun j g h=>by omega⟩
 case round=>
  obtain⟨k,hk,rfl,hb⟩:=hrel
  by_cases hlt:k<fs.length
  ·obtain⟨f,hf⟩:∃f,fs[k]?=some f:=⟨_,J4 hlt⟩
   obtain⟨ad,rfl,hcell⟩:=hA.at (cellsF_get fs k f hf).1
   have hz:=findZ_at fs nm k f hf
   by_cases he:f.s=nm
   ·obtain rfl:(k:Int)=r:=(hz he hb).symm.trans hr
    subst he
    have ht:(f.s.toList == f.s.toList)=true:=by simp
    clear hb hz hr
    go_wp2
    go_ret
    exact⟨rfl,rfl⟩
   ·have ht:(f.s.toList == nm.toList)=false:=by
     simp only[ByteArray.toList_eq,beq_eq_false_iff_ne,ne_eq]
     intro h
     apply he
     have:f.s.data=nm.data:=Array.toList_inj.1 h
     cases hfs:f.s;cases nm;simp_all
    have hb':∀(j:Nat) (g:Fd),j<k+1→fs[j]?=some g→g.s≠nm:=fun j g hj hg=>by
     rcases(by omega:j<k∨j=k) with h|rfl
     ·exact hb j g h hg
     ·rw[hf] at hg;cases hg;exact he
    clear hb hz hr
    go_wp2
    go_round
    case rel=>exact⟨k+1,by omega,by go_num,hb'⟩
    case measure=>simp[intOf];omega
  ·obtain rfl:k=fs.length:=by omega
   have:findZ fs nm=-1:=findZ_none fs nm fun j g hg=>hb j g (by have:=J6.1 hg;exact this.1) hg
   obtain rfl:-1=r:=this.symm.trans hr
   clear hb
   go_wp2
   go_ret
   exact⟨rfl,rfl⟩
theorem add_part (a:Addr) (m n:Nat):a.add (m+(n+1))=⟨(a.add m).block,(a.add m).off+(n+1),none⟩:=by
 rw[←Addr.add_add,Addr.add_succ']
theorem name_beq (a b:ByteArray):(a.toList == b.toList)=decide (a=b):=by
 rw[Qx]
 simp only[ByteArray.toList_eq,beq_iff_eq,decide_eq_true_eq]
 constructor
 ·intro h
  have:a.data=b.data:=Array.toList_inj.1 h
  cases a;cases b;simp_all
 ·intro h;rw[h]
theorem Find1_calls (b:Nat) (s:ByteArray) (k l:Int) (nm:ByteArray) (w:World) (hc:w.cell? ⟨b,0,none⟩=some (.string nm)):
 Calls Tryz.prog 134 #[.agg #[.string s,.int .i64 k,.int .i64 l],.pointer (some ⟨b,0,none⟩)] w fun e w'=>e=.returned (.bool (s.toList == nm.toList))∧Below w.heap.size w w':=by
 have hb:b<w.heap.size:=blk_lt_of hc
 go_enter Tryz.func134,Tryz.ntmps134
 go_wp2
 go_ret
 exact⟨rfl,below_new _⟩
theorem IndexFunc_calls (A:Option Addr) (c:Nat) (fs:List Fd) (b:Nat) (nm:ByteArray) (w:World) (hA:Rd w A (cellsF fs)) (hl:fs.length≤9223372036854775807) (hc:w.cell? ⟨b,0,none⟩=some (.string nm)):
 Calls Tryz.prog 133 #[.slice A fs.length c,.func (.func 134) #[] #[.pointer (some ⟨b,0,none⟩)]] w fun e w'=>e=.returned (.int .i64 (findZ fs nm))∧Below w.heap.size w w':=by
 obtain⟨r,hr⟩:∃r,findZ fs nm=r:=⟨_,rfl⟩
 rw[hr]
 go_enter Tryz.func133,Tryz.ntmps133
 go_wp2
 go_loopw [5,8] (fun x i wr=>∃k:Nat,k≤fs.length∧i=.int .i64 k∧Below w.heap.size w wr∧∀(j:Nat) (g:Fd),j<k→fs[j]?=some g→g.s≠nm) (fun _ i _=>fs.length - (intOf i).toNat)
 case atStart=>exact⟨0,by omega,rfl,Jy _ _,fun j g h=>by omega⟩
 case round=>
  obtain⟨k,hk,rfl,HB,hb⟩:=hrel
  have hAr:=hA.below HB
  have hcr:=cell_below (B:=0) HB hc
  by_cases hlt:k<fs.length
  ·obtain⟨f,hf⟩:∃f,fs[k]?=some f:=⟨_,J4 hlt⟩
   obtain⟨g0,g1,g2⟩:=cellsF_get fs k f hf
   obtain⟨ad,rfl,hcell⟩:=hAr.at g0
   obtain⟨_,e1,hcell1⟩:=hAr.at g1
   obtain⟨_,e2,hcell2⟩:=hAr.at g2
   cases e1;cases e2
   rw[add_part _ _ 0] at hcell1
   rw[add_part _ _ 1] at hcell2
   have hz:=findZ_at fs nm k f hf
   by_cases he:f.s=nm
   ·obtain rfl:(k:Int)=r:=(hz he hb).symm.trans hr
    clear hb hz hr
    go_wp2_with (go_at_call 134;refine(Find1_calls b _ _ _ nm _ hcr).mono ?_;rintro e w1 ⟨rfl,hb1⟩;rw[name_beq,decide_eq_true rfl])
    go_ret
    exact⟨rfl,below_seq HB hb1⟩
   ·have hb':∀(j:Nat) (g:Fd),j<k+1→fs[j]?=some g→g.s≠nm:=fun j g hj hg=>by
     rcases(by omega:j<k∨j=k) with h|rfl
     ·exact hb j g h hg
     ·rw[hf] at hg;cases hg;exact he
    have ht:(f.s.toList == nm.toList)=false:=by rw[name_beq];exact decide_eq_false he
    clear hb hz hr
    go_wp2_with (go_at_call 134;refine(Find1_calls b _ _ _ nm _ hcr).mono ?_;rintro e w1 ⟨rfl,hb1⟩;rw[ht])
    go_roundw
    case rel=>exact⟨k+1,by omega,by go_num,below_seq HB hb1,hb'⟩
    case measure=>simp[intOf];omega
  ·obtain rfl:k=fs.length:=by omega
   have:findZ fs nm=-1:=findZ_none fs nm fun j g hg=>hb j g (by have:=J6.1 hg;exact this.1) hg
   obtain rfl:-1=r:=this.symm.trans hr
   clear hb
   go_wp2
   go_ret
   exact⟨rfl,HB⟩
theorem Find_calls (A:Option Addr) (c:Nat) (fs:List Fd) (nm:ByteArray) (w:World) (hA:Rd w A (cellsF fs)) (hl:fs.length≤9223372036854775807):
 Calls Tryz.prog 96 #[.slice A fs.length c,.string nm] w fun e w'=>e=.returned (.int .i64 (findZ fs nm))∧Below w.heap.size w w':=by
 have hmf:∀(fn:Fn) (first cap:Array Value) (w:World),(Instr.makeFunc fn first cap).run Tryz.prog w=.ok (.func fn first cap) w:=fun _ _ _ _=>rfl
 have HB:Below w.heap.size w (w.alloc (.cells #[.string nm] 9)):=below_new _
 go_enter Tryz.func96,Tryz.ntmps96
 go_wp2_with (go_at_call 133;refine(IndexFunc_calls A c fs w.heap.size nm _ (hA.below HB) hl (cell_new _ _ _ _ _ rfl)).mono ?_;rintro e w1 ⟨rfl,hb⟩)
 go_ret
 exact⟨rfl,below_seq HB hb⟩
def signB (i b:Nat):Bool:=decide (97≤b∧b≤122) || (decide (i≠0) && decide ((48≤b∧b≤57)∨b=95))
def nameB (s:ByteArray):Bool:=decide (∀i,∀h:i<s.size,signB i (s[i]'h).toNat=true) && decide (1≤s.size∧s.size≤15)
theorem nameB_bad {s:ByteArray} {i:Nat} (h:i<s.size) (hb:signB i (s[i]'h).toNat=false):nameB s=false:=by
 rw[nameB,decide_eq_false,Bool.false_and]
 intro ha
 have:=ha i h
 rw[hb] at this;cases this
theorem rune_at (s:ByteArray) (pos:Nat) (h:pos<s.size):((s[pos]'h).toNat<128∧Utf8.decode s pos=((s[pos]'h).toNat,1))∨(128≤(s[pos]'h).toNat∧128≤(Utf8.decode s pos).1∧1≤(Utf8.decode s pos).2):=by
 by_cases ha:(s[pos]'h).toNat<128
 ·exact .inl ⟨ha,decode_ascii s pos h ha⟩
 ·exact .inr ⟨by omega,decode_high s pos h (by omega)⟩
theorem rune_sign (s:ByteArray) (pos:Nat) (h:pos<s.size):∃y wd,Utf8.decode s pos=(y,wd)∧signB pos (s[pos]'h).toNat=signB pos y∧1≤wd∧(signB pos y=true→wd=1):=by
 rcases rune_at s pos h with ⟨ha,hd⟩|⟨ha,hd1,hd2⟩
 ·exact⟨_,_,hd,rfl,J9 _,fun _=>rfl⟩
 ·have big:∀z,128≤z→signB pos z=false:=fun z hz=>by
   unfold signB
   rw[decide_eq_false (by omega),Bool.false_or,decide_eq_false (p:=(48≤z∧z≤57)∨z=95) (by omega),Bool.and_false]
  generalize Utf8.decode s pos=p at hd1 hd2 ⊢
  obtain⟨y,wd⟩:=p
  exact⟨y,wd,rfl,(big _ ha).trans (big y hd1).symm,hd2,fun h=>by rw[big y hd1] at h;cases h⟩
theorem sign_ways (y pos:Nat):
 (signB pos y=true∧decide (97≤(y:Int))=true∧decide ((y:Int)≤122)=true)
 ∨(signB pos y=false∧decide (97≤(y:Int))=false∧((pos:Int) == 0)=true)
 ∨(signB pos y=false∧decide (97≤(y:Int))=true∧decide ((y:Int)≤122)=false∧((pos:Int) == 0)=true)
 ∨(signB pos y=true∧decide (97≤(y:Int))=false∧((pos:Int) == 0)=false∧decide ((y:Int)<48)=false∧decide (57<(y:Int))=false)
 ∨(signB pos y=false∧decide (97≤(y:Int))=false∧((pos:Int) == 0)=false∧decide ((y:Int)<48)=true∧((y:Int) != 95)=true)
 ∨(signB pos y=false∧decide (97≤(y:Int))=false∧((pos:Int) == 0)=false∧decide ((y:Int)<48)=false∧decide (57<(y:Int))=true∧((y:Int) != 95)=true)
 ∨(signB pos y=true∧decide (97≤(y:Int))=false∧((pos:Int) == 0)=false∧decide ((y:Int)<48)=false∧decide (57<(y:Int))=true∧((y:Int) != 95)=false)
 ∨(signB pos y=false∧decide (97≤(y:Int))=true∧decide ((y:Int)≤122)=false∧((pos:Int) == 0)=false∧decide ((y:Int)<48)=false∧decide (57<(y:Int))=true∧((y:Int) != 95)=true):=by
 have e1:decide (97≤(y:Int))=decide (97≤y):=by rw[Qx];simp;omega
 have e2:decide ((y:Int)≤122)=decide (y≤122):=by rw[Qx];simp;omega
 have e3:((pos:Int) == 0)=decide (pos=0):=by rw[Qx];simp
 have e4:decide ((y:Int)<48)=decide (y<48):=by rw[Qx];simp;omega
 have e5:decide (57<(y:Int))=decide (57<y):=by rw[Qx];simp;omega
 have e6:((y:Int) != 95)=!decide (y=95):=by rw[Qx];simp;omega
 have e0:signB pos y=((decide (97≤y) && decide (y≤122)) || (!decide (pos=0) && ((!decide (y<48) && !decide (57<y)) || decide (y=95)))):=by
  rw[Qx];simp[signB]
 rw[e0,e1,e2,e3,e4,e5,e6]
 have i1:decide (97≤y)=false→decide (y≤122)=true:=by simp;omega
 have i2:decide (97≤y)=true→decide (y<48)=false∧decide (57<y)=true∧decide (y=95)=false:=by simp;omega
 have i3:decide (y<48)=true→decide (57<y)=false∧decide (y=95)=false:=by simp;omega
 have i4:decide (57<y)=false→decide (y=95)=false:=by simp;omega
 generalize decide (97≤y)=A at *
 generalize decide (y≤122)=B at *
 generalize decide (pos=0)=C at *
 generalize decide (y<48)=D at *
 generalize decide (57<y)=E at *
 generalize decide (y=95)=F at *
 clear e0 e1 e2 e3 e4 e5 e6
 revert i1 i2 i3 i4
 cases A <;> cases B <;> cases C <;> cases D <;> cases E <;> cases F <;> decide
theorem Name_calls (s:ByteArray) (w:World):Calls Tryz.prog 50 #[.string s] w fun e w'=>e=.returned (.bool (nameB s))∧Below w.heap.size w w':=by
 obtain⟨r,hr⟩:∃r,nameB s=r:=⟨_,rfl⟩
 rw[hr]
 go_enter Tryz.func50,Tryz.ntmps50
 go_wp2
 go_loopw [3,4,5] (fun _ _ _ w'=>∃pos:Nat,w'=w.iter s pos∧pos≤s.size∧∀i,∀h:i<s.size,i<pos→signB i (s[i]'h).toNat=true) (fun _ _ _ w'=>s.size - w'.iterPos w.heap.size)
 case atStart=>exact⟨0,rfl,by omega,fun i h h0=>by omega⟩
 case round=>
  obtain⟨pos,rfl,hle,hall⟩:=hrel
  by_cases hp:pos<s.size
  ·have hnx:∀ty,(Instr.next (.pointer (some ⟨w.heap.size,0,none⟩)) true ty).run Tryz.prog (w.iter s pos)=_:=fun ty=>run_next_any w s pos ty hp
   obtain⟨y,wd,hd,hsy,hwd,hw1⟩:=rune_sign s pos hp
   rw[hd] at hnx
   have hbad:=fun h=>(hr.symm.trans (nameB_bad hp (hsy.trans h)):r=false)
   have hok:signB pos y=true→∀i,∀h:i<s.size,i<pos+wd→signB i (s[i]'h).toNat=true:=fun h i hi hlt=>by
    have:=hw1 h
    rcases(by omega:i<pos∨i=pos) with h2|rfl
    ·exact hall i hi h2
    ·exact hsy.trans h
   have hle2:signB pos y=true→pos+wd≤s.size:=fun h=>by have:=hw1 h;omega
   clear hall hr hsy hd hw1
   rcases sign_ways y pos with ⟨hs,h1,h2⟩|⟨hs,h1,h2⟩|⟨hs,h1,h2,h3⟩|⟨hs,h1,h2,h3,h4⟩|⟨hs,h1,h2,h3,h4⟩|⟨hs,h1,h2,h3,h4,h5⟩|⟨hs,h1,h2,h3,h4,h5⟩|⟨hs,h1,h2,h3,h4,h5,h6⟩
   ·have hok:=hok hs
    have hle2:=hle2 hs
    clear hbad hs
    go_wp2
    go_roundw
    case rel=>exact⟨pos+wd,rfl,hle2,hok⟩
    case measure=>simp;omega
   ·obtain rfl:=hbad hs
    clear hok hle2 hs hbad
    go_wp2
    go_ret
    exact⟨rfl,below_new _⟩
   ·obtain rfl:=hbad hs
    clear hok hle2 hs hbad
    go_wp2
    go_ret
    exact⟨rfl,below_new _⟩
   ·have hok:=hok hs
    have hle2:=hle2 hs
    clear hbad hs
    go_wp2
    go_roundw
    case rel=>exact⟨pos+wd,rfl,hle2,hok⟩
    case measure=>simp;omega
   ·obtain rfl:=hbad hs
    clear hok hle2 hs hbad
    go_wp2
    go_ret
    exact⟨rfl,below_new _⟩
   ·obtain rfl:=hbad hs
    clear hok hle2 hs hbad
    go_wp2
    go_ret
    exact⟨rfl,below_new _⟩
   ·have hok:=hok hs
    have hle2:=hle2 hs
    clear hbad hs
    go_wp2
    go_roundw
    case rel=>exact⟨pos+wd,rfl,hle2,hok⟩
    case measure=>simp;omega
   ·obtain rfl:=hbad hs
    clear hok hle2 hs hbad
    go_wp2
    go_ret
    exact⟨rfl,below_new _⟩
  ·have hnx:∀ty,(Instr.next (.pointer (some ⟨w.heap.size,0,none⟩)) true ty).run Tryz.prog (w.iter s pos)=_:=fun ty=>run_next_end w s pos ty hp
   obtain rfl:pos=s.size:=by omega
   have hn:nameB s=decide (1≤s.size∧s.size≤15):=by rw[nameB,decide_eq_true (fun i h=>hall i h h),Bool.true_and]
   rw[hr] at hn
   clear hall hr
   go_wp2
   all_goals
    go_ret
    refine⟨ret_bool ?_,below_new _⟩
    subst hn
    rw[Qx]
    simp at *
    omega
def signL:List UInt8:=[97,98,99,100,101,102,103,104,105,106,107,108,109,110,111,112,113,114,115,116,117,118,119,120,121,122,48,49,50,51,52,53,54,55,56,57,95]
def atN (c:UInt8):Nat→Int
 |0=>-1
 |k+1=>if signL.getD k 0=c then k else atN c k
theorem sign_all:∀n:Fin 256,∀b:Bool,(decide (atN (UInt8.ofNat n.val) 37<0) || (b && decide (25<atN (UInt8.ofNat n.val) 37)))=!signB (if b then 0 else 1) n.val:=by decide +kernel
theorem sign_at (c:UInt8) (i:Nat):(decide (atN c 37<0) || (decide (i=0) && decide (25<atN c 37)))=!signB i c.toNat:=by
 have h:=sign_all ⟨c.toNat,c.toNat_lt⟩ (decide (i=0))
 simp only[UInt8.ofNat_toNat] at h
 rw[h]
 by_cases hi:i=0
 ·subst hi;rfl
 ·simp[signB,hi]
theorem signL_get (k:Nat) (h:k<(⟨signL.toArray⟩:ByteArray).size):(⟨signL.toArray⟩:ByteArray)[k]'h=signL.getD k 0:=by
 have h':k<signL.length:=h
 rw[List.getD_eq_getElem?_getD,J4 h']
 rfl
theorem rName_calls (s:ByteArray) (hs:s.size≤9223372036854775807) (w:World):Calls Tryz.prog 57 #[.string s] w fun e w'=>e=.returned (.bool (nameB s))∧Below w.heap.size w w':=by
 obtain⟨r,hr⟩:∃r,nameB s=r:=⟨_,rfl⟩
 rw[hr]
 have HR:=J0 hr
 clear hr
 go_enter Tryz.func57,Tryz.ntmps57
 go_wp2
 generalize hsg:(⟨#[97,98,99,100,101,102,103,104,105,106,107,108,109,110,111,112,113,114,115,116,117,118,119,120,121,122,48,49,50,51,52,53,54,55,56,57,95]⟩:ByteArray)=sg
 have hz:sg.size=37:=by subst hsg;rfl
 have HG:Hid (∀k,∀h:k<sg.size,sg[k]'h=signL.getD k 0):=J0 (by subst hsg;exact fun k h=>signL_get k h)
 clear hsg
 go_loopw [4,5,6] (fun i _ _ wr=>∃k:Nat,k≤s.size∧i=.int .i64 k∧Below w.heap.size w wr∧Hid (∀j,∀h:j<s.size,j<k→signB j (s[j]'h).toNat=true)) (fun i _ _ _=>s.size - (intOf i).toNat)
 case atStart=>exact⟨0,by omega,rfl,Jy _ _,J0 fun j h h0=>by omega⟩
 case round=>
  obtain⟨k,hk,rfl,HB,hall⟩:=hrel
  by_cases hlt:k<s.size
  ·have hsign:=sign_at (s[k]'hlt) k
   obtain⟨c,hc⟩:∃c,s[k]'hlt=c:=⟨_,rfl⟩
   rw[hc] at hsign
   have HC:=J0 hc
   clear hc
   have HS:=J0 hsign
   clear hsign
   go_wp2
   obtain⟨wo,rfl⟩:∃wo:World,wo=wr:=⟨_,rfl⟩
   go_loopw [5,6] (fun q j wr=>∃m:Nat,m≤37∧j=.int .i64 m∧q=.int .i64 (atN c m)∧Below w.heap.size w wr) (fun _ j _=>37 - (intOf j).toNat)
   case atStart=>exact⟨0,by omega,rfl,rfl,HB⟩
   case round=>
    obtain⟨m,hm,rfl,rfl,HB2⟩:=hrel
    by_cases hlm:m<37
    ·have hmz:m<sg.size:=by omega
     go_wp2
     refine RW.start (fun w'=>Below w.heap.size w w') (by kernel_rfl) (by kernel_rfl) HB2.drew ?_
     clear HB2
     repeat (first
      |(refine' RW.val (by rfl) ?_ ?_;rotate_left;(focus (intro w' hS;have HB2:=hS;clear hS;go_simp;rfl));simp only[Act.put,J1,J3,J2])
      |(refine RW.off (by rfl) ?_;simp only[Act.put,J1,J3,J2]))
     refine RW.done (fun w' hS=>?_)
     have HB2:=hS;clear hS
     have hgm:sg[m]'hmz=signL.getD m 0:=HG.out m hmz
     by_cases he:signL.getD m 0=c
     ·have ht:(((sg[m]'hmz).toNat:Int) == ((s[k]'hlt).toNat:Int))=true:=by rw[hgm,HC.out,he];simp
      clear hgm
      go_wp2
      go_roundw
      case rel=>exact⟨m+1,by omega,by go_num,by rw[atN,if_pos he],HB2⟩
      case measure=>simp[intOf];omega
     ·have ht:(((sg[m]'hmz).toNat:Int) == ((s[k]'hlt).toNat:Int))=false:=by
       rw[hgm,HC.out,beq_eq_false_iff_ne]
       intro h
       apply he
       have:=Int.ofNat.inj h
       exact UInt8.toNat_inj.1 this
      clear hgm
      go_wp2
      go_roundw
      case rel=>exact⟨m+1,by omega,by go_num,by rw[atN,if_neg he],HB2⟩
      case measure=>simp[intOf];omega
    ·obtain rfl:m=37:=by omega
     have hall2:signB k c.toNat=true→Hid (∀j,∀h:j<s.size,j<k+1→signB j (s[j]'h).toNat=true):=fun h=>J0 fun j hj hjk=>by
      rcases(by omega:j<k∨j=k) with h2|rfl
      ·exact hall.out j hj h2
      ·rw[HC.out];exact h
     have hbad:signB k c.toNat=false→r=false:=fun h=>HR.out.symm.trans (nameB_bad hlt (by rw[HC.out];exact h))
     obtain⟨A,hA⟩:∃A,decide (atN c 37<0)=A:=⟨_,rfl⟩
     obtain⟨D,hD⟩:∃D,decide (25<atN c 37)=D:=⟨_,rfl⟩
     obtain⟨C,hC⟩:∃C,((k:Int) == 0)=C:=⟨_,rfl⟩
     have hC2:decide (k=0)=C:=by rw[←hC,Qx];simp
     have hs2:=HS.out
     rw[hA,hD,hC2] at hs2
     clear hC2
     obtain⟨q,hq⟩:∃q,atN c 37=q:=⟨_,rfl⟩
     rw[hq] at hA hD ⊢
     clear HC HG hall HS hq
     have hsv:signB k c.toNat=!(A || (C && D)):=by rw[hs2,Bool.not_not]
     clear hs2
     cases A <;> cases C <;> cases D <;> simp only[Bool.false_or,Bool.true_or,Bool.false_and,Bool.true_and,Bool.and_false,Bool.or_false,Bool.and_true,Bool.not_true,Bool.not_false] at hsv
     all_goals first
      |(have hall3:=hall2 hsv
        clear hall2 hbad hsv
        go_wp2
        go_roundw
        case rel=>exact⟨k+1,by omega,by go_num,HB2,hall3⟩
        case measure=>simp[intOf];omega)
      |(obtain rfl:=hbad hsv
        clear hall2 hbad hsv HR
        go_wp2
        go_ret
        exact⟨rfl,HB2⟩)
  ·obtain rfl:k=s.size:=by omega
   have hn:nameB s=decide (1≤s.size∧s.size≤15):=by rw[nameB,decide_eq_true (fun i h=>hall.out i h h),Bool.true_and]
   rw[HR.out] at hn
   have HN:=J0 hn
   clear hn hall HG
   go_wp2
   all_goals
    go_ret
    refine⟨ret_bool ?_,HB⟩
    have hn:=HN.out
    clear HN
    subst hn
    rw[Qx]
    simp only[decide_eq_true_eq,Bool.false_eq_true]
    (first|(constructor <;> intro h <;> omega)|(exact⟨fun h=>h.elim,fun h=>by omega⟩))
end
end Go.Proofs.YteembinfgbapgaaGreat
