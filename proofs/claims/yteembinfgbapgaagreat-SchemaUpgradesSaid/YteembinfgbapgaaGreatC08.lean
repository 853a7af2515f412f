/- Merged out of: Gj Gk Gl. -/
import Derived.Test.YteembinfgbapgaaGreatC00
import Derived.Test.YteembinfgbapgaaGreatC07
import Derived.Deep.RegionWith
import Derived.IntWalk
import Derived.WalkSpells
import Derived.Laws.CopyOwn
set_option linter.unusedSimpArgs false
set_option linter.unusedVariables false
set_option maxRecDepth 100000
set_option maxHeartbeats 8000000
namespace Go.Proofs.YteembinfgbapgaaGreat
section
open Go.RowKit
theorem sizeF_le (fs:List Fd):sizeF fs≤4096:=by
 unfold sizeF
 split
 ·rename_i h
  obtain⟨hm,hl⟩:=rightF_may h
  have:=endF_le (nx:=0) hm
  have:=upN_le (endF 0 fs) 8 (by omega)
  omega
 ·omega
theorem New_calls (A:Option Addr) (c:Nat) (fs:List Fd) (w:World) (hA:Rd w A (cellsF fs)) (hl:fs.length≤9223372036854775807):
 Calls Tryz.prog 73 #[.slice A fs.length c] w fun e w'=>∃v,e=.returned v∧OutB w' v (List.replicate (sizeF fs) 0)∧Below w.heap.size w w':=by
 have hz:=sizeF_le fs
 have hmk:=make_bytes (sizeF fs) (by omega)
 go_enter Tryz.func73,Tryz.ntmps73
 go_wp2_with (go_at_call 70;refine(Layout_calls A c fs _ hA hl).mono ?_;rintro e w1 ⟨v,rfl,ho,hb1⟩)
 go_ret
 exact⟨_,rfl,⟨some ⟨w1.heap.size,0,none⟩,sizeF fs,by simp,by simp,rd_new _ _ _⟩,hb1.alloc hb1.size _⟩
def Fd.z:Fd:=⟨⟨#[]⟩,0,0⟩
theorem Rd.int {w:World} {A:Option Addr} {l:List Nat} (h:Rd w A (intsV l)) {k n:Nat} (hk:l[k]?=some n):∃ad,A=some ad∧w.cell? (ad.add k)=some (.int .i64 n):=by
 have:(intsV l)[k]?=some (.int .i64 n):=by simp[intsV,hk]
 exact h.at this
theorem Layout_is (A:Option Addr) (c:Nat) (fs:List Fd) (z:Nat) (hz:sizeF fs=z) (w:World) (hA:Rd w A (cellsF fs)) (hl:fs.length≤9223372036854775807):
 Calls Tryz.prog 70 #[.slice A fs.length c] w fun e w'=>∃B m c',e=.returned (.tuple #[.slice B m c',.int .i64 (z:Nat)])∧m=(layL fs).length∧Rd w' B (intsV (layL fs))∧Below w.heap.size w w':=by
 subst hz
 refine(Layout_calls A c fs w hA hl).mono ?_
 rintro e w' ⟨v,rfl,ho,hb⟩
 obtain⟨B,c',rfl,_,_,hr⟩:=own_rd ho
 exact⟨B,_,c',rfl,rfl,hr,hb⟩
def OBox (w:World) (b:Nat) (cs:List Value) (T:TypeId):Prop:=w.heap[b]?=some (.cells cs.toArray T (0,0))
theorem OBox.new (w:World) (cs:List Value) (T:TypeId):OBox (w.alloc (.cells cs.toArray T)) w.heap.size cs T:=World.alloc_heap_new w _
theorem OBox.lt {w:World} {b:Nat} {cs:List Value} {T:TypeId} (h:OBox w b cs T):b<w.heap.size:=(Qk.1 h).1
theorem OBox.below {w w1:World} {b:Nat} {cs:List Value} {T:TypeId} (h:OBox w b cs T) (hb:Below w.heap.size w w1):OBox w1 b cs T:=(hb.block b h.lt).trans h
theorem OBox.cell {w:World} {b:Nat} {cs:List Value} {T:TypeId} (h:OBox w b cs T) {j:Nat} {v:Value} (hj:cs[j]?=some v):w.cell? ⟨b,j,none⟩=some v:=by
 simp[World.cell?,show w.heap[b]?=_ from h,hj]
theorem OBox.frz {w:World} {b:Nat} {cs:List Value} {T:TypeId} (h:OBox w b cs T) (j:Nat):w.frozen? ⟨b,j,none⟩=false:=by
 simp[World.frozen?,show w.heap[b]?=_ from h]
theorem OBox.f3 {w:World} {b:Nat} {x y z:Value} {T:TypeId} (h:OBox w b [x,y,z] T):w.cell? ⟨b,0,none⟩=some x∧w.cell? ⟨b,1,none⟩=some y∧w.cell? ⟨b,2,none⟩=some z∧w.frozen? ⟨b,0,none⟩=false∧w.frozen? ⟨b,1,none⟩=false∧w.frozen? ⟨b,2,none⟩=false:=
 ⟨h.cell rfl,h.cell rfl,h.cell rfl,h.frz 0,h.frz 1,h.frz 2⟩
theorem OBox.f1 {w:World} {b:Nat} {x:Value} {T:TypeId} (h:OBox w b [x] T):w.cell? ⟨b,0,none⟩=some x∧w.frozen? ⟨b,0,none⟩=false:=⟨h.cell rfl,h.frz 0⟩
theorem place_form (Ab:Option Addr) (nb cb:Nat) (A:Option Addr) (c:Nat) (fs:List Fd) (nm:ByteArray) (w:World) (hA:Rd w A (cellsF fs)) (hl:fs.length≤9223372036854775807) (h:rightF fs=false∨¬nb=sizeF fs):
 Calls Tryz.prog 106 #[.slice Ab nb cb,.slice A fs.length c,.string nm] w fun e w'=>e=.returned (.tuple #[.int .i64 0,.agg #[.string ⟨#[]⟩,.int .i64 0,.int .i64 0],.int .i64 60])∧Below w.heap.size w w':=by
 obtain⟨z,hz⟩:∃z,sizeF fs=z:=⟨_,rfl⟩
 obtain⟨r,hr⟩:∃r,rightF fs=r:=⟨_,rfl⟩
 rw[hz,hr] at h
 have HZ:=J0 hz
 have HR:=J0 hr
 clear hz hr
 cases r
 ·clear h
  go_enter Tryz.func106,Tryz.ntmps106
  go_wp2_with (first
   |(go_at_call 70;refine(Layout_is A c fs z HZ.out _ (hA.below (below_new _)) hl).mono ?_;rintro e w1 ⟨B,m,c',rfl,hm,hr,hb1⟩;have hA1:=(hA.below (below_new _)).below hb1)
   |(go_at_call 62;refine(FRight_is A c fs _ HR.out _ hA1 hl).mono ?_;rintro e w2 ⟨rfl,hb2⟩;obtain⟨k0,k1,k2,f0,f1,f2⟩:=(((OBox.new w [.string ⟨#[]⟩,.int .i64 0,.int .i64 0] 68).below hb1).below hb2).f3;have HB:=below_seq (below_seq (below_new _) hb1) hb2))
  refine bodyPost_ret (v:=.tuple #[.int .i64 0,.agg #[.string ⟨#[]⟩,.int .i64 0,.int .i64 0],.int .i64 60]) (by simp[results,Tryz.results106,go_sem, *];done) rfl ⟨rfl,?_⟩
  (repeat (first|exact HB|refine J8 ?_ (by dsimp only;omega) _|refine Jk ?_ (by have hs_:=HB.size;first|(simp;done)|(simp;omega)|omega) _|apply Jv))
 ·have hne:((nb:Int) != (z:Int))=true:=by simp at h;simp;omega
  clear h
  go_enter Tryz.func106,Tryz.ntmps106
  go_wp2_with (first
   |(go_at_call 70;refine(Layout_is A c fs z HZ.out _ (hA.below (below_new _)) hl).mono ?_;rintro e w1 ⟨B,m,c',rfl,hm,hr,hb1⟩;have hA1:=(hA.below (below_new _)).below hb1)
   |(go_at_call 62;refine(FRight_is A c fs _ HR.out _ hA1 hl).mono ?_;rintro e w2 ⟨rfl,hb2⟩;obtain⟨k0,k1,k2,f0,f1,f2⟩:=(((OBox.new w [.string ⟨#[]⟩,.int .i64 0,.int .i64 0] 68).below hb1).below hb2).f3;have HB:=below_seq (below_seq (below_new _) hb1) hb2))
  refine bodyPost_ret (v:=.tuple #[.int .i64 0,.agg #[.string ⟨#[]⟩,.int .i64 0,.int .i64 0],.int .i64 60]) (by simp[results,Tryz.results106,go_sem, *];done) rfl ⟨rfl,?_⟩
  (repeat (first|exact HB|refine J8 ?_ (by dsimp only;omega) _|refine Jk ?_ (by have hs_:=HB.size;first|(simp;done)|(simp;omega)|omega) _|apply Jv))
theorem place_none (Ab:Option Addr) (nb cb:Nat) (A:Option Addr) (c:Nat) (fs:List Fd) (nm:ByteArray) (w:World) (hA:Rd w A (cellsF fs)) (hl:fs.length≤9223372036854775807) (h:rightF fs=true) (hn:nb=sizeF fs) (hk:findZ fs nm<0):
 Calls Tryz.prog 106 #[.slice Ab nb cb,.slice A fs.length c,.string nm] w fun e w'=>e=.returned (.tuple #[.int .i64 0,.agg #[.string ⟨#[]⟩,.int .i64 0,.int .i64 0],.int .i64 61])∧Below w.heap.size w w':=by
 have HZ:=J0 hn.symm
 have HR:=J0 h
 obtain⟨k,hkz⟩:∃k,findZ fs nm=k:=⟨_,rfl⟩
 rw[hkz] at hk
 have HK:=J0 hkz
 have hd:decide (k<0)=true:=by simpa using hk
 clear h hn hkz
 go_enter Tryz.func106,Tryz.ntmps106
 go_wp2_with (first
  |(go_at_call 70;refine(Layout_is A c fs nb HZ.out _ (hA.below (below_new _)) hl).mono ?_;rintro e w1 ⟨B,m,c',rfl,hm,hr,hb1⟩;have hA1:=(hA.below (below_new _)).below hb1)
  |(go_at_call 62;refine(FRight_is A c fs _ HR.out _ hA1 hl).mono ?_;rintro e w2 ⟨rfl,hb2⟩;have hA2:=hA1.below hb2)
  |(go_at_call 96;refine(Find_is A c fs _ _ HK.out _ hA2 hl).mono ?_;rintro e w3 ⟨rfl,hb3⟩;obtain⟨k0,k1,k2,f0,f1,f2⟩:=((((OBox.new w [.string ⟨#[]⟩,.int .i64 0,.int .i64 0] 68).below hb1).below hb2).below hb3).f3;have HB:=below_seq (below_seq (below_seq (below_new _) hb1) hb2) hb3))
 refine bodyPost_ret (v:=.tuple #[.int .i64 0,.agg #[.string ⟨#[]⟩,.int .i64 0,.int .i64 0],.int .i64 61]) (by simp[results,Tryz.results106,go_sem, *];done) rfl ⟨rfl,?_⟩
 (repeat (first|exact HB|refine J8 ?_ (by dsimp only;omega) _|refine Jk ?_ (by have hs_:=HB.size;first|(simp;done)|(simp;omega)|omega) _|apply Jv))
theorem place_ok (Ab:Option Addr) (nb cb:Nat) (A:Option Addr) (c:Nat) (fs:List Fd) (nm:ByteArray) (w:World) (hA:Rd w A (cellsF fs)) (hl:fs.length≤9223372036854775807) (h:rightF fs=true) (hn:nb=sizeF fs) (k:Nat) (f:Fd) (at_:Nat) (hk:findZ fs nm=k) (hf:fs[k]?=some f) (hat:(layL fs)[k]?=some at_):
 Calls Tryz.prog 106 #[.slice Ab nb cb,.slice A fs.length c,.string nm] w fun e w'=>e=.returned (.tuple #[.int .i64 at_,.agg #[.string f.s,.int .i64 f.k,.int .i64 f.l],.int .i64 0])∧Below w.heap.size w w':=by
 have HZ:=J0 hn.symm
 have HR:=J0 h
 have HK:=J0 hk
 have HF:=J0 hf
 have HT:=J0 hat
 have hk1:=(J6.1 hf).1
 have hk2:=(J6.1 hat).1
 clear h hn hk hf hat
 go_enter Tryz.func106,Tryz.ntmps106
 go_wp2_with (first
  |(go_at_call 70;refine(Layout_is A c fs nb HZ.out _ (hA.below (below_new _)) hl).mono ?_;rintro e w1 ⟨B,m,c',rfl,hm,hr,hb1⟩;have hA1:=(hA.below (below_new _)).below hb1)
  |(go_at_call 62;refine(FRight_is A c fs _ HR.out _ hA1 hl).mono ?_;rintro e w2 ⟨rfl,hb2⟩;have hA2:=hA1.below hb2)
  |(go_at_call 96;refine(Find_is A c fs _ _ HK.out _ hA2 hl).mono ?_;rintro e w3 ⟨rfl,hb3⟩;obtain⟨k0,k1,k2,f0,f1,f2⟩:=((((OBox.new w [.string ⟨#[]⟩,.int .i64 0,.int .i64 0] 68).below hb1).below hb2).below hb3).f3;have HB:=below_seq (below_seq (below_seq (below_new _) hb1) hb2) hb3;obtain⟨ad,rfl,g0,g1,g2⟩:=(hA2.below hb3).fld HF.out;obtain⟨bd,rfl,g3⟩:=((hr.below hb2).below hb3).int HT.out))
 have hlt1:(k:Int)<((layL fs).length:Int):=by omega
 have hlt2:(k:Int)<(fs.length:Int):=by omega
 clear HZ HR HK HF HT
 go_region
 all_goals go_wp2
 all_goals refine bodyPost_ret (v:=.tuple #[.int .i64 at_,.agg #[.string f.s,.int .i64 f.k,.int .i64 f.l],.int .i64 0]) (by simp[results,Tryz.results106,go_sem, *];done) rfl ⟨rfl,?_⟩
 all_goals (repeat (first|exact HB|refine J8 ?_ (by dsimp only;omega) _|refine Jk ?_ (by have hs_:=HB.size;first|(simp;done)|(simp;omega)|omega) _|apply Jv))
def locF (fs:List Fd) (len:Nat) (nm:ByteArray):Int ⊕ (Nat×Fd):=
 if rightF fs && decide (len=sizeF fs) then(if findZ fs nm<0 then .inl 61 else .inr ((layL fs).getD (findZ fs nm).toNat 0,fs.getD (findZ fs nm).toNat Fd.z)) else .inl 60
theorem layL_length {fs:List Fd} (h:rightF fs=true):(layL fs).length=fs.length:=by rw[layL,if_pos h,Kz,seqF_length]
theorem loc_bad {fs:List Fd} {len:Nat} {nm:ByteArray} {q:Int} (h:locF fs len nm=.inl q):(q=60∧(rightF fs=false∨¬len=sizeF fs))∨(q=61∧rightF fs=true∧len=sizeF fs∧findZ fs nm<0):=by
 unfold locF at h
 split at h
 ·rename_i hr
  simp only[Qy,decide_eq_true_eq] at hr
  split at h
  ·cases h;exact .inr ⟨rfl,hr.1,hr.2,by assumption⟩
  ·cases h
 ·rename_i hr
  cases h
  refine .inl ⟨rfl,?_⟩
  cases h2:rightF fs
  ·exact .inl rfl
  ·exact .inr fun e=>hr (by rw[h2,decide_eq_true e];rfl)
theorem loc_ok {fs:List Fd} {len:Nat} {nm:ByteArray} {at_:Nat} {f:Fd} (h:locF fs len nm=.inr (at_,f)):rightF fs=true∧len=sizeF fs∧∃k:Nat,findZ fs nm=k∧fs[k]?=some f∧(layL fs)[k]?=some at_:=by
 unfold locF at h
 split at h
 ·rename_i hr
  simp only[Qy,decide_eq_true_eq] at hr
  split at h
  ·cases h
  ·rename_i hk
   have hb:=findZ_ge fs nm
   have h1:(findZ fs nm).toNat<fs.length:=by omega
   have h2:(findZ fs nm).toNat<(layL fs).length:=by rw[layL_length hr.1];exact h1
   cases h
   refine⟨hr.1,hr.2,(findZ fs nm).toNat,by omega,?_,?_⟩
   ·rw[List.getD_eq_getElem?_getD,J4 h1];rfl
   ·rw[List.getD_eq_getElem?_getD,J4 h2];rfl
 ·cases h
theorem endF_append (nx:Nat) (a b:List Fd):endF nx (a++b)=endF (endF nx a) b:=by
 induction a generalizing nx with
 |nil=>rfl
 |cons g r ih=>exact ih _
theorem endF_ge {nx:Nat} {fs:List Fd} (h:MayF fs):nx≤endF nx fs:=by
 induction fs generalizing nx with
 |nil=>simp[endF]
 |cons g r ih=>
  have h1:=atF_le (nx:=nx) (h g (List.mem_cons_self ..))
  have h3:=ih (nx:=atF nx g+g.n) (fun f hf=>h f (List.mem_cons_of_mem _ hf))
  rw[endF];omega
theorem seqF_get {fs:List Fd} {k:Nat} {f:Fd} (nx:Nat) (hf:fs[k]?=some f):(seqF nx fs)[k]?=some (atF (endF nx (fs.take k)) f,f):=by
 induction fs generalizing nx k with
 |nil=>simp at hf
 |cons g r ih=>
  cases k with
  |zero=>simp at hf;subst hf;rfl
  |succ k=>
   have:=ih (atF nx g+g.n) (k:=k) (by simpa using hf)
   simpa[seqF,endF] using this
theorem lay_end {fs:List Fd} (hm:MayF fs) {k:Nat} {f:Fd} (hf:fs[k]?=some f):atF (endF 0 (fs.take k)) f+f.n≤endF 0 fs:=by
 obtain⟨_,e2⟩:=seqF_take hf
 rw[←e2]
 have e:fs=fs.take (k+1)++fs.drop (k+1):=(List.take_append_drop _ _).symm
 conv=>rhs;rw[e,endF_append]
 exact endF_ge fun g hg=>hm g (List.mem_of_mem_drop hg)
theorem loc_in {fs:List Fd} {len:Nat} {nm:ByteArray} {at_:Nat} {f:Fd} (h:locF fs len nm=.inr (at_,f)):mayB f.k f.l=true∧at_+f.n≤len∧len≤4096∧0<f.n:=by
 obtain⟨hr,hl,k,hk,hf,hat⟩:=loc_ok h
 obtain⟨hm,_⟩:=rightF_may hr
 have hmf:=hm f (J7 hf)
 refine⟨hmf,?_,by have:=sizeF_le fs;omega,Fd.n_pos hmf⟩
 rw[layL,if_pos hr,Kv,seqF_get 0 hf] at hat
 simp at hat
 have h1:=lay_end hm hf
 have h2:=upN_le (endF 0 fs) 8 (by omega)
 rw[hl,sizeF,if_pos hr]
 omega
theorem place_bad (Ab:Option Addr) (nb cb:Nat) (A:Option Addr) (c:Nat) (fs:List Fd) (nm:ByteArray) (q:Int) (h:locF fs nb nm=.inl q) (w:World) (hA:Rd w A (cellsF fs)) (hl:fs.length≤9223372036854775807):
 Calls Tryz.prog 106 #[.slice Ab nb cb,.slice A fs.length c,.string nm] w fun e w'=>e=.returned (.tuple #[.int .i64 0,.agg #[.string ⟨#[]⟩,.int .i64 0,.int .i64 0],.int .i64 q])∧Below w.heap.size w w':=by
 rcases loc_bad h with ⟨rfl,h0⟩|⟨rfl,h1,h2,h3⟩
 ·exact place_form Ab nb cb A c fs nm w hA hl h0
 ·exact place_none Ab nb cb A c fs nm w hA hl h1 h2 h3
theorem place_is (Ab:Option Addr) (nb cb:Nat) (A:Option Addr) (c:Nat) (fs:List Fd) (nm:ByteArray) (at_:Nat) (f:Fd) (h:locF fs nb nm=.inr (at_,f)) (w:World) (hA:Rd w A (cellsF fs)) (hl:fs.length≤9223372036854775807):
 Calls Tryz.prog 106 #[.slice Ab nb cb,.slice A fs.length c,.string nm] w fun e w'=>e=.returned (.tuple #[.int .i64 at_,.agg #[.string f.s,.int .i64 f.k,.int .i64 f.l],.int .i64 0])∧Below w.heap.size w w':=by
 obtain⟨hr,hn,k,hk,hf,hat⟩:=loc_ok h
 exact place_ok Ab nb cb A c fs nm w hA hl hr hn k f at_ hk hf hat
structure Vl where
 k:Int
 b:Int
 t:ByteArray
def Vl.v (x:Vl):Value:=.agg #[.int .i64 x.k,.int .u64 x.b,.string x.t]
def Vl.z:Vl:=⟨0,0,⟨#[]⟩⟩
def decF (l:List UInt8) (f:Fd):Vl:=if decB l f.k f.l=true then⟨f.k,decZ l f.k f.l,decT l f.k⟩ else Vl.z
theorem decF_v (l:List UInt8) (f:Fd):decV l f.k f.l=(decF l f).v:=by
 unfold decF
 cases h:decB l f.k f.l
 ·rw[(decV_no h).1];rfl
 ·rw[(decV_ok h).1];rfl
def getV (b:List UInt8) (fs:List Fd) (nm:ByteArray):Vl:=match locF fs b.length nm with
 |.inl _=>Vl.z
 |.inr (at_,f)=>decF ((b.drop at_).take f.n) f
def getE (b:List UInt8) (fs:List Fd) (nm:ByteArray):Int:=match locF fs b.length nm with
 |.inl q=>q
 |.inr (at_,f)=>decE ((b.drop at_).take f.n) f.k f.l
theorem Decode_is (A:Option Addr) (c m:Nat) (l:List UInt8) (s:ByteArray) (k long:Int) (v:Vl) (q:Int) (w:World) (hA:Rd w A (bytesV l)) (hm:l.length=m) (hl:m≤9223372036854775807) (hv:decV l k long=v.v) (hq:decE l k long=q):
 Calls Tryz.prog 88 #[.slice A m c,.agg #[.string s,.int .i64 k,.int .i64 long]] w fun e w'=>e=.returned (.tuple #[.agg #[.int .i64 v.k,.int .u64 v.b,.string v.t],.int .i64 q])∧Below w.heap.size w w':=by
 subst hq hm
 have:=Decode_calls A c l s k long w hA hl
 rw[hv] at this
 exact this
theorem Rd.slice {w:World} {ad:Addr} {l:List UInt8} (h:Rd w (some ad) (bytesV l)) (i n:Nat):Rd w (some (ad.add i)) (bytesV ((l.drop i).take n)):=fun hne=>by
 obtain⟨ad',e,hc⟩:=h (by rintro e;simp[bytesV] at e;subst e;simp[bytesV] at hne)
 cases e
 refine⟨_,rfl,fun j u hj=>?_⟩
 rw[Addr.add_add]
 apply hc
 simp only[bytesV,Kv,X9,List.getElem?_drop] at hj ⊢
 split at hj
 ·exact hj
 ·simp at hj
theorem Rd.some_of {w:World} {A:Option Addr} {cs:List Value} (h:Rd w A cs) (hne:cs≠[]):∃ad,A=some ad:=by
 obtain⟨ad,e,_⟩:=h hne;exact⟨ad,e⟩
theorem Get_bad (Ab:Option Addr) (cb:Nat) (b:List UInt8) (A:Option Addr) (c:Nat) (fs:List Fd) (nm:ByteArray) (q:Int) (h:locF fs b.length nm=.inl q) (w:World) (hA:Rd w A (cellsF fs)) (hl:fs.length≤9223372036854775807):
 Calls Tryz.prog 71 #[.slice Ab b.length cb,.slice A fs.length c,.string nm] w fun e w'=>e=.returned (.tuple #[.agg #[.int .i64 0,.int .u64 0,.string ⟨#[]⟩],.int .i64 q])∧Below w.heap.size w w':=by
 have hq:(q != 0)=true:=by rcases loc_bad h with ⟨rfl,_⟩|⟨rfl,_⟩ <;> rfl
 have H:=J0 h
 clear h
 go_enter Tryz.func71,Tryz.ntmps71
 go_wp2_with (go_at_call 106;refine(place_bad Ab b.length cb A c fs nm q H.out _ (hA.below (below_new _)) hl).mono ?_;rintro e w1 ⟨rfl,hb1⟩;obtain⟨k0,k1,k2,f0,f1,f2⟩:=((OBox.new w [.int .i64 0,.int .u64 0,.string ⟨#[]⟩] 71).below hb1).f3;have HB:=below_seq (below_new _) hb1;have hz1:w.heap.size<w1.heap.size:=(by have:=hb1.size;simp at this;omega))
 refine bodyPost_ret (v:=.tuple #[.agg #[.int .i64 0,.int .u64 0,.string ⟨#[]⟩],.int .i64 q]) (by simp[results,Tryz.results71,go_sem, *];done) rfl ⟨rfl,?_⟩
 (repeat (first|exact HB|refine J8 ?_ (by dsimp only;omega) _|refine Jk ?_ (by have hs_:=HB.size;first|(simp;done)|(simp;omega)|omega) _|apply Jv))
theorem Get_ok (Ab:Option Addr) (cb:Nat) (b:List UInt8) (A:Option Addr) (c:Nat) (fs:List Fd) (nm:ByteArray) (at_:Nat) (f:Fd) (h:locF fs b.length nm=.inr (at_,f)) (w:World) (hA:Rd w A (cellsF fs)) (hl:fs.length≤9223372036854775807) (hb:Rd w Ab (bytesV b)) (hcb:b.length≤cb):
 Calls Tryz.prog 71 #[.slice Ab b.length cb,.slice A fs.length c,.string nm] w fun e w'=>e=.returned (.tuple #[(decF ((b.drop at_).take f.n) f).v,.int .i64 (decE ((b.drop at_).take f.n) f.k f.l)])∧Below w.heap.size w w':=by
 obtain⟨hm,hin,hlen,hn⟩:=loc_in h
 have hn2:=f.n_le
 obtain⟨bd,rfl⟩:=hb.some_of (by simp[bytesV];intro e;subst e;simp at hin;omega)
 have hdl:((b.drop at_).take f.n).length=f.n:=by rw[Qv,List.length_drop];omega
 obtain⟨dv,hdv⟩:∃x,decF ((b.drop at_).take f.n) f=x:=⟨_,rfl⟩
 obtain⟨de,hde⟩:∃x,decE ((b.drop at_).take f.n) f.k f.l=x:=⟨_,rfl⟩
 rw[hdv,hde]
 have HDV:=J0 ((decF_v _ f).trans (congrArg Vl.v hdv))
 have HDE:=J0 hde
 have HDL:=J0 hdl
 have HN:=J0 f.n_eq.symm
 have H:=J0 h
 clear h hdv hde hdl
 go_enter Tryz.func71,Tryz.ntmps71
 go_wp2_with (go_at_call 106;refine(place_is (some bd) b.length cb A c fs nm at_ f H.out _ (hA.below (below_new _)) hl).mono ?_;rintro e w1 ⟨rfl,hb1⟩;have O1:=((OBox.new w [.int .i64 0,.int .u64 0,.string ⟨#[]⟩] 71).below hb1);obtain⟨k0,k1,k2,f0,f1,f2⟩:=O1.f3;have HB:=below_seq (below_new _) hb1;have hz1:w.heap.size<w1.heap.size:=(by have:=hb1.size;simp at this;omega))
 have F0:=FBox.new w1 f.s f.k f.l
 have O2:=O1.below (below_new (w:=w1) (.cells #[.string f.s,.int .i64 f.k,.int .i64 f.l] 68))
 have hbs:=((hb.slice at_ f.n).below (below_new _)).below hb1 |>.below (below_new (w:=w1) (.cells #[.string f.s,.int .i64 f.k,.int .i64 f.l] 68))
 have hcut:(at_:Int)+(f.n:Int)≤(cb:Int):=by omega
 have hcut2:(at_:Int)≤(at_:Int)+(f.n:Int):=by omega
 have hcut3:((at_:Int)+(f.n:Int)).toNat=at_+f.n:=by omega
 have hcut4:¬cb=at_:=by omega
 have hlong:f.n≤9223372036854775807:=by omega
 have hcut0:(0:Int)≤(at_:Int)+(f.n:Int):=by omega
 have hcut5:IntKind.i64.wrap ((at_:Int)+(f.n:Int))=(at_:Int)+(f.n:Int):=Xq _ (by omega)
 obtain⟨WX,hWX⟩:∃WX,w1.alloc (.cells #[.string f.s,.int .i64 f.k,.int .i64 f.l] 68)=WX:=⟨_,rfl⟩
 have HB:=HB.alloc (by omega) (.cells #[.string f.s,.int .i64 f.k,.int .i64 f.l] 68)
 have hzx:w1.heap.size<WX.heap.size:=by rw[←hWX];simp
 rw[hWX] at F0 O2 hbs HB ⊢
 clear hWX k0 k1 k2 f0 f1 f2 O1 hb1 hb hA
 obtain⟨c0,c1,c2⟩:=F0
 obtain⟨k0,k1,k2,f0,f1,f2⟩:=O2.f3
 have F1:FBox WX.drew w1.heap.size f.s f.k f.l:=⟨c0,c1,c2⟩
 have O3:OBox WX.drew w.heap.size [.int .i64 0,.int .u64 0,.string ⟨#[]⟩] 71:=O2
 have hbs:Rd WX.drew (some (bd.add at_)) (bytesV ((b.drop at_).take f.n)):=hbs
 have HB:=HB.drew
 clear H O2
 go_region_with (first
  |(go_at_call 89;refine(Long_is _ _ _ _ HN.out _).mono ?_;rintro e w2 ⟨rfl,hb2⟩;obtain⟨e0,e1,e2⟩:=F1.below hb2)
  |(go_at_call 88;refine(Decode_is _ _ f.n _ _ _ _ dv de _ (hbs.below hb2) HDL.out hlong HDV.out HDE.out).mono ?_;rintro e w3 ⟨rfl,hb3⟩;obtain⟨l0,l1,l2,m0,m1,m2⟩:=((O3.below hb2).below hb3).f3))
 all_goals go_wp2
 all_goals refine bodyPost_ret (v:=.tuple #[.agg #[.int .i64 dv.k,.int .u64 dv.b,.string dv.t],.int .i64 de]) (by simp[results,Tryz.results71,go_sem, *];done) rfl ⟨rfl,?_⟩
 all_goals have HB:=below_seq (below_seq HB hb2) hb3
 all_goals (repeat (first|exact HB|refine J8 ?_ (by dsimp only;omega) _|refine Jk ?_ (by have hs_:=HB.size;first|(simp;done)|(simp;omega)|omega) _|apply Jv))
theorem Get_calls (Ab:Option Addr) (cb:Nat) (b:List UInt8) (A:Option Addr) (c:Nat) (fs:List Fd) (nm:ByteArray) (w:World) (hA:Rd w A (cellsF fs)) (hl:fs.length≤9223372036854775807) (hb:Rd w Ab (bytesV b)) (hcb:b.length≤cb):
 Calls Tryz.prog 71 #[.slice Ab b.length cb,.slice A fs.length c,.string nm] w fun e w'=>e=.returned (.tuple #[(getV b fs nm).v,.int .i64 (getE b fs nm)])∧Below w.heap.size w w':=by
 cases h:locF fs b.length nm with
 |inl q=>
  have e1:getV b fs nm=Vl.z:=by simp[getV,h]
  have e2:getE b fs nm=q:=by simp[getE,h]
  rw[e1,e2]
  exact Get_bad Ab cb b A c fs nm q h w hA hl
 |inr x=>
  obtain⟨at_,f⟩:=x
  have e1:getV b fs nm=decF ((b.drop at_).take f.n) f:=by simp[getV,h]
  have e2:getE b fs nm=decE ((b.drop at_).take f.n) f.k f.l:=by simp[getE,h]
  rw[e1,e2]
  exact Get_ok Ab cb b A c fs nm at_ f h w hA hl hb hcb
theorem Clone_calls (A:Option Addr) (c:Nat) (b:List UInt8) (w:World) (hA:Rd w A (bytesV b)) (hl:b.length≤140737488355328):
 Calls Tryz.prog 38 #[.slice A b.length c] w fun e w'=>∃v,e=.returned v∧w'.ownsRow w.heap.size 5 1 v b.length (bytesV b)∧Below w.heap.size w w':=by
 obtain⟨i0,hi,hz0,hz1,hz2⟩:=info_parts info5
 cases A with
 |none=>
  obtain rfl:b=[]:=by
   cases b with
   |nil=>rfl
   |cons x r=>obtain⟨ad,e,_⟩:=hA (by simp[bytesV]);cases e
  have heq:∀w:World,(binOp .eql 44 (.slice none 0 c) (.slice none 0 0)).run Tryz.prog w=.ok (.bool true) w:=fun w=>Lib.run_eql_slice_nil (P:=Tryz.prog) w 44 5 none 0 c 0 0 Tryz.underlying44
  go_enter Tryz.func38,Tryz.ntmps38
  go_wp2
  go_ret
  exact⟨_,rfl,own_nil _ _ _ _,Jy _ _⟩
 |some ad=>
  have heq:∀w:World,(binOp .eql 44 (.slice (some ad) b.length c) (.slice none 0 0)).run Tryz.prog w=.ok (.bool false) w:=fun w=>Lib.run_eql_slice_nil (P:=Tryz.prog) w 44 5 (some ad) b.length c 0 0 Tryz.underlying44
  have hown:(w.alloc (.cells #[] 5)).ownsRow w.heap.size 5 1 (.slice (some ⟨w.heap.size,0,none⟩) 0 0) 0 []:=⟨rfl,.inr ⟨_,0,#[],rfl,J9 _,World.alloc_heap_new _ _,J9 _,X8 _,rfl,rfl⟩⟩
  have hA2:=hA.below (below_new (.cells #[] 5))
  go_enter Tryz.func38,Tryz.ntmps38
  go_wp2_with (at_builtin;refine wpList_append_own _ rfl _ _ 44 rfl w.heap.size 5 i0 (.int .u8 0) 1 1 Tryz.underlying44 hi hz0 hz1 hz2 rfl (by decide) _ _ _ rfl hown ad b.length c (bytesV b) rfl ?c0 ?c1 ?c2 ?c3 ?c4 ?c5 ?_)
  case c0=>rw[bytesV_length];omega
  case c1=>
   intro j u hj
   obtain⟨ad',e,h⟩:=hA2 (by rintro e;rw[e] at hj;simp at hj)
   cases e;exact h j u hj
  case c2=>intro u hu;simp[bytesV] at hu;obtain⟨x,_,rfl⟩:=hu;rfl
  case c3=>simp only[maxLen];omega
  case c4=>omega
  case c5=>simp
  intro v' w1 hown' hgrow _
  have hB:=(below_new (w:=w) (.cells #[] 5)).grown hgrow (by simp) (fun q hq=>own_base hown q hq)
  clear hown hgrow
  go_wp2
  go_ret
  exact⟨_,rfl,hown',hB⟩
theorem encL_length {bits:Int} {tx:ByteArray} {f:Fd} {vk:Int} (h:rightB vk bits tx f.k f.l=true):(encL bits tx f.k f.l).length=f.n:=by
 obtain⟨hm,_,ht,_⟩:=right_may h
 unfold encL Fd.n
 split
 ·rename_i hk
  rw[if_pos hk] at ht
  rw[hk] at hm ⊢
  rw[long_12 hm,bl_length];omega
 ·rw[leL_length]
def overB (b:List UInt8) (i:Nat) (x:List UInt8):List UInt8:=b.take i++x++b.drop (i+x.length)
theorem overB_length {b:List UInt8} {i:Nat} {x:List UInt8} (h:i+x.length≤b.length):(overB b i x).length=b.length:=by simp[overB];omega
def setB (b:List UInt8) (fs:List Fd) (nm:ByteArray) (v:Vl):List UInt8:=match locF fs b.length nm with
 |.inl _=>[]
 |.inr (at_,f)=>if rightB v.k v.b v.t f.k f.l=true then overB b at_ (encL v.b v.t f.k f.l) else[]
def setE (b:List UInt8) (fs:List Fd) (nm:ByteArray) (v:Vl):Int:=match locF fs b.length nm with
 |.inl q=>q
 |.inr (_,f)=>if rightB v.k v.b v.t f.k f.l=true then 0 else 50
theorem bytesV_take (l:List UInt8) (n:Nat):(bytesV l).take n=bytesV (l.take n):=by simp[bytesV]
theorem bytesV_drop (l:List UInt8) (n:Nat):(bytesV l).drop n=bytesV (l.drop n):=by simp[bytesV]
theorem splice_take {cur:List Value} {b x:List UInt8} {i:Nat} (hc:cur.take b.length=bytesV b) (h:i+x.length≤b.length):(splice cur i (bytesV x)).take b.length=bytesV (overB b i x):=by
 have hlen:b.length≤cur.length:=by
  have:=congrArg List.length hc
  rw[Qv,bytesV_length] at this;omega
 have h1:cur.take i=bytesV (b.take i):=by rw[←bytesV_take,←hc,List.take_take,Nat.min_eq_left (by omega)]
 have h2:(cur.drop (i+x.length)).take (b.length - (i+x.length))=bytesV (b.drop (i+x.length)):=by
  rw[←bytesV_drop,←hc,List.drop_take]
 rw[splice,bytesV_length,h1,overB,bytesV_append,bytesV_append,Xj]
 rw[List.take_append,List.take_append,bytesV_length,bytesV_length,Vz (by rw[bytesV_length,Qv];omega),Vz (l:=bytesV x) (by rw[bytesV_length,Qv];omega)]
 congr 2
 rw[←h2]
 congr 1
 rw[Qv];omega
theorem sz5:(Tryz.prog.info? 5).map (·.size)=some 1:=by kernel_rfl
theorem own_some {w:World} {base:Nat} {e:TypeId} {n:Nat} {v:Value} {xs:List Value} (h:w.ownsRow base e 1 v n xs) (hn:0<n):∃g cap cur,v=.slice (some ⟨g,0,none⟩) n cap∧base≤g∧OBox w g cur e∧n≤cap∧cap≤maxLen∧cur.length=cap∧cur.take n=xs:=by
 obtain⟨h1,⟨_,h0⟩|⟨g,cap,cur,rfl,hg,hgb,hnc,hcm,hcs,hct⟩⟩:=h
 ·omega
 ·exact⟨g,cap,cur.toList,rfl,hg,hgb,hnc,hcm,by rw[Array.length_toList,hcs];omega,by simpa using hct⟩
theorem Set_bad (Ab:Option Addr) (cb:Nat) (b:List UInt8) (A:Option Addr) (c:Nat) (fs:List Fd) (nm:ByteArray) (v:Vl) (q:Int) (h:locF fs b.length nm=.inl q) (w:World) (hA:Rd w A (cellsF fs)) (hl:fs.length≤9223372036854775807):
 Calls Tryz.prog 75 #[.slice Ab b.length cb,.slice A fs.length c,.string nm,v.v] w fun e w'=>e=.returned (.tuple #[.slice none 0 0,.int .i64 q])∧Below w.heap.size w w':=by
 have hq:(q != 0)=true:=by rcases loc_bad h with ⟨rfl,_⟩|⟨rfl,_⟩ <;> rfl
 have H:=J0 h
 clear h
 unfold Vl.v
 go_enter Tryz.func75,Tryz.ntmps75
 go_wp2_with (go_at_call 106;refine(place_bad Ab b.length cb A c fs nm q H.out _ (hA.below (below_new _)) hl).mono ?_;rintro e w1 ⟨rfl,hb1⟩;have HB:=below_seq (below_new _) hb1;have hz1:w.heap.size<w1.heap.size:=(by have:=hb1.size;simp at this;omega))
 go_ret2
 refine⟨rfl,?_⟩
 (repeat (first|exact HB|refine J8 ?_ (by dsimp only;omega) _|refine Jk ?_ (by have hs_:=HB.size;first|(simp;done)|(simp;omega)|omega) _|apply Jv))
theorem Set_not (Ab:Option Addr) (cb:Nat) (b:List UInt8) (A:Option Addr) (c:Nat) (fs:List Fd) (nm:ByteArray) (v:Vl) (h0:0≤v.b) (h1:v.b<18446744073709551616) (at_:Nat) (f:Fd) (h:locF fs b.length nm=.inr (at_,f)) (hr:rightB v.k v.b v.t f.k f.l=false) (w:World) (hA:Rd w A (cellsF fs)) (hl:fs.length≤9223372036854775807):
 Calls Tryz.prog 75 #[.slice Ab b.length cb,.slice A fs.length c,.string nm,v.v] w fun e w'=>e=.returned (.tuple #[.slice none 0 0,.int .i64 50])∧Below w.heap.size w w':=by
 have H:=J0 h
 have HR:=J0 hr
 clear h hr
 unfold Vl.v
 go_enter Tryz.func75,Tryz.ntmps75
 go_wp2_with (first
  |(go_at_call 106;refine(place_is Ab b.length cb A c fs nm at_ f H.out _ (hA.below (below_new _)) hl).mono ?_;rintro e w1 ⟨rfl,hb1⟩;have HB:=below_seq (below_new _) hb1;have hz1:w.heap.size<w1.heap.size:=(by have:=hb1.size;simp at this;omega);obtain⟨c0,c1,c2⟩:=(VBox.new w v.k v.b v.t).below hb1)
  |(go_at_call 61;refine(Encode_none _ _ _ _ _ _ h0 h1 HR.out _).mono ?_;rintro e w2 ⟨rfl,hb2⟩;have HB:=below_seq (HB.alloc (by omega) _) hb2))
 go_ret2
 refine⟨rfl,?_⟩
 (repeat (first|exact HB|refine J8 ?_ (by dsimp only;omega) _|refine Jk ?_ (by have hs_:=HB.size;first|(simp;done)|(simp;omega)|omega) _|apply Jv))
theorem Set_ok (Ab:Option Addr) (cb:Nat) (b:List UInt8) (A:Option Addr) (c:Nat) (fs:List Fd) (nm:ByteArray) (v:Vl) (h0:0≤v.b) (h1:v.b<18446744073709551616) (at_:Nat) (f:Fd) (h:locF fs b.length nm=.inr (at_,f)) (hr:rightB v.k v.b v.t f.k f.l=true) (w:World) (hA:Rd w A (cellsF fs)) (hl:fs.length≤9223372036854775807) (hb:Rd w Ab (bytesV b)):
 Calls Tryz.prog 75 #[.slice Ab b.length cb,.slice A fs.length c,.string nm,v.v] w fun e w'=>∃x,e=.returned (.tuple #[x,.int .i64 0])∧OutB w' x (overB b at_ (encL v.b v.t f.k f.l))∧Below w.heap.size w w':=by
 obtain⟨hm,hin,hlen,hn⟩:=loc_in h
 have hel:=encL_length hr
 obtain⟨xs,hxs⟩:∃xs,encL v.b v.t f.k f.l=xs:=⟨_,rfl⟩
 rw[hxs] at hel ⊢
 have H:=J0 h
 have HR:=J0 hr
 have HX:=J0 hxs
 clear h hr hxs
 unfold Vl.v
 go_enter Tryz.func75,Tryz.ntmps75
 go_wp2_with (first
  |(go_at_call 106;refine(place_is Ab b.length cb A c fs nm at_ f H.out _ (hA.below (below_new _)) hl).mono ?_;rintro e w1 ⟨rfl,hb1⟩;have HB:=below_seq (below_new _) hb1;have hz1:w.heap.size<w1.heap.size:=(by have:=hb1.size;simp at this;omega);obtain⟨c0,c1,c2⟩:=(VBox.new w v.k v.b v.t).below hb1;have hbw:=(hb.below (below_new _)).below hb1)
  |(go_at_call 61;refine(Encode_some _ _ _ _ _ _ h0 h1 HR.out _).mono ?_;rintro e w2 ⟨xv,rfl,hox,hb2⟩;have HB:=below_seq (HB.alloc (by omega) _) hb2;rw[HX.out] at hox;have hz2:=HB.size;have hbw:=(hbw.below (below_new _)).below hb2)
  |(go_at_call 38;refine(Clone_calls Ab cb b _ hbw (by omega)).mono ?_;rintro e w3 ⟨ov,rfl,hown,hb3⟩;have HB:=below_seq HB hb3;have hox:=hox.below hb3;obtain⟨XA,xc,rfl,hxc,hxr⟩:=hox;obtain⟨g,cap,cur,rfl,hg,hO,hnc,hcm,hcs,hct⟩:=own_some hown (by omega);have s1:(at_:Int)≤(b.length:Int):=(by omega);have s2:¬cap=at_:=(by omega);have s3:¬b.length=at_:=(by omega);have hO':w3.heap[g]?=some (.cells cur.toArray 5 (0,0)):=hO;clear hO)
  |(with_reducible refine wpList_copy_splice rfl _ _ 44 44 rfl 5 Tryz.underlying44 sz5 (some ⟨g,at_,none⟩) XA (b.length - at_) (cap - at_) f.n xc rfl rfl g at_ cur 5 hO' (bytesV xs) ?n ?pos ?fit ?one w.heap.size w HB ?hg ?_))
 case n=>rw[bytesV_length,hel];exact(Nat.min_eq_left (by omega)).symm
 case pos=>
  intro h
  obtain⟨ad,rfl,hc⟩:=hxr (by intro e;rw[e] at h;simp at h)
  first|exact⟨rfl,ad,rfl,hc⟩|exact⟨ad,rfl,hc⟩
 case fit=>rw[bytesV_length];omega
 case one=>intro u hu;simp[bytesV] at hu;obtain⟨x,_,rfl⟩:=hu;rfl
 case hg=>omega
 intro w4 hO4 hB4
 have hO4:=hO4.out
 have hr4:Rd w4 (some ⟨g,0,none⟩) (bytesV (overB b at_ xs)):=by
  rw[←splice_take hct (by omega)]
  refine fun _=>⟨_,rfl,fun j u hj=>?_⟩
  have e:(⟨g,0,none⟩:Addr).add j=⟨g,j,none⟩:=by unfold Addr.add;split <;> simp_all
  rw[e]
  rw[X9] at hj
  split at hj
  ·exact OBox.cell (w:=w4) hO4 hj
  ·cases hj
 clear hO4
 go_wp2
 go_ret2
 exact⟨.slice (some ⟨g,0,none⟩) b.length cap,rfl,⟨_,cap,by rw[overB_length (by omega)],by rw[overB_length (by omega)];exact hnc,hr4⟩,hB4⟩
theorem Set_calls (Ab:Option Addr) (cb:Nat) (b:List UInt8) (A:Option Addr) (c:Nat) (fs:List Fd) (nm:ByteArray) (v:Vl) (h0:0≤v.b) (h1:v.b<18446744073709551616) (w:World) (hA:Rd w A (cellsF fs)) (hl:fs.length≤9223372036854775807) (hb:Rd w Ab (bytesV b)):
 Calls Tryz.prog 75 #[.slice Ab b.length cb,.slice A fs.length c,.string nm,v.v] w fun e w'=>∃x,e=.returned (.tuple #[x,.int .i64 (setE b fs nm v)])∧OutB w' x (setB b fs nm v)∧Below w.heap.size w w':=by
 cases h:locF fs b.length nm with
 |inl q=>
  have e1:setB b fs nm v=[]:=by simp[setB,h]
  have e2:setE b fs nm v=q:=by simp[setE,h]
  rw[e1,e2]
  refine(Set_bad Ab cb b A c fs nm v q h w hA hl).mono ?_
  rintro e w' ⟨rfl,hb⟩
  exact⟨_,rfl,⟨none,0,rfl,J9 _,Rd.nil _ _⟩,hb⟩
 |inr x=>
  obtain⟨at_,f⟩:=x
  cases hr:rightB v.k v.b v.t f.k f.l
  ·have e1:setB b fs nm v=[]:=by simp[setB,h,hr]
   have e2:setE b fs nm v=50:=by simp[setE,h,hr]
   rw[e1,e2]
   refine(Set_not Ab cb b A c fs nm v h0 h1 at_ f h hr w hA hl).mono ?_
   rintro e w' ⟨rfl,hb⟩
   exact⟨_,rfl,⟨none,0,rfl,J9 _,Rd.nil _ _⟩,hb⟩
  ·have e1:setB b fs nm v=overB b at_ (encL v.b v.t f.k f.l):=by simp[setB,h,hr]
   have e2:setE b fs nm v=0:=by simp[setE,h,hr]
   rw[e1,e2]
   exact Set_ok Ab cb b A c fs nm v h0 h1 at_ f h hr w hA hl hb
end
end Go.Proofs.YteembinfgbapgaaGreat
