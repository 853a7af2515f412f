/- Merged out of: Gk Gl Gm Gn Go Gp. -/
import Derived.Test.YteembinfgbapgaaGreatA07
import Derived.Deep.RegionWith
import Derived.IntWalk
import Derived.WalkSpells
import Derived.Laws.CopyOwn
import Derived.Deep.RegionHeld3
import Derived.Deep.AppendLies
import Derived.Lib.AppendStr
set_option linter.unusedSimpArgs false
set_option linter.unusedVariables false
set_option maxRecDepth 100000
set_option maxHeartbeats 8000000
namespace Go.Proofs.YteembinfgbapgaaGreat
section
open Go.RowKit
def locF (fs:List Fd) (len:Nat) (nm:ByteArray):Int ⊕ (Nat×Fd):=
 if rightF fs && decide (len=sizeF fs) then(if findZ fs nm<0 then .inl 61 else .inr ((layL fs).getD (findZ fs nm).toNat 0,fs.getD (findZ fs nm).toNat Fd.z)) else .inl 60
theorem layL_length {fs:List Fd} (h:rightF fs=true):(layL fs).length=fs.length:=by rw[layL,if_pos h,List.length_map,seqF_length]
theorem loc_bad {fs:List Fd} {len:Nat} {nm:ByteArray} {q:Int} (h:locF fs len nm=.inl q):(q=60∧(rightF fs=false∨¬len=sizeF fs))∨(q=61∧rightF fs=true∧len=sizeF fs∧findZ fs nm<0):=by
 unfold locF at h
 split at h
 ·rename_i hr
  simp only[Bool.and_eq_true,decide_eq_true_eq] at hr
  split at h
  ·cases h;exact .inr ⟨rfl,hr.1,hr.2,by assumption⟩
  ·cases h
 ·rename_i hr
  cases h
  refine .inl ⟨rfl,?_⟩
  cases h2:rightF fs
  ·exact .inl rfl
  ·exact .inr fun e=>hr (by rw[h2,decide_eq_true e];rfl)
theorem loc_ok {fs:List Fd} {len:Nat} {nm:ByteArray} {at_:Nat} {f:Fd} (h:locF fs len nm=.inr (at_,f)):rightF fs=true∧len=sizeF fs∧∃k:Nat,findZ fs nm=k∧fs[k]?=some f∧(layL fs)[k]?=some at_:=by
 unfold locF at h
 split at h
 ·rename_i hr
  simp only[Bool.and_eq_true,decide_eq_true_eq] at hr
  split at h
  ·cases h
  ·rename_i hk
   have hb:=findZ_ge fs nm
   have h1:(findZ fs nm).toNat<fs.length:=by omega
   have h2:(findZ fs nm).toNat<(layL fs).length:=by rw[layL_length hr.1];exact h1
   cases h
   refine⟨hr.1,hr.2,(findZ fs nm).toNat,by omega,?_,?_⟩
   ·rw[List.getD_eq_getElem?_getD,List.getElem?_eq_getElem h1];rfl
   ·rw[List.getD_eq_getElem?_getD,List.getElem?_eq_getElem h2];rfl
 ·cases h
theorem endF_append (nx:Nat) (a b:List Fd):endF nx (a++b)=endF (endF nx a) b:=by
 induction a generalizing nx with
 |nil=>rfl
 |cons g r ih=>exact ih _
theorem endF_ge {nx:Nat} {fs:List Fd} (h:MayF fs):nx≤endF nx fs:=by
 induction fs generalizing nx with
 |nil=>simp[endF]
 |cons g r ih=>
  have h1:=atF_le (nx:=nx) (h g (List.mem_cons_self ..))
  have h3:=ih (nx:=atF nx g+g.n) (fun f hf=>h f (List.mem_cons_of_mem _ hf))
  rw[endF];omega
theorem seqF_get {fs:List Fd} {k:Nat} {f:Fd} (nx:Nat) (hf:fs[k]?=some f):(seqF nx fs)[k]?=some (atF (endF nx (fs.take k)) f,f):=by
 induction fs generalizing nx k with
 |nil=>simp at hf
 |cons g r ih=>
  cases k with
  |zero=>simp at hf;subst hf;rfl
  |succ k=>
   have:=ih (atF nx g+g.n) (k:=k) (by simpa using hf)
   simpa[seqF,endF] using this
theorem lay_end {fs:List Fd} (hm:MayF fs) {k:Nat} {f:Fd} (hf:fs[k]?=some f):atF (endF 0 (fs.take k)) f+f.n≤endF 0 fs:=by
 obtain⟨_,e2⟩:=seqF_take hf
 rw[←e2]
 have e:fs=fs.take (k+1)++fs.drop (k+1):=(List.take_append_drop _ _).symm
 conv=>rhs;rw[e,endF_append]
 exact endF_ge fun g hg=>hm g (List.mem_of_mem_drop hg)
theorem loc_in {fs:List Fd} {len:Nat} {nm:ByteArray} {at_:Nat} {f:Fd} (h:locF fs len nm=.inr (at_,f)):mayB f.k f.l=true∧at_+f.n≤len∧len≤4096∧0<f.n:=by
 obtain⟨hr,hl,k,hk,hf,hat⟩:=loc_ok h
 obtain⟨hm,_⟩:=rightF_may hr
 have hmf:=hm f (List.mem_of_getElem? hf)
 refine⟨hmf,?_,by have:=sizeF_le fs;omega,Fd.n_pos hmf⟩
 rw[layL,if_pos hr,List.getElem?_map,seqF_get 0 hf] at hat
 simp at hat
 have h1:=lay_end hm hf
 have h2:=upN_le (endF 0 fs) 8 (by omega)
 rw[hl,sizeF,if_pos hr]
 omega
theorem place_bad (Ab:Option Addr) (nb cb:Nat) (A:Option Addr) (c:Nat) (fs:List Fd) (nm:ByteArray) (q:Int) (h:locF fs nb nm=.inl q) (w:World) (hA:Rd w A (cellsF fs)) (hl:fs.length≤9223372036854775807):
 Calls Tryz.prog 106 #[.slice Ab nb cb,.slice A fs.length c,.string nm] w fun e w'=>e=.returned (.tuple #[.int .i64 0,.agg #[.string ⟨#[]⟩,.int .i64 0,.int .i64 0],.int .i64 q])∧Below w.heap.size w w':=by
 rcases loc_bad h with ⟨rfl,h0⟩|⟨rfl,h1,h2,h3⟩
 ·exact place_form Ab nb cb A c fs nm w hA hl h0
 ·exact place_none Ab nb cb A c fs nm w hA hl h1 h2 h3
theorem place_is (Ab:Option Addr) (nb cb:Nat) (A:Option Addr) (c:Nat) (fs:List Fd) (nm:ByteArray) (at_:Nat) (f:Fd) (h:locF fs nb nm=.inr (at_,f)) (w:World) (hA:Rd w A (cellsF fs)) (hl:fs.length≤9223372036854775807):
 Calls Tryz.prog 106 #[.slice Ab nb cb,.slice A fs.length c,.string nm] w fun e w'=>e=.returned (.tuple #[.int .i64 at_,.agg #[.string f.s,.int .i64 f.k,.int .i64 f.l],.int .i64 0])∧Below w.heap.size w w':=by
 obtain⟨hr,hn,k,hk,hf,hat⟩:=loc_ok h
 exact place_ok Ab nb cb A c fs nm w hA hl hr hn k f at_ hk hf hat
structure Vl where
 k:Int
 b:Int
 t:ByteArray
def Vl.v (x:Vl):Value:=.agg #[.int .i64 x.k,.int .u64 x.b,.string x.t]
def Vl.z:Vl:=⟨0,0,⟨#[]⟩⟩
def decF (l:List UInt8) (f:Fd):Vl:=if decB l f.k f.l=true then⟨f.k,decZ l f.k f.l,decT l f.k⟩ else Vl.z
theorem decF_v (l:List UInt8) (f:Fd):decV l f.k f.l=(decF l f).v:=by
 unfold decF
 cases h:decB l f.k f.l
 ·rw[(decV_no h).1];rfl
 ·rw[(decV_ok h).1];rfl
def getV (b:List UInt8) (fs:List Fd) (nm:ByteArray):Vl:=match locF fs b.length nm with
 |.inl _=>Vl.z
 |.inr (at_,f)=>decF ((b.drop at_).take f.n) f
def getE (b:List UInt8) (fs:List Fd) (nm:ByteArray):Int:=match locF fs b.length nm with
 |.inl q=>q
 |.inr (at_,f)=>decE ((b.drop at_).take f.n) f.k f.l
theorem Decode_is (A:Option Addr) (c m:Nat) (l:List UInt8) (s:ByteArray) (k long:Int) (v:Vl) (q:Int) (w:World) (hA:Rd w A (bytesV l)) (hm:l.length=m) (hl:m≤9223372036854775807) (hv:decV l k long=v.v) (hq:decE l k long=q):
 Calls Tryz.prog 88 #[.slice A m c,.agg #[.string s,.int .i64 k,.int .i64 long]] w fun e w'=>e=.returned (.tuple #[.agg #[.int .i64 v.k,.int .u64 v.b,.string v.t],.int .i64 q])∧Below w.heap.size w w':=by
 subst hq hm
 have:=Decode_calls A c l s k long w hA hl
 rw[hv] at this
 exact this
theorem Rd.slice {w:World} {ad:Addr} {l:List UInt8} (h:Rd w (some ad) (bytesV l)) (i n:Nat):Rd w (some (ad.add i)) (bytesV ((l.drop i).take n)):=fun hne=>by
 obtain⟨ad',e,hc⟩:=h (by rintro e;simp[bytesV] at e;subst e;simp[bytesV] at hne)
 cases e
 refine⟨_,rfl,fun j u hj=>?_⟩
 rw[Addr.add_add]
 apply hc
 simp only[bytesV,List.getElem?_map,List.getElem?_take,List.getElem?_drop] at hj ⊢
 split at hj
 ·exact hj
 ·simp at hj
theorem Rd.some_of {w:World} {A:Option Addr} {cs:List Value} (h:Rd w A cs) (hne:cs≠[]):∃ad,A=some ad:=by
 obtain⟨ad,e,_⟩:=h hne;exact⟨ad,e⟩
theorem Get_bad (Ab:Option Addr) (cb:Nat) (b:List UInt8) (A:Option Addr) (c:Nat) (fs:List Fd) (nm:ByteArray) (q:Int) (h:locF fs b.length nm=.inl q) (w:World) (hA:Rd w A (cellsF fs)) (hl:fs.length≤9223372036854775807):
 Calls Tryz.prog 71 #[.slice Ab b.length cb,.slice A fs.length c,.string nm] w fun e w'=>e=.returned (.tuple #[.agg #[.int .i64 0,.int .u64 0,.string ⟨#[]⟩],.int .i64 q])∧Below w.heap.size w w':=by
 have hq:(q != 0)=true:=by rcases loc_bad h with ⟨rfl,_⟩|⟨rfl,_⟩ <;> rfl
 have H:=Lib.hid h
 clear h
 go_enter Tryz.func71,Tryz.ntmps71
 go_wp2_with (go_at_call 106;refine(place_bad Ab b.length cb A c fs nm q H.out _ (hA.below (below_new _)) hl).mono ?_;rintro e w1 ⟨rfl,hb1⟩;obtain⟨k0,k1,k2,f0,f1,f2⟩:=((OBox.new w [.int .i64 0,.int .u64 0,.string ⟨#[]⟩] 71).below hb1).f3;have HB:=below_seq (below_new _) hb1;have hz1:w.heap.size<w1.heap.size:=(by have:=hb1.size;simp at this;omega))
 refine bodyPost_ret (v:=.tuple #[.agg #[.int .i64 0,.int .u64 0,.string ⟨#[]⟩],.int .i64 q]) (by simp[results,Tryz.results71,go_sem, *];done) rfl ⟨rfl,?_⟩
 (repeat (first|exact HB|refine Below.setCell ?_ (by dsimp only;omega) _|refine Below.alloc ?_ (by have hs_:=HB.size;first|(simp;done)|(simp;omega)|omega) _|apply Below.drew))
theorem Get_ok (Ab:Option Addr) (cb:Nat) (b:List UInt8) (A:Option Addr) (c:Nat) (fs:List Fd) (nm:ByteArray) (at_:Nat) (f:Fd) (h:locF fs b.length nm=.inr (at_,f)) (w:World) (hA:Rd w A (cellsF fs)) (hl:fs.length≤9223372036854775807) (hb:Rd w Ab (bytesV b)) (hcb:b.length≤cb):
 Calls Tryz.prog 71 #[.slice Ab b.length cb,.slice A fs.length c,.string nm] w fun e w'=>e=.returned (.tuple #[(decF ((b.drop at_).take f.n) f).v,.int .i64 (decE ((b.drop at_).take f.n) f.k f.l)])∧Below w.heap.size w w':=by
 obtain⟨hm,hin,hlen,hn⟩:=loc_in h
 have hn2:=f.n_le
 obtain⟨bd,rfl⟩:=hb.some_of (by simp[bytesV];intro e;subst e;simp at hin;omega)
 have hdl:((b.drop at_).take f.n).length=f.n:=by rw[List.length_take,List.length_drop];omega
 obtain⟨dv,hdv⟩:∃x,decF ((b.drop at_).take f.n) f=x:=⟨_,rfl⟩
 obtain⟨de,hde⟩:∃x,decE ((b.drop at_).take f.n) f.k f.l=x:=⟨_,rfl⟩
 rw[hdv,hde]
 have HDV:=Lib.hid ((decF_v _ f).trans (congrArg Vl.v hdv))
 have HDE:=Lib.hid hde
 have HDL:=Lib.hid hdl
 have HN:=Lib.hid f.n_eq.symm
 have H:=Lib.hid h
 clear h hdv hde hdl
 go_enter Tryz.func71,Tryz.ntmps71
 go_wp2_with (go_at_call 106;refine(place_is (some bd) b.length cb A c fs nm at_ f H.out _ (hA.below (below_new _)) hl).mono ?_;rintro e w1 ⟨rfl,hb1⟩;have O1:=((OBox.new w [.int .i64 0,.int .u64 0,.string ⟨#[]⟩] 71).below hb1);obtain⟨k0,k1,k2,f0,f1,f2⟩:=O1.f3;have HB:=below_seq (below_new _) hb1;have hz1:w.heap.size<w1.heap.size:=(by have:=hb1.size;simp at this;omega))
 have F0:=FBox.new w1 f.s f.k f.l
 have O2:=O1.below (below_new (w:=w1) (.cells #[.string f.s,.int .i64 f.k,.int .i64 f.l] 68))
 have hbs:=((hb.slice at_ f.n).below (below_new _)).below hb1 |>.below (below_new (w:=w1) (.cells #[.string f.s,.int .i64 f.k,.int .i64 f.l] 68))
 have hcut:(at_:Int)+(f.n:Int)≤(cb:Int):=by omega
 have hcut2:(at_:Int)≤(at_:Int)+(f.n:Int):=by omega
 have hcut3:((at_:Int)+(f.n:Int)).toNat=at_+f.n:=by omega
 have hcut4:¬cb=at_:=by omega
 have hlong:f.n≤9223372036854775807:=by omega
 have hcut0:(0:Int)≤(at_:Int)+(f.n:Int):=by omega
 have hcut5:IntKind.i64.wrap ((at_:Int)+(f.n:Int))=(at_:Int)+(f.n:Int):=IntWalk.i64_in _ (by omega)
 obtain⟨WX,hWX⟩:∃WX,w1.alloc (.cells #[.string f.s,.int .i64 f.k,.int .i64 f.l] 68)=WX:=⟨_,rfl⟩
 have HB:=HB.alloc (by omega) (.cells #[.string f.s,.int .i64 f.k,.int .i64 f.l] 68)
 have hzx:w1.heap.size<WX.heap.size:=by rw[←hWX];simp
 rw[hWX] at F0 O2 hbs HB ⊢
 clear hWX k0 k1 k2 f0 f1 f2 O1 hb1 hb hA
 obtain⟨c0,c1,c2⟩:=F0
 obtain⟨k0,k1,k2,f0,f1,f2⟩:=O2.f3
 have F1:FBox WX.drew w1.heap.size f.s f.k f.l:=⟨c0,c1,c2⟩
 have O3:OBox WX.drew w.heap.size [.int .i64 0,.int .u64 0,.string ⟨#[]⟩] 71:=O2
 have hbs:Rd WX.drew (some (bd.add at_)) (bytesV ((b.drop at_).take f.n)):=hbs
 have HB:=HB.drew
 clear H O2
 go_region_with (first
  |(go_at_call 89;refine(Long_is _ _ _ _ HN.out _).mono ?_;rintro e w2 ⟨rfl,hb2⟩;obtain⟨e0,e1,e2⟩:=F1.below hb2)
  |(go_at_call 88;refine(Decode_is _ _ f.n _ _ _ _ dv de _ (hbs.below hb2) HDL.out hlong HDV.out HDE.out).mono ?_;rintro e w3 ⟨rfl,hb3⟩;obtain⟨l0,l1,l2,m0,m1,m2⟩:=((O3.below hb2).below hb3).f3))
 all_goals go_wp2
 all_goals refine bodyPost_ret (v:=.tuple #[.agg #[.int .i64 dv.k,.int .u64 dv.b,.string dv.t],.int .i64 de]) (by simp[results,Tryz.results71,go_sem, *];done) rfl ⟨rfl,?_⟩
 all_goals have HB:=below_seq (below_seq HB hb2) hb3
 all_goals (repeat (first|exact HB|refine Below.setCell ?_ (by dsimp only;omega) _|refine Below.alloc ?_ (by have hs_:=HB.size;first|(simp;done)|(simp;omega)|omega) _|apply Below.drew))
theorem Get_calls (Ab:Option Addr) (cb:Nat) (b:List UInt8) (A:Option Addr) (c:Nat) (fs:List Fd) (nm:ByteArray) (w:World) (hA:Rd w A (cellsF fs)) (hl:fs.length≤9223372036854775807) (hb:Rd w Ab (bytesV b)) (hcb:b.length≤cb):
 Calls Tryz.prog 71 #[.slice Ab b.length cb,.slice A fs.length c,.string nm] w fun e w'=>e=.returned (.tuple #[(getV b fs nm).v,.int .i64 (getE b fs nm)])∧Below w.heap.size w w':=by
 cases h:locF fs b.length nm with
 |inl q=>
  have e1:getV b fs nm=Vl.z:=by simp[getV,h]
  have e2:getE b fs nm=q:=by simp[getE,h]
  rw[e1,e2]
  exact Get_bad Ab cb b A c fs nm q h w hA hl
 |inr x=>
  obtain⟨at_,f⟩:=x
  have e1:getV b fs nm=decF ((b.drop at_).take f.n) f:=by simp[getV,h]
  have e2:getE b fs nm=decE ((b.drop at_).take f.n) f.k f.l:=by simp[getE,h]
  rw[e1,e2]
  exact Get_ok Ab cb b A c fs nm at_ f h w hA hl hb hcb
theorem Clone_calls (A:Option Addr) (c:Nat) (b:List UInt8) (w:World) (hA:Rd w A (bytesV b)) (hl:b.length≤140737488355328):
 Calls Tryz.prog 38 #[.slice A b.length c] w fun e w'=>∃v,e=.returned v∧w'.ownsRow w.heap.size 5 1 v b.length (bytesV b)∧Below w.heap.size w w':=by
 obtain⟨i0,hi,hz0,hz1,hz2⟩:=info_parts info5
 cases A with
 |none=>
  obtain rfl:b=[]:=by
   cases b with
   |nil=>rfl
   |cons x r=>obtain⟨ad,e,_⟩:=hA (by simp[bytesV]);cases e
  have heq:∀w:World,(binOp .eql 44 (.slice none 0 c) (.slice none 0 0)).run Tryz.prog w=.ok (.bool true) w:=fun w=>Lib.run_eql_slice_nil (P:=Tryz.prog) w 44 5 none 0 c 0 0 Tryz.underlying44
  go_enter Tryz.func38,Tryz.ntmps38
  go_wp2
  go_ret
  exact⟨_,rfl,own_nil _ _ _ _,Below.refl _ _⟩
 |some ad=>
  have heq:∀w:World,(binOp .eql 44 (.slice (some ad) b.length c) (.slice none 0 0)).run Tryz.prog w=.ok (.bool false) w:=fun w=>Lib.run_eql_slice_nil (P:=Tryz.prog) w 44 5 (some ad) b.length c 0 0 Tryz.underlying44
  have hown:(w.alloc (.cells #[] 5)).ownsRow w.heap.size 5 1 (.slice (some ⟨w.heap.size,0,none⟩) 0 0) 0 []:=⟨rfl,.inr ⟨_,0,#[],rfl,Nat.le_refl _,World.alloc_heap_new _ _,Nat.le_refl _,Nat.zero_le _,rfl,rfl⟩⟩
  have hA2:=hA.below (below_new (.cells #[] 5))
  go_enter Tryz.func38,Tryz.ntmps38
  go_wp2_with (at_builtin;refine wpList_append_own _ rfl _ _ 44 rfl w.heap.size 5 i0 (.int .u8 0) 1 1 Tryz.underlying44 hi hz0 hz1 hz2 rfl (by decide) _ _ _ rfl hown ad b.length c (bytesV b) rfl ?c0 ?c1 ?c2 ?c3 ?c4 ?c5 ?_)
  case c0=>rw[bytesV_length];omega
  case c1=>
   intro j u hj
   obtain⟨ad',e,h⟩:=hA2 (by rintro e;rw[e] at hj;simp at hj)
   cases e;exact h j u hj
  case c2=>intro u hu;simp[bytesV] at hu;obtain⟨x,_,rfl⟩:=hu;rfl
  case c3=>simp only[maxLen];omega
  case c4=>omega
  case c5=>simp
  intro v' w1 hown' hgrow _
  have hB:=(below_new (w:=w) (.cells #[] 5)).grown hgrow (by simp) (fun q hq=>own_base hown q hq)
  clear hown hgrow
  go_wp2
  go_ret
  exact⟨_,rfl,hown',hB⟩
theorem encL_length {bits:Int} {tx:ByteArray} {f:Fd} {vk:Int} (h:rightB vk bits tx f.k f.l=true):(encL bits tx f.k f.l).length=f.n:=by
 obtain⟨hm,_,ht,_⟩:=right_may h
 unfold encL Fd.n
 split
 ·rename_i hk
  rw[if_pos hk] at ht
  rw[hk] at hm ⊢
  rw[long_12 hm,bl_length];omega
 ·rw[leL_length]
def overB (b:List UInt8) (i:Nat) (x:List UInt8):List UInt8:=b.take i++x++b.drop (i+x.length)
theorem overB_length {b:List UInt8} {i:Nat} {x:List UInt8} (h:i+x.length≤b.length):(overB b i x).length=b.length:=by simp[overB];omega
def setB (b:List UInt8) (fs:List Fd) (nm:ByteArray) (v:Vl):List UInt8:=match locF fs b.length nm with
 |.inl _=>[]
 |.inr (at_,f)=>if rightB v.k v.b v.t f.k f.l=true then overB b at_ (encL v.b v.t f.k f.l) else[]
def setE (b:List UInt8) (fs:List Fd) (nm:ByteArray) (v:Vl):Int:=match locF fs b.length nm with
 |.inl q=>q
 |.inr (_,f)=>if rightB v.k v.b v.t f.k f.l=true then 0 else 50
theorem bytesV_take (l:List UInt8) (n:Nat):(bytesV l).take n=bytesV (l.take n):=by simp[bytesV]
theorem bytesV_drop (l:List UInt8) (n:Nat):(bytesV l).drop n=bytesV (l.drop n):=by simp[bytesV]
theorem splice_take {cur:List Value} {b x:List UInt8} {i:Nat} (hc:cur.take b.length=bytesV b) (h:i+x.length≤b.length):(splice cur i (bytesV x)).take b.length=bytesV (overB b i x):=by
 have hlen:b.length≤cur.length:=by
  have:=congrArg List.length hc
  rw[List.length_take,bytesV_length] at this;omega
 have h1:cur.take i=bytesV (b.take i):=by rw[←bytesV_take,←hc,List.take_take,Nat.min_eq_left (by omega)]
 have h2:(cur.drop (i+x.length)).take (b.length - (i+x.length))=bytesV (b.drop (i+x.length)):=by
  rw[←bytesV_drop,←hc,List.drop_take]
 rw[splice,bytesV_length,h1,overB,bytesV_append,bytesV_append,List.append_assoc]
 rw[List.take_append,List.take_append,bytesV_length,bytesV_length,List.take_of_length_le (by rw[bytesV_length,List.length_take];omega),List.take_of_length_le (l:=bytesV x) (by rw[bytesV_length,List.length_take];omega)]
 congr 2
 rw[←h2]
 congr 1
 rw[List.length_take];omega
theorem sz5:(Tryz.prog.info? 5).map (·.size)=some 1:=by kernel_rfl
theorem own_some {w:World} {base:Nat} {e:TypeId} {n:Nat} {v:Value} {xs:List Value} (h:w.ownsRow base e 1 v n xs) (hn:0<n):∃g cap cur,v=.slice (some ⟨g,0,none⟩) n cap∧base≤g∧OBox w g cur e∧n≤cap∧cap≤maxLen∧cur.length=cap∧cur.take n=xs:=by
 obtain⟨h1,⟨_,h0⟩|⟨g,cap,cur,rfl,hg,hgb,hnc,hcm,hcs,hct⟩⟩:=h
 ·omega
 ·exact⟨g,cap,cur.toList,rfl,hg,hgb,hnc,hcm,by rw[Array.length_toList,hcs];omega,by simpa using hct⟩
theorem Set_bad (Ab:Option Addr) (cb:Nat) (b:List UInt8) (A:Option Addr) (c:Nat) (fs:List Fd) (nm:ByteArray) (v:Vl) (q:Int) (h:locF fs b.length nm=.inl q) (w:World) (hA:Rd w A (cellsF fs)) (hl:fs.length≤9223372036854775807):
 Calls Tryz.prog 75 #[.slice Ab b.length cb,.slice A fs.length c,.string nm,v.v] w fun e w'=>e=.returned (.tuple #[.slice none 0 0,.int .i64 q])∧Below w.heap.size w w':=by
 have hq:(q != 0)=true:=by rcases loc_bad h with ⟨rfl,_⟩|⟨rfl,_⟩ <;> rfl
 have H:=Lib.hid h
 clear h
 unfold Vl.v
 go_enter Tryz.func75,Tryz.ntmps75
 go_wp2_with (go_at_call 106;refine(place_bad Ab b.length cb A c fs nm q H.out _ (hA.below (below_new _)) hl).mono ?_;rintro e w1 ⟨rfl,hb1⟩;have HB:=below_seq (below_new _) hb1;have hz1:w.heap.size<w1.heap.size:=(by have:=hb1.size;simp at this;omega))
 go_ret2
 refine⟨rfl,?_⟩
 (repeat (first|exact HB|refine Below.setCell ?_ (by dsimp only;omega) _|refine Below.alloc ?_ (by have hs_:=HB.size;first|(simp;done)|(simp;omega)|omega) _|apply Below.drew))
theorem Set_not (Ab:Option Addr) (cb:Nat) (b:List UInt8) (A:Option Addr) (c:Nat) (fs:List Fd) (nm:ByteArray) (v:Vl) (h0:0≤v.b) (h1:v.b<18446744073709551616) (at_:Nat) (f:Fd) (h:locF fs b.length nm=.inr (at_,f)) (hr:rightB v.k v.b v.t f.k f.l=false) (w:World) (hA:Rd w A (cellsF fs)) (hl:fs.length≤9223372036854775807):
 Calls Tryz.prog 75 #[.slice Ab b.length cb,.slice A fs.length c,.string nm,v.v] w fun e w'=>e=.returned (.tuple #[.slice none 0 0,.int .i64 50])∧Below w.heap.size w w':=by
 have H:=Lib.hid h
 have HR:=Lib.hid hr
 clear h hr
 unfold Vl.v
 go_enter Tryz.func75,Tryz.ntmps75
 go_wp2_with (first
  |(go_at_call 106;refine(place_is Ab b.length cb A c fs nm at_ f H.out _ (hA.below (below_new _)) hl).mono ?_;rintro e w1 ⟨rfl,hb1⟩;have HB:=below_seq (below_new _) hb1;have hz1:w.heap.size<w1.heap.size:=(by have:=hb1.size;simp at this;omega);obtain⟨c0,c1,c2⟩:=(VBox.new w v.k v.b v.t).below hb1)
  |(go_at_call 61;refine(Encode_none _ _ _ _ _ _ h0 h1 HR.out _).mono ?_;rintro e w2 ⟨rfl,hb2⟩;have HB:=below_seq (HB.alloc (by omega) _) hb2))
 go_ret2
 refine⟨rfl,?_⟩
 (repeat (first|exact HB|refine Below.setCell ?_ (by dsimp only;omega) _|refine Below.alloc ?_ (by have hs_:=HB.size;first|(simp;done)|(simp;omega)|omega) _|apply Below.drew))
theorem Set_ok (Ab:Option Addr) (cb:Nat) (b:List UInt8) (A:Option Addr) (c:Nat) (fs:List Fd) (nm:ByteArray) (v:Vl) (h0:0≤v.b) (h1:v.b<18446744073709551616) (at_:Nat) (f:Fd) (h:locF fs b.length nm=.inr (at_,f)) (hr:rightB v.k v.b v.t f.k f.l=true) (w:World) (hA:Rd w A (cellsF fs)) (hl:fs.length≤9223372036854775807) (hb:Rd w Ab (bytesV b)):
 Calls Tryz.prog 75 #[.slice Ab b.length cb,.slice A fs.length c,.string nm,v.v] w fun e w'=>∃x,e=.returned (.tuple #[x,.int .i64 0])∧OutB w' x (overB b at_ (encL v.b v.t f.k f.l))∧Below w.heap.size w w':=by
 obtain⟨hm,hin,hlen,hn⟩:=loc_in h
 have hel:=encL_length hr
 obtain⟨xs,hxs⟩:∃xs,encL v.b v.t f.k f.l=xs:=⟨_,rfl⟩
 rw[hxs] at hel ⊢
 have H:=Lib.hid h
 have HR:=Lib.hid hr
 have HX:=Lib.hid hxs
 clear h hr hxs
 unfold Vl.v
 go_enter Tryz.func75,Tryz.ntmps75
 go_wp2_with (first
  |(go_at_call 106;refine(place_is Ab b.length cb A c fs nm at_ f H.out _ (hA.below (below_new _)) hl).mono ?_;rintro e w1 ⟨rfl,hb1⟩;have HB:=below_seq (below_new _) hb1;have hz1:w.heap.size<w1.heap.size:=(by have:=hb1.size;simp at this;omega);obtain⟨c0,c1,c2⟩:=(VBox.new w v.k v.b v.t).below hb1;have hbw:=(hb.below (below_new _)).below hb1)
  |(go_at_call 61;refine(Encode_some _ _ _ _ _ _ h0 h1 HR.out _).mono ?_;rintro e w2 ⟨xv,rfl,hox,hb2⟩;have HB:=below_seq (HB.alloc (by omega) _) hb2;rw[HX.out] at hox;have hz2:=HB.size;have hbw:=(hbw.below (below_new _)).below hb2)
  |(go_at_call 38;refine(Clone_calls Ab cb b _ hbw (by omega)).mono ?_;rintro e w3 ⟨ov,rfl,hown,hb3⟩;have HB:=below_seq HB hb3;have hox:=hox.below hb3;obtain⟨XA,xc,rfl,hxc,hxr⟩:=hox;obtain⟨g,cap,cur,rfl,hg,hO,hnc,hcm,hcs,hct⟩:=own_some hown (by omega);have s1:(at_:Int)≤(b.length:Int):=(by omega);have s2:¬cap=at_:=(by omega);have s3:¬b.length=at_:=(by omega);have hO':w3.heap[g]?=some (.cells cur.toArray 5 (0,0)):=hO;clear hO)
  |(with_reducible refine wpList_copy_splice rfl _ _ 44 44 rfl 5 Tryz.underlying44 sz5 (some ⟨g,at_,none⟩) XA (b.length - at_) (cap - at_) f.n xc rfl rfl g at_ cur 5 hO' (bytesV xs) ?n ?pos ?fit ?one w.heap.size w HB ?hg ?_))
 case n=>rw[bytesV_length,hel];exact(Nat.min_eq_left (by omega)).symm
 case pos=>
  intro h
  obtain⟨ad,rfl,hc⟩:=hxr (by intro e;rw[e] at h;simp at h)
  first|exact⟨rfl,ad,rfl,hc⟩|exact⟨ad,rfl,hc⟩
 case fit=>rw[bytesV_length];omega
 case one=>intro u hu;simp[bytesV] at hu;obtain⟨x,_,rfl⟩:=hu;rfl
 case hg=>omega
 intro w4 hO4 hB4
 have hO4:=hO4.out
 have hr4:Rd w4 (some ⟨g,0,none⟩) (bytesV (overB b at_ xs)):=by
  rw[←splice_take hct (by omega)]
  refine fun _=>⟨_,rfl,fun j u hj=>?_⟩
  have e:(⟨g,0,none⟩:Addr).add j=⟨g,j,none⟩:=by unfold Addr.add;split <;> simp_all
  rw[e]
  rw[List.getElem?_take] at hj
  split at hj
  ·exact OBox.cell (w:=w4) hO4 hj
  ·cases hj
 clear hO4
 go_wp2
 go_ret2
 exact⟨.slice (some ⟨g,0,none⟩) b.length cap,rfl,⟨_,cap,by rw[overB_length (by omega)],by rw[overB_length (by omega)];exact hnc,hr4⟩,hB4⟩
theorem Set_calls (Ab:Option Addr) (cb:Nat) (b:List UInt8) (A:Option Addr) (c:Nat) (fs:List Fd) (nm:ByteArray) (v:Vl) (h0:0≤v.b) (h1:v.b<18446744073709551616) (w:World) (hA:Rd w A (cellsF fs)) (hl:fs.length≤9223372036854775807) (hb:Rd w Ab (bytesV b)):
 Calls Tryz.prog 75 #[.slice Ab b.length cb,.slice A fs.length c,.string nm,v.v] w fun e w'=>∃x,e=.returned (.tuple #[x,.int .i64 (setE b fs nm v)])∧OutB w' x (setB b fs nm v)∧Below w.heap.size w w':=by
 cases h:locF fs b.length nm with
 |inl q=>
  have e1:setB b fs nm v=[]:=by simp[setB,h]
  have e2:setE b fs nm v=q:=by simp[setE,h]
  rw[e1,e2]
  refine(Set_bad Ab cb b A c fs nm v q h w hA hl).mono ?_
  rintro e w' ⟨rfl,hb⟩
  exact⟨_,rfl,⟨none,0,rfl,Nat.le_refl _,Rd.nil _ _⟩,hb⟩
 |inr x=>
  obtain⟨at_,f⟩:=x
  cases hr:rightB v.k v.b v.t f.k f.l
  ·have e1:setB b fs nm v=[]:=by simp[setB,h,hr]
   have e2:setE b fs nm v=50:=by simp[setE,h,hr]
   rw[e1,e2]
   refine(Set_not Ab cb b A c fs nm v h0 h1 at_ f h hr w hA hl).mono ?_
   rintro e w' ⟨rfl,hb⟩
   exact⟨_,rfl,⟨none,0,rfl,Nat.le_refl _,Rd.nil _ _⟩,hb⟩
  ·have e1:setB b fs nm v=overB b at_ (encL v.b v.t f.k f.l):=by simp[setB,h,hr]
   have e2:setE b fs nm v=0:=by simp[setE,h,hr]
   rw[e1,e2]
   exact Set_ok Ab cb b A c fs nm v h0 h1 at_ f h hr w hA hl hb
def rowF (f:Fd):List UInt8:=UInt8.ofNat f.s.size :: (bl f.s++[UInt8.ofNat f.k.toNat,UInt8.ofNat f.l.toNat])
def encFL (fs:List Fd):List UInt8:=UInt8.ofNat fs.length :: fs.flatMap rowF
theorem rowF_length (f:Fd):(rowF f).length=f.s.size+3:=by simp[rowF,bl_length]
theorem flat_length (fs:List Fd) (h:∀f∈fs,f.s.size≤15):(fs.flatMap rowF).length≤18 * fs.length:=by
 induction fs with
 |nil=>simp
 |cons f r ih=>
  have h1:=h f (List.mem_cons_self ..)
  have h2:=ih fun g hg=>h g (List.mem_cons_of_mem _ hg)
  rw[List.flatMap_cons,List.length_append,rowF_length,List.length_cons];omega
theorem name_size {s:ByteArray} (h:nameB s=true):1≤s.size∧s.size≤15:=by
 simp only[nameB,Bool.and_eq_true,decide_eq_true_eq] at h
 exact h.2
theorem rightF_name {fs:List Fd} (h:rightF fs=true) {f:Fd} (hf:f∈fs):nameB f.s=true:=by
 simp only[rightF,Bool.and_eq_true,decide_eq_true_eq] at h
 obtain⟨i,hi,rfl⟩:=List.getElem_of_mem hf
 have:=h.1 i hi
 simp only[okF,Bool.and_eq_true] at this
 exact this.1.1
theorem may_small {k l:Int} (h:mayB k l=true):0≤k∧k≤12∧0≤l∧l≤64:=by
 by_cases hk:k=12
 ·subst hk
  have:=btw_iff.1 (mayB_12▸h)
  omega
 ·obtain⟨h1,h2⟩:=mayB_of h hk
  have:=(size_pos k).1 h2
  omega
theorem step_append_str {P:Program} {w:World} {ops:Array Oper} {o:Oper} {a:Act} {K:Act→World→Prop} {Q:Exit→Act→World→Prop} {E:Prop} (hgd:o.guard=none) (sl x:Operand) (t u:TypeId)
 (ho:o.op=.call { callee:=.builtin .append,args:=#[sl,x],argTypes:=#[t,u] })
 (base:Nat) (e:TypeId) (i:TypeInfo) (ht:P.underlying t=some (.slice e)) (hu:P.underlying u=some .string) (hi:P.info? e=some i) (hz:i.zero=some (.int .u8 0))
 (hsize:i.size=1) (hby:i.bytes=1)
 (v:Value) (n:Nat) (xs:List Value) (hs:a.eval sl=v) (hown:w.ownsRow base e 1 v n xs) (s:ByteArray) (hx:a.eval x=.string s)
 (h63:n+s.size≤maxLen) (hbytes:n+s.size≤140737488355328) (hbase:base≤w.heap.size)
 (h:∀v' w',w'.ownsRow base e 1 v' (n+s.size) (xs++Lib.strCells s)→w.grownBy w' v.ownBlock→K (a.put o.dst v') w'):
 if Region.wanted o (yielded ops a.tmps)=true then Oper.wp P o a w K Q else E:=by
 have hw:Region.wanted o (yielded ops a.tmps)=true:=by simp[Region.wanted,hgd]
 rw[if_pos hw]
 obtain⟨v',w',hr,h2,h3,h4⟩:=Lib.run_append_own_string (P:=P) w base t u o.type e i ht hu hi hz hsize hby v n xs hown s h63 hbytes hbase
 unfold Oper.wp execOp
 simp only[ho,resolve,invoke,builtin,Sem.run_bind,Sem.run_pure,Result.andThen_ok,List.map_toArray,List.map_cons,List.map_nil,hs,hx,hr]
 exact h v' w' h2 h3
theorem FEncode_no (A:Option Addr) (c:Nat) (fs:List Fd) (hr:rightF fs=false) (w:World) (hA:Rd w A (cellsF fs)) (hl:fs.length≤9223372036854775807):
 Calls Tryz.prog 60 #[.slice A fs.length c] w fun e w'=>e=.returned (.tuple #[.slice none 0 0,.int .i64 60])∧Below w.heap.size w w':=by
 have HR:=Lib.hid hr
 clear hr
 go_enter Tryz.func60,Tryz.ntmps60
 go_wp2_with (go_at_call 62;refine(FRight_is _ _ _ _ HR.out _ hA hl).mono ?_;rintro e w1 ⟨rfl,hb1⟩)
 go_ret2
 exact⟨rfl,hb1⟩
def partF (fs:List Fd) (k:Nat):List UInt8:=UInt8.ofNat fs.length :: (fs.take k).flatMap rowF
theorem partF_succ {fs:List Fd} {k:Nat} {f:Fd} (hf:fs[k]?=some f):partF fs (k+1)=partF fs k++rowF f:=by
 unfold partF
 rw[List.take_add_one,hf]
 simp
theorem own_lt {w:World} {base:Nat} {e:TypeId} {size n:Nat} {v:Value} {xs:List Value} (h:w.ownsRow base e size v n xs) (k:Nat) (hk:v.ownBlock=some k):k<w.heap.size:=by
 rcases h.2 with ⟨rfl,_⟩|⟨g,cap,cur,rfl,hb,hg,_⟩
 ·simp[Value.ownBlock] at hk
 ·have:g=k:=by simpa[Value.ownBlock] using hk
  subst this
  exact(Array.getElem?_eq_some_iff.1 hg).1
theorem own_eq {w:World} {base:Nat} {e:TypeId} {size n m:Nat} {v:Value} {xs ys:List Value} (h:w.ownsRow base e size v n xs) (hn:n=m) (hx:xs=ys):w.ownsRow base e size v m ys:=by subst hn hx;exact h
theorem ne_of_at {b g n:Nat} {o:Option Nat} (h:some b≠o) (hat:o=some g∨g=n+1) (hb:b<n):some b≠some g:=fun e=>by
 cases e
 rcases hat with h1|h1
 ·exact h h1.symm
 ·omega
theorem news2 (w:World) (u v:Value) (T:TypeId):∀j x,[u,v][j]?=some x→(w.alloc (.cells #[u,v] T)).cell? ((⟨w.heap.size,0,none⟩:Addr).add j)=some x:=by
 intro j x hj
 match j with
 |0=>simp at hj;subst hj;exact cell_new w _ T 0 u rfl
 |1=>simp at hj;subst hj;exact cell_new w _ T 1 v rfl
 |j+2=>simp at hj
theorem FEncode_yes (A:Option Addr) (c:Nat) (fs:List Fd) (hr:rightF fs=true) (w:World) (hA:Rd w A (cellsF fs)) (hl:fs.length≤9223372036854775807):
 Calls Tryz.prog 60 #[.slice A fs.length c] w fun e w'=>∃v,e=.returned (.tuple #[v,.int .i64 0])∧w'.ownsRow w.heap.size 5 1 v (encFL fs).length (bytesV (encFL fs))∧Below w.heap.size w w':=by
 obtain⟨i0,hi,hz0,hz1,hz2⟩:=info_parts info5
 obtain⟨hmay,h16⟩:=rightF_may hr
 have hnm:=fun f hf=>name_size (rightF_name hr (f:=f) hf)
 have HR:=Lib.hid hr
 clear hr
 go_enter Tryz.func60,Tryz.ntmps60
 go_wp2_with (go_at_call 62;refine(FRight_is _ _ _ _ HR.out _ hA hl).mono ?_;rintro e w1 ⟨rfl,hb1⟩)
 have e0:bytesV (partF fs 0)=[.int .u8 (fs.length:Int)]:=by simp[partF,bytesV];omega
 have hown0:(w1.alloc (.cells #[.int .u8 (fs.length:Int)] 5)).ownsRow w.heap.size 5 1 (.slice (some ⟨w1.heap.size,0,none⟩) 1 1) (partF fs 0).length (bytesV (partF fs 0)):=by
  rw[e0]
  exact⟨rfl,.inr ⟨_,1,#[.int .u8 (fs.length:Int)],rfl,hb1.size,World.alloc_heap_new _ _,Nat.le_refl _,by decide,rfl,rfl⟩⟩
 have HB0:=hb1.alloc hb1.size (.cells #[.int .u8 (fs.length:Int)] 5)
 clear e0 HR
 go_loopw [4,6,16] (fun v _ i wr=>∃k:Nat,k≤fs.length∧i=.int .i64 k∧wr.ownsRow w.heap.size 5 1 v (partF fs k).length (bytesV (partF fs k))∧Below w.heap.size w wr) (fun _ _ i _=>fs.length - (intOf i).toNat)
 case atStart=>exact⟨0,by omega,rfl,hown0,HB0⟩
 case round=>
  obtain⟨k,hk,rfl,hown,HB⟩:=hrel
  clear hown0 HB0 hb1
  have hAr:=hA.below HB
  by_cases hlt:k<fs.length
  ·obtain⟨f,hf⟩:∃f,fs[k]?=some f:=⟨_,List.getElem?_eq_getElem hlt⟩
   obtain⟨ad,rfl,c0,c1,c2⟩:=hAr.fld hf
   have hfm:=List.mem_of_getElem? hf
   obtain⟨n1,n2⟩:=hnm f hfm
   obtain⟨m1,m2,m3,m4⟩:=may_small (hmay f hfm)
   have hsucc:=partF_succ hf
   have hpl:(partF fs k).length≤400:=by
    have:=flat_length (fs.take k) (fun g hg=>(hnm g (List.mem_of_mem_take hg)).2)
    rw[List.length_take] at this
    simp only[partF,List.length_cons];omega
   have HS:=Lib.hid hsucc
   obtain⟨F0a,F0b,F0c⟩:=FBox.new wr f.s f.k f.l
   have hzr:=HB.size
   have hlt0:=own_lt hown
   have hownW:=hown.alloc (.cells #[.string f.s,.int .i64 f.k,.int .i64 f.l] 68)
   have HBW:=HB.alloc hzr (.cells #[.string f.s,.int .i64 f.k,.int .i64 f.l] 68)
   clear hsucc hf hA hAr hown HB
   go_wp2
   obtain⟨Bf,hBf⟩:∃b,wr.heap.size=b:=⟨_,rfl⟩
   have hWs:Bf<(wr.alloc (.cells #[.string f.s,.int .i64 f.k,.int .i64 f.l] 68)).heap.size:=by rw[←hBf];simp
   rw[hBf] at F0a F0b F0c hzr ⊢
   have hne1:some Bf≠u4.ownBlock:=fun e=>by have:=hlt0 _ e.symm;omega
   obtain⟨W,hW⟩:∃W,wr.alloc (.cells #[.string f.s,.int .i64 f.k,.int .i64 f.l] 68)=W:=⟨_,rfl⟩
   rw[hW] at F0a F0b F0c hWs hownW HBW ⊢
   clear hW hBf hlt0
   have hsW:w.heap.size≤W.heap.size:=by omega
   have hn1:∀j u,[Value.int .u8 (f.s.size:Int)][j]?=some u→(W.alloc (.cells #[.int .u8 (f.s.size:Int)] 5)).drew.cell? ((⟨W.heap.size,0,none⟩:Addr).add j)=some u:=news1 W (.int .u8 (f.s.size:Int)) 5
   have hwr:IntKind.u8.wrap (f.s.size:Int)=(f.s.size:Int):=IntWalk.u8_in _ (by omega)
   have tok1:=True.intro
   go_region_held3 (fun w'=>w'.cell? ⟨Bf,0,none⟩=some (.string f.s)∧w'.cell? ⟨Bf,1,none⟩=some (.int .i64 f.k)∧w'.cell? ⟨Bf,2,none⟩=some (.int .i64 f.l))
    (first|go_keep|(go_split_ands;refine⟨?_,?_,?_⟩ <;> (first|(rw[hgrow2.cell_far _ (by simp;omega) hne2];assumption)|(rw[hgrow1.cell_far _ (by simp;omega) hne1];assumption))))
    (first
      |(have _t:=tok1;refine step_append_lies _ (by rfl) _ _ _ (by rfl) w.heap.size 5 i0 (.int .u8 0) 1 1 Tryz.underlying44 hi hz0 hz1 hz2 rfl (by omega) u4 (partF fs k).length (bytesV (partF fs k)) (by rfl) ((hownW.alloc _).drew) ⟨W.heap.size,0,none⟩ 1 1 [.int .u8 (f.s.size:Int)] (by rfl) (by rfl) hn1 (by simp[Value.oneCell']) (by omega) (by unfold maxLen;omega) (by omega) (by simp;omega) (W.heap.size+1) (by simp) ?_;intro g cap w2 hown2 hgrow1 hat hlt2;clear tok1;have tok2:=True.intro;have hne2:=ne_of_at hne1 hat hWs;have hs2:=hgrow1.size;simp at hs2;have hs3:w.heap.size≤w2.heap.size:=Nat.le_trans hsW (Nat.le_of_succ_le hs2))
      |(have _t:=tok2;refine step_append_str (by rfl) _ _ _ _ (by rfl) w.heap.size 5 i0 Tryz.underlying44 Tryz.underlying9 hi hz0 hz1 hz2 (.slice (some ⟨g,0,none⟩) ((partF fs k).length+1) cap) ((partF fs k).length+1) _ (by rfl) hown2 f.s (by rfl) (by unfold maxLen;omega) (by omega) hs3 ?_;intro v3 w3 hown3 hgrow2;clear tok2))
   obtain⟨d0,d1,d2⟩:w3.cell? ⟨Bf,0,none⟩=some (.string f.s)∧w3.cell? ⟨Bf,1,none⟩=some (.int .i64 f.k)∧w3.cell? ⟨Bf,2,none⟩=some (.int .i64 f.l):=by assumption
   have HB2:Below w.heap.size w w2:=Below.grown (w:=(W.alloc (.cells #[.int .u8 (f.s.size:Int)] 5)).drew) (HBW.alloc hsW _).drew hgrow1 (Nat.le_trans hsW (by simp)) (fun q hq=>own_base hownW q hq)
   have HB3:Below w.heap.size w w3:=HB2.grown hgrow2 hs3 (fun q hq=>own_base hown2 q hq)
   have hs4:=HB3.size
   have hown4:w3.ownsRow w.heap.size 5 1 v3 ((partF fs k).length+1+f.s.size) (bytesV (partF fs k++(UInt8.ofNat f.s.size :: bl f.s))):=by
    refine own_eq hown3 rfl ?_
    have e:UInt8.ofNat f.s.size :: bl f.s=[UInt8.ofNat f.s.size]++bl f.s:=rfl
    rw[e,bytesV_append,bytesV_append,List.append_assoc]
    have e2:bytesV [UInt8.ofNat f.s.size]=[Value.int .u8 (f.s.size:Int)]:=by simp[bytesV];omega
    rw[e2];rfl
   clear hwr hown3 hgrow2 hgrow1 hown2 hownW HBW F0a F0b F0c hne1 hne2 hs2 hs3 hn1 hat hlt2 HB2 hWs
   go_wp2_with (at_builtin;refine wpList_append_own _ rfl _ _ 44 rfl w.heap.size 5 i0 (.int .u8 0) 1 1 Tryz.underlying44 hi hz0 hz1 hz2 rfl (by decide) _ _ _ rfl (hown4.alloc _) ⟨w3.heap.size,0,none⟩ 2 2 [.int .u8 f.k,.int .u8 f.l] rfl rfl ?c1 ?c2 ?c3 ?c4 ?c5 ?_)
   case c1=>exact news2 _ _ _ _
   case c2=>intro u hu;simp at hu;rcases hu with rfl|rfl <;> rfl
   case c3=>simp only[maxLen];omega
   case c4=>omega
   case c5=>simp;omega
   intro v5 w5 hown5 hgrow5 _
   have HB5:=(HB3.alloc hs4 (.cells #[.int .u8 f.k,.int .u8 f.l] 5)).grown hgrow5 (by simp;omega) (fun q hq=>own_base hown4 q hq)
   have hown6:w5.ownsRow w.heap.size 5 1 v5 (partF fs (k+1)).length (bytesV (partF fs (k+1))):=by
    refine own_eq hown5 ?_ ?_
    ·rw[HS.out,List.length_append,rowF_length];omega
    ·rw[HS.out,rowF,←List.cons_append,←List.append_assoc,bytesV_append (_++ _)]
     congr 1
     simp[bytesV];omega
   clear hown5 hgrow5 hown4 HB3
   go_wp2
   go_roundw
   case rel=>exact⟨k+1,by omega,by go_num,hown6,HB5⟩
   case measure=>simp[intOf];omega
  ·obtain rfl:k=fs.length:=by omega
   have e:partF fs fs.length=encFL fs:=by rw[partF,List.take_length];rfl
   rw[e] at hown
   clear hA hAr e
   go_wp2
   go_ret2
   exact⟨_,rfl,hown,HB⟩
def wrL (fs:List Fd):List UInt8:=if rightF fs=true then encFL fs else[]
def wrE (fs:List Fd):Int:=if rightF fs=true then 0 else 60
theorem FEncode_calls (A:Option Addr) (c:Nat) (fs:List Fd) (w:World) (hA:Rd w A (cellsF fs)) (hl:fs.length≤9223372036854775807):
 Calls Tryz.prog 60 #[.slice A fs.length c] w fun e w'=>∃v,e=.returned (.tuple #[v,.int .i64 (wrE fs)])∧OutB w' v (wrL fs)∧Below w.heap.size w w':=by
 cases hr:rightF fs
 ·have e1:wrL fs=[]:=by simp[wrL,hr]
  have e2:wrE fs=60:=by simp[wrE,hr]
  rw[e1,e2]
  refine(FEncode_no A c fs hr w hA hl).mono ?_
  rintro e w' ⟨rfl,hb⟩
  exact⟨_,rfl,⟨none,0,rfl,Nat.le_refl _,Rd.nil _ _⟩,hb⟩
 ·have e1:wrL fs=encFL fs:=by simp[wrL,hr]
  have e2:wrE fs=0:=by simp[wrE,hr]
  rw[e1,e2]
  refine(FEncode_yes A c fs hr w hA hl).mono ?_
  rintro e w' ⟨v,rfl,ho,hb⟩
  obtain⟨B,c',rfl,h1,_,h2⟩:=own_rd ho
  exact⟨_,rfl,⟨B,c',rfl,h1,h2⟩,hb⟩
def stepF:List UInt8→Option (Fd×List UInt8)
 |[]=>none
 |n :: q=>if n.toNat+2≤q.length then some (⟨strL (q.take n.toNat),(q.getD n.toNat 0).toNat,(q.getD (n.toNat+1) 0).toNat⟩,q.drop (n.toNat+2)) else none
def rdF:List UInt8→Nat→Option (List Fd×List UInt8)
 |r,0=>some ([],r)
 |r,k+1=>match stepF r with
  |none=>none
  |some (f,r')=>(rdF r' k).map fun x=>(f :: x.1,x.2)
theorem infoFd:(Tryz.prog.info? 68).map (fun i=>(i.zero,i.size,i.bytes))=some (some (.agg #[.string ⟨#[]⟩,.int .i64 0,.int .i64 0]),3,32):=by kernel_rfl
theorem cellsF_append (a b:List Fd):cellsF (a++b)=cellsF a++cellsF b:=by simp[cellsF]
theorem conv_at {w:World} {A:Option Addr} {l:List UInt8} (h:Rd w A (bytesV l)) (n c:Nat) (hn:l.length=n):(convert 44 9 (.slice A n c)).run Tryz.prog w=.ok (.string (strL l)) w:=by subst hn;exact conv_str h c
theorem news3 (w:World) (u v x:Value) (T:TypeId):∀j y,[u,v,x][j]?=some y→(w.alloc (.cells #[u,v,x] T)).cell? ((⟨w.heap.size,0,none⟩:Addr).add j)=some y:=by
 intro j y hj
 match j with
 |0=>simp at hj;subst hj;exact cell_new w _ T 0 u rfl
 |1=>simp at hj;subst hj;exact cell_new w _ T 1 v rfl
 |2=>simp at hj;subst hj;exact cell_new w _ T 2 x rfl
 |j+3=>simp at hj
theorem rFRight_is (A:Option Addr) (c:Nat) (fs:List Fd) (r:Bool) (h:rightF fs=r) (w:World) (hA:Rd w A (cellsF fs)) (hl:fs.length≤9223372036854775807) (hs:∀f∈fs,f.s.size≤9223372036854775807):
 Calls Tryz.prog 77 #[.slice A fs.length c] w fun e w'=>e=.returned (.bool r)∧Below w.heap.size w w':=h▸rFRight_calls A c fs w hA hl hs
end
end Go.Proofs.YteembinfgbapgaaGreat
