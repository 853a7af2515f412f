/- Merged out of: Lb Rw Ka Kb Kc. -/
import Derived.Test.YteembinfgbapgaaGreatC00
import Derived.Test.YteembinfgbapgaaGreatProg
import Derived.WalkKit
import Derived.KernelRfl
import Derived.Deep.QuietTactic
import Derived.BigQuiet
import Derived.WideLaws
import Derived.Laws.BytesArg
import Derived.Lib.ConvBytes
import Derived.ProofKit
import Derived.OpenShut
import Derived.ShutString
import Derived.ChangeOld
import Derived.Below
import Derived.SizedLaws
import Derived.Lib.SmallJoins
import Derived.Laws.IdiomArrays
import Derived.Laws.Bits64b
import Derived.Lib.Hide
set_option linter.unusedSimpArgs false
set_option linter.unusedVariables false
set_option maxRecDepth 100000
set_option maxHeartbeats 8000000
namespace Go.Proofs.YteembinfgbapgaaGreat
section
open Go.RowKit Go.Lib
theorem ret_int {k:IntKind} {a b:Int} (h:a=b):Ending.returned (.int k a)=.returned (.int k b):=by rw[h]
theorem ret_bool {a b:Bool} (h:a=b):Ending.returned (.bool a)=.returned (.bool b):=by rw[h]
def Rd (w:World) (A:Option Addr) (cs:List Value):Prop:=cs≠[]→∃ad,A=some ad∧∀j u,cs[j]?=some u→w.cell? (ad.add j)=some u
theorem cell_below {w w1:World} {B:Nat} (h:Below w.heap.size w w1) {a:Addr} {v:Value} (hc:w.cell? a=some v):w1.cell? a=some v:=(h.cell (World.block_lt_of_cell? w a hc)).trans hc
theorem blk_lt_of {w:World} {b o:Nat} {v:Value} (h:w.cell? ⟨b,o,none⟩=some v):b<w.heap.size:=World.block_lt_of_cell? w ⟨b,o,none⟩ h
theorem Rd.below {w w1:World} {A:Option Addr} {cs:List Value} (h:Rd w A cs) (hb:Below w.heap.size w w1):Rd w1 A cs:=fun hn=>by
 obtain⟨ad,e,hc⟩:=h hn
 exact⟨ad,e,fun j u hj=>cell_below (B:=0) hb (hc j u hj)⟩
theorem Rd.nil (w:World) (A:Option Addr):Rd w A []:=fun h=>absurd rfl h
theorem bcell {W w1:World} (hb:Below W.heap.size W w1):(∀b o,b<W.heap.size→w1.cell? ⟨b,o,none⟩=W.cell? ⟨b,o,none⟩)∧(∀b o,b<W.heap.size→w1.frozen? ⟨b,o,none⟩=W.frozen? ⟨b,o,none⟩):=
 ⟨fun b o h=>hb.cell (p:=⟨b,o,none⟩) h,fun b o h=>hb.frozen (p:=⟨b,o,none⟩) h⟩
theorem below_new {w:World} (o:Obj):Below w.heap.size w (w.alloc o):=(Jy _ _).alloc (J9 _) o
theorem below_seq {w w1 w2:World} (h:Below w.heap.size w w1) (k:Below w1.heap.size w1 w2):Below w.heap.size w w2:=h.trans (k.mono h.size)
theorem below_drewN {B:Nat} {w W:World} (h:Below B w W) (n:Nat):Below B w (W.drewN n):=⟨h.os,h.tape,h.output,h.size,h.block⟩
theorem cell_new (w:World) (cs:Array Value) (T:TypeId) (j:Nat) (u:Value) (h:cs[j]?=some u):(w.alloc (.cells cs T)).cell? ⟨w.heap.size,j,none⟩=some u:=by
 rw[World.cell?_alloc_new];exact h
theorem own_base {w:World} {base:Nat} {e:TypeId} {size n:Nat} {v:Value} {xs:List Value} (h:w.ownsRow base e size v n xs) (k:Nat) (hk:v.ownBlock=some k):base≤k:=by
 rcases h.2 with ⟨rfl,_⟩|⟨g,cap,cur,rfl,hb,_⟩
 ·simp[Value.ownBlock] at hk
 ·have:g=k:=by simpa[Value.ownBlock] using hk
  omega
theorem own_nil (W:World) (base:Nat) (e:TypeId) (size:Nat):W.ownsRow base e size (.slice none 0 0) 0 []:=⟨by simp,.inl ⟨rfl,rfl⟩⟩
theorem own_rd {w:World} {base:Nat} {e:TypeId} {size n:Nat} {v:Value} {xs:List Value} (h:w.ownsRow base e size v n xs):∃A c,v=.slice A n c∧n≤c∧c≤maxLen∧Rd w A xs:=by
 obtain⟨h1,h2⟩:=h
 rcases h2 with ⟨rfl,rfl⟩|⟨g,cap,cur,rfl,hb,hh,hn,hc,hs,ht⟩
 ·have:xs=[]:=List.eq_nil_of_length_eq_zero (by simpa using h1)
  subst this
  exact⟨none,0,rfl,J9 _,X8 _,Rd.nil _ _⟩
 ·refine⟨_,cap,rfl,hn,hc,fun _=>⟨_,rfl,fun j u hj=>?_⟩⟩
  have e:(⟨g,0,none⟩:Addr).add j=⟨g,j,none⟩:=by unfold Addr.add;split <;> simp_all
  rw[e,←ht,X9] at *
  split at hj
  ·simp[World.cell?,hh,←hj]
  ·cases hj
theorem own_below {w w1:World} {base:Nat} {e:TypeId} {size n:Nat} {v:Value} {xs:List Value} (h:w.ownsRow base e size v n xs) (hb:Below w.heap.size w w1):w1.ownsRow base e size v n xs:=by
 obtain⟨h1,h2⟩:=h
 refine⟨h1,?_⟩
 rcases h2 with h2|⟨g,cap,cur,rfl,hg,hh,r⟩
 ·exact .inl h2
 ·exact .inr ⟨g,cap,cur,rfl,hg,(hb.block g (Qk.1 hh).1).trans hh,r⟩
theorem own_mono {w:World} {base base':Nat} {e:TypeId} {size n:Nat} {v:Value} {xs:List Value} (h:w.ownsRow base e size v n xs) (hb:base'≤base):w.ownsRow base' e size v n xs:=by
 obtain⟨h1,h2⟩:=h
 refine⟨h1,?_⟩
 rcases h2 with h2|⟨g,cap,cur,rfl,hg,r⟩
 ·exact .inl h2
 ·exact .inr ⟨g,cap,cur,rfl,by omega,r⟩
def strL (l:List UInt8):ByteArray:=⟨l.toArray⟩
theorem strL_size (l:List UInt8):(strL l).size=l.length:=by simp[strL,ByteArray.size]
theorem strL_append (a b:List UInt8):strL a++strL b=strL (a++b):=by
 apply ByteArray.ext;simp[strL,ByteArray.data_append]
def bytesV (l:List UInt8):List Value:=l.map fun b=>.int .u8 (b.toNat:Int)
theorem bytesV_length (l:List UInt8):(bytesV l).length=l.length:=by simp[bytesV]
theorem bytesV_append (a b:List UInt8):bytesV (a++b)=bytesV a++bytesV b:=by simp[bytesV]
theorem info5:(Tryz.prog.info? 5).map (fun i=>(i.zero,i.size,i.bytes))=some (some (.int .u8 0),1,1):=by kernel_rfl
theorem conv1 (x:Int) (W:World) (b:Nat) (hc:W.cell? ⟨b,0,none⟩=some (.int .u8 x)):(convert 44 9 (.slice (some ⟨b,0,none⟩) 1 1)).run Tryz.prog W=.ok (.string (strL [UInt8.ofNat x.toNat])) W:=by
 refine run_convert_bytes_arg (P:=Tryz.prog) W 44 5 Tryz.underlying44 Tryz.underlying5 b 0 1 1 [x] rfl (fun i hi=>?_) 9 Tryz.underlying9
 obtain rfl:i=0:=by omega
 simpa using hc
theorem news1 (w:World) (u:Value) (T:TypeId):∀j x,[u][j]?=some x→(w.alloc (.cells #[u] T)).cell? ((⟨w.heap.size,0,none⟩:Addr).add j)=some x:=by
 intro j x hj
 match j with
 |0=>simp at hj;subst hj;exact cell_new w _ T 0 u rfl
 |j+1=>simp at hj
theorem bytesV_get {l:List UInt8} {j:Nat} (hj:j<l.length):(bytesV l)[j]?=some (.int .u8 (l[j].toNat:Int)):=by simp[bytesV,J4 hj]
theorem conv_str {w:World} {A:Option Addr} {l:List UInt8} (h:Rd w A (bytesV l)) (c:Nat):(convert 44 9 (.slice A l.length c)).run Tryz.prog w=.ok (.string (strL l)) w:=by
 cases l with
 |nil=>
  rw[run_convert_bytes_string w 44 9 5 A _ c Tryz.underlying44 Tryz.underlying5 Tryz.underlying9]
  cases A with
  |none=>simp[Conv.bytesToString,strL];rfl
  |some a=>rw[List.length_nil,run_bytesToString w a 0 c [] (by simpa using run_loadCells_list (P:=Tryz.prog) w a [] (by simp))];rfl
 |cons b l=>
  obtain⟨ad,rfl,hc⟩:=h (by simp[bytesV])
  exact run_convert_bytes_back w 44 9 5 ad c (b :: l) Tryz.underlying44 Tryz.underlying5 Tryz.underlying9 fun j hj=>hc j _ (bytesV_get hj)
theorem make_bytes (n:Nat) (h:n≤281474976710656) (w:World):(Instr.makeSlice 44 (.int .i64 (n:Int)) (.int .i64 (n:Int))).run Tryz.prog w=.ok (.slice (some ⟨w.heap.size,0,none⟩) n n) (w.alloc (.cells (bytesV (List.replicate n 0)).toArray 5)):=by
 obtain⟨i0,hi,hz0,hz1,hz2⟩:=info_parts info5
 have:=run_make (P:=Tryz.prog) w 44 5 i0 (.int .u8 0) Tryz.underlying44 hi hz0 .i64 .i64 n n (by omega) (Int.le_refl _) (by rw[hz2];omega) (by omega)
 rw[this,hz1]
 have e:madeCells (Value.int .u8 0).cells ((n:Int).toNat * 1)=(bytesV (List.replicate n 0)).toArray:=by
  apply Array.ext'
  rw[show (Value.int .u8 0).cells=#[.int .u8 0] from rfl,toList_madeCells_one]
  simp[bytesV]
 rw[e]
 simp
theorem rd_new (w:World) (cs:List Value) (T:TypeId):Rd (w.alloc (.cells cs.toArray T)) (some ⟨w.heap.size,0,none⟩) cs:=fun _=>⟨_,rfl,fun j u hj=>by
 have e:(⟨w.heap.size,0,none⟩:Addr).add j=⟨w.heap.size,j,none⟩:=by unfold Addr.add;split <;> simp_all
 rw[e];exact cell_new w _ T j u (by simpa using hj)⟩
theorem conv_bytes (s:ByteArray) (w:World):(convert 9 44 (.string s)).run Tryz.prog w=.ok (.slice (some ⟨w.heap.size,0,none⟩) s.size (grownCap w s.size 0 5)) (bytesWorld w 5 s):=
 Go.Lib.run_convert_string_bytes w 9 44 5 s Tryz.underlying9 Tryz.underlying44 Tryz.underlying5
def bl (s:ByteArray):List UInt8:=s.data.toList
theorem bl_length (s:ByteArray):(bl s).length=s.size:=by rw[bl,Array.length_toList];rfl
theorem strL_bl (s:ByteArray):strL (bl s)=s:=by simp[strL,bl]
theorem bl_strL (l:List UInt8):bl (strL l)=l:=by simp[strL,bl]
theorem bytesWorld_below (w:World) (e:TypeId) (s:ByteArray):Below w.heap.size w (bytesWorld w e s):=
 ⟨rfl,rfl,rfl,by rw[bytesWorld_size];omega,fun k hk=>bytesWorld_at_old w e s k hk⟩
theorem bytesWorld_rd (w:World) (e:TypeId) (s:ByteArray):Rd (bytesWorld w e s) (some ⟨w.heap.size,0,none⟩) (bytesV (bl s)):=fun _=>⟨_,rfl,fun j u hj=>by
 have hj':j<(bl s).length:=by have:=(J6.1 hj).1;simpa[bytesV] using this
 have e1:(⟨w.heap.size,0,none⟩:Addr).add j=⟨w.heap.size,j,none⟩:=by unfold Addr.add;split <;> simp_all
 rw[e1,bytesWorld_cell w e s j (by rw[←bl_length];exact hj')]
 rw[bytesV_get hj'] at hj
 rw[←hj]
 simp[bl,List.getD,J4 (show j<s.data.toList.length from hj')]⟩
theorem Rd.take {w:World} {A:Option Addr} {cs:List Value} (h:Rd w A cs) (n:Nat):Rd w A (cs.take n):=fun hne=>by
 obtain⟨ad,rfl,hc⟩:=h (by rintro rfl;simp at hne)
 refine⟨ad,rfl,fun j u hj=>hc j u ?_⟩
 rw[X9] at hj
 split at hj
 ·exact hj
 ·cases hj
theorem setCell_twice (w:World) (a:Addr) (u v:Value):(w.setCell a u).setCell a v=w.setCell a v:=by
 have h:((w.setCell a u).setCell a v).heap=(w.setCell a v).heap:=by
  apply Array.ext_getElem?
  intro i
  simp only[World.setCell,Array.getElem?_modify]
  by_cases hi:a.block=i
  ·subst hi
   simp only[if_true]
   cases w.heap[a.block]? with
   |none=>rfl
   |some o=>cases o <;> simp <;> split <;> simp_all
  ·simp[hi]
 exact congrArg (fun H=>({ w with heap:=H }:World)) h
def OutB (w:World) (v:Value) (l:List UInt8):Prop:=∃A c,v=.slice A l.length c∧l.length≤c∧Rd w A (bytesV l)
theorem OutB.below {w w1:World} {v:Value} {l:List UInt8} (h:OutB w v l) (hb:Below w.heap.size w w1):OutB w1 v l:=by
 obtain⟨A,c,e,hc,hr⟩:=h
 exact⟨A,c,e,hc,hr.below hb⟩
end
section
open Go.ChangeShapes Go.WideShapes Go.ChangeAt Go.RowKit Go.Joins
open Go.ChangeMaps (open_string shut_string)
section
variable {H:Type} {enc:TypeId×Value→H} {w:World} {base b0:Nat} {r:Reach} {spare:Nat→Bool} {held:Bool} {v:Value} {d:DataW H} {p:List MemPlace}
theorem wf_i64 {n:Int} (h:(Lit.int .i64 n).wf=true):-9223372036854775808≤n∧n≤9223372036854775807:=by
 have:=bounds_i64 h
 omega
theorem wf_u64 {n:Int} (h:(Lit.int .u64 n).wf=true):0≤n∧n<18446744073709551616:=by
 have:=bounds_u64 h
 omega
theorem wf_u8 {n:Int} (h:(Lit.int .u8 n).wf=true):0≤n∧n<256:=by
 have:=bounds_u8 h
 omega
theorem open_bytes (hv:Value.okWide Tryz.prog w r b0 44 v) (h:DataW.Trod enc Tryz.prog w base spare held 44 v d p):
 ∃A c l,v=.slice A l.length c∧l.length≤c∧c≤maxLen∧Rd w A (bytesV l):=by
 obtain⟨a,len,cap,rfl⟩:=okWide_slice Tryz.underlying44 hv
 obtain⟨fuel,hf⟩:=h
 rcases open_ints Tryz.underlying44 Tryz.underlying5 (by kernel_rfl) hf with ⟨hcs,_⟩|⟨x,l,c,zs,hcs,_,hl,hm,hz,_,hcell,hwz⟩
 ·simp[Value.cells] at hcs
  obtain⟨rfl,rfl,rfl⟩:=hcs
  exact⟨none,0,[],rfl,J9 _,X8 _,Rd.nil _ _⟩
 ·simp[Value.cells] at hcs
  obtain⟨rfl,rfl,rfl⟩:=hcs
  have hzl:len≤zs.length:=by rw[hz];split <;> omega
  have hlen:((zs.take len).map fun z=>UInt8.ofNat z.toNat).length=len:=by rw[Kz,Qv];omega
  refine⟨some x,cap,(zs.take len).map fun z=>UInt8.ofNat z.toNat,by rw[hlen],by rw[hlen];exact hl,hm,fun _=>⟨x,rfl,fun j u hj=>?_⟩⟩
  have hjl:j<len:=by
   rcases Nat.lt_or_ge j len with h'|h'
   ·exact h'
   ·rw[Xy (by rw[bytesV_length,hlen];exact h')] at hj;cases hj
  have hjz:j<zs.length:=by omega
  have hb:=wf_u8 (hwz _ (List.getElem_mem hjz))
  rw[hcell j hjz]
  rw[bytesV_get (by rw[hlen];exact hjl)] at hj
  rw[←Jj hj]
  simp[List.getD_eq_getElem?_getD,J4 hjz]
  omega
end
end
section
open Go.RowKit
def sizeZ (k:Int):Int:=
 if k=1∨k=5∨k=9 then 1 else if k=2∨k=6 then 2 else if k=3∨k=7 then 4 else if k=4∨k=8∨k=10∨k=11 then 8 else 0
def widthB (n:Int):Bool:=decide (n=1∨n=2∨n=4∨n=8)
def topZ (n:Int):Int:=if n=1 then 256 else if n=2 then 65536 else if n=4 then 4294967296 else 18446744073709551616
def signZ (n width:Int):Int:=
 if widthB width then(if n % topZ width<topZ width / 2 then n % topZ width else n % topZ width - topZ width+18446744073709551616) else n
def fitsB (n width:Int) (s:Bool):Bool:=widthB width && (if s then signZ n width == n else decide (n<topZ width))
def btw (a k b:Int):Bool:=decide (a≤k∧k≤b)
theorem btw_iff {a k b:Int}:btw a k b=true↔a≤k∧k≤b:=by simp[btw]
theorem btw_not {a k b:Int}:btw a k b=false↔¬(a≤k∧k≤b):=by simp[btw]
theorem Size_calls (k:Int) (w:World):Calls Tryz.prog 128 #[.int .i64 k] w fun e w'=>e=.returned (.int .i64 (sizeZ k))∧w=w':=by
 go_enter Tryz.func128,Tryz.ntmps128
 go_wp2
 all_goals
  go_ret
  exact⟨ret_int (by simp only[beq_iff_eq,beq_eq_false_iff_ne,ne_eq] at *;unfold sizeZ;split <;> (try omega) <;> split <;> (try omega) <;> split <;> (try omega) <;> split <;> omega),rfl⟩
theorem right_calls (n:Int) (w:World):Calls Tryz.prog 125 #[.int .i64 n] w fun e w'=>e=.returned (.bool (widthB n))∧w=w':=by
 go_enter Tryz.func125,Tryz.ntmps125
 go_wp2
 all_goals
  go_ret
  exact⟨ret_bool (by rw[Qx];simp[widthB, *];try omega),rfl⟩
theorem between_calls (k a b:Int) (w:World):Calls Tryz.prog 157 #[.int .i64 k,.int .i64 a,.int .i64 b] w fun e w'=>e=.returned (.bool (btw a k b))∧w=w':=by
 go_enter Tryz.func157,Tryz.ntmps157
 go_wp2
 all_goals
  go_ret
  exact⟨ret_bool (by rw[Qx];simp[btw];try omega),rfl⟩
theorem plain_calls (k:Int) (w:World):Calls Tryz.prog 109 #[.int .i64 k] w fun e w'=>e=.returned (.bool (btw 1 k 4))∧w=w':=by
 go_enter Tryz.func109,Tryz.ntmps109
 go_wp2_with (go_at_call 157;refine(between_calls _ _ _ _).mono ?_;rintro e w' ⟨rfl,rfl⟩)
 go_ret
 exact⟨rfl,rfl⟩
theorem signed_calls (k:Int) (w:World):Calls Tryz.prog 111 #[.int .i64 k] w fun e w'=>e=.returned (.bool (btw 5 k 8))∧w=w':=by
 go_enter Tryz.func111,Tryz.ntmps111
 go_wp2_with (go_at_call 157;refine(between_calls _ _ _ _).mono ?_;rintro e w' ⟨rfl,rfl⟩)
 go_ret
 exact⟨rfl,rfl⟩
theorem width_cases {n:Int} (h:widthB n=true):n=1∨n=2∨n=4∨n=8:=by simpa[widthB] using h
theorem signZ_arith1 (n:Int) (h0:0≤n) (h1:n<18446744073709551616):signZ n 1=if n % 256<128 then n % 256 else n % 256+18446744073709551360:=by
 simp[signZ,widthB,topZ];split <;> omega
theorem signZ_arith2 (n:Int) (h0:0≤n) (h1:n<18446744073709551616):signZ n 2=if n % 65536<32768 then n % 65536 else n % 65536+18446744073709486080:=by
 simp[signZ,widthB,topZ];split <;> omega
theorem signZ_arith4 (n:Int) (h0:0≤n) (h1:n<18446744073709551616):signZ n 4=if n % 4294967296<2147483648 then n % 4294967296 else n % 4294967296+18446744069414584320:=by
 simp[signZ,widthB,topZ];split <;> omega
theorem signZ_8 (n:Int) (h0:0≤n) (h1:n<18446744073709551616):signZ n 8=n:=by
 simp[signZ,widthB,topZ];omega
theorem Sign_calls (n width:Int) (h0:0≤n) (h1:n<18446744073709551616) (w:World):Calls Tryz.prog 126 #[.int .u64 n,.int .i64 width] w fun e w'=>e=.returned (.int .u64 (signZ n width))∧w=w':=by
 by_cases hw:widthB width=true
 ·rcases width_cases hw with h|h|h|h <;> subst h
  all_goals
   go_enter Tryz.func126,Tryz.ntmps126
   go_wp2_with (go_at_call 125;refine(right_calls _ _).mono ?_;rintro e w' ⟨rfl,rfl⟩)
   go_ret
   refine⟨ret_int ?_,rfl⟩
   first|rw[signZ_arith1 n h0 h1]|rw[signZ_arith2 n h0 h1]|rw[signZ_arith4 n h0 h1]|rw[signZ_8 n h0 h1]
   simp only[IntKind.wrap_u64,IntKind.wrap_i64,wrap64]
   (try split) <;> omega
 ·rw[Bool.not_eq_true] at hw
  go_enter Tryz.func126,Tryz.ntmps126
  go_wp2_with (go_at_call 125;refine(right_calls _ _).mono ?_;rintro e w' ⟨rfl,rfl⟩)
  go_ret
  exact⟨ret_int (by simp[signZ,hw]),rfl⟩
theorem Fits_calls (n width:Int) (s:Bool) (h0:0≤n) (h1:n<18446744073709551616) (w:World):Calls Tryz.prog 131 #[.int .u64 n,.int .i64 width,.bool s] w fun e w'=>e=.returned (.bool (fitsB n width s))∧w=w':=by
 by_cases hw:widthB width=true
 ·rcases width_cases hw with h|h|h|h <;> subst h <;> cases s
  all_goals
   go_enter Tryz.func131,Tryz.ntmps131
   go_wp2_with (first|(go_at_call 125;refine(right_calls _ _).mono ?_;rintro e w' ⟨rfl,rfl⟩)|(go_at_call 126;refine(Sign_calls _ _ h0 h1 _).mono ?_;rintro e w' ⟨rfl,rfl⟩))
   go_ret
   refine⟨ret_bool ?_,rfl⟩
   rw[Qx]
   simp[fitsB,widthB,topZ]
   try omega
 ·rw[Bool.not_eq_true] at hw
  go_enter Tryz.func131,Tryz.ntmps131
  go_wp2_with (go_at_call 125;refine(right_calls _ _).mono ?_;rintro e w' ⟨rfl,rfl⟩)
  go_ret
  exact⟨ret_bool (by simp[fitsB,hw]),rfl⟩
theorem rSize_calls (k:Int) (w:World):Calls Tryz.prog 129 #[.int .i64 k] w fun e w'=>e=.returned (.int .i64 (sizeZ k))∧w=w':=by
 go_enter Tryz.func129,Tryz.ntmps129
 go_wp2
 all_goals
  go_ret
  refine⟨ret_int ?_,rfl⟩
  unfold sizeZ
  try simp only[beq_iff_eq,beq_eq_false_iff_ne,ne_eq,Bool.or_eq_true,Bool.or_eq_false_iff,not_or,Bool.or_assoc,decide_eq_true_eq,decide_eq_false_iff_not] at *
  split <;> (try omega) <;> split <;> (try omega) <;> split <;> (try omega) <;> split <;> omega
theorem rRight_calls (n:Int) (w:World):Calls Tryz.prog 121 #[.int .i64 n] w fun e w'=>e=.returned (.bool (widthB n))∧w=w':=by
 go_enter Tryz.func121,Tryz.ntmps121
 go_wp2
 all_goals
  go_ret
  exact⟨ret_bool (by rw[Qx];simp[widthB, *];try omega),rfl⟩
def tz:Nat→Int
 |0=>0
 |k+1=>tz k * 256+255
theorem tz_bd (k:Nat) (h:k<8):0≤tz k∧tz k≤72057594037927935:=by
 match k,h with
 |0,_|1,_|2,_|3,_|4,_|5,_|6,_|7,_=>decide
theorem rtop_any (n:Nat) (hn:n≤8) (w:World):Calls Tryz.prog 122 #[.int .i64 n] w fun e w'=>e=.returned (.int .u64 (tz n))∧w=w':=by
 go_enter Tryz.func122,Tryz.ntmps122
 go_wp2
 go_loop [3,4] (fun t i=>∃k:Nat,k≤n∧i=.int .i64 k∧t=.int .u64 (tz k)) (fun _ i=>n - (intOf i).toNat)
 case atStart=>exact⟨0,by omega,rfl,rfl⟩
 case round=>
  obtain⟨k,hk,rfl,rfl⟩:=hrel
  by_cases hlt:k<n
  ·obtain⟨b1,b2⟩:=tz_bd k (by omega)
   go_wp2
   go_round
   case rel=>exact⟨k+1,by omega,by go_num,rfl⟩
   case measure=>simp[intOf];omega
  ·go_wp2
   go_ret
   obtain rfl:k=n:=by omega
   exact⟨rfl,rfl⟩
theorem rtop_1 (w:World):Calls Tryz.prog 122 #[.int .i64 1] w fun e w'=>e=.returned (.int .u64 255)∧w=w':=rtop_any 1 (by omega) w
theorem rtop_2 (w:World):Calls Tryz.prog 122 #[.int .i64 2] w fun e w'=>e=.returned (.int .u64 65535)∧w=w':=rtop_any 2 (by omega) w
theorem rtop_4 (w:World):Calls Tryz.prog 122 #[.int .i64 4] w fun e w'=>e=.returned (.int .u64 4294967295)∧w=w':=rtop_any 4 (by omega) w
theorem rtop_8 (w:World):Calls Tryz.prog 122 #[.int .i64 8] w fun e w'=>e=.returned (.int .u64 18446744073709551615)∧w=w':=rtop_any 8 (by omega) w
theorem rSign_calls (n width:Int) (h0:0≤n) (h1:n<18446744073709551616) (w:World):Calls Tryz.prog 130 #[.int .u64 n,.int .i64 width] w fun e w'=>e=.returned (.int .u64 (signZ n width))∧w=w':=by
 by_cases hw:widthB width=true
 ·rcases width_cases hw with h|h|h|h <;> subst h
  all_goals
   go_enter Tryz.func130,Tryz.ntmps130
   go_wp2_with (first|(go_at_call 121;refine(rRight_calls _ _).mono ?_;rintro e w' ⟨rfl,rfl⟩)|(go_at_call 122;(first|(with_reducible refine(rtop_1 _).mono ?_)|(with_reducible refine(rtop_2 _).mono ?_)|(with_reducible refine(rtop_4 _).mono ?_)|(with_reducible refine(rtop_8 _).mono ?_));rintro e w' ⟨rfl,rfl⟩))
   all_goals
    go_ret
    refine⟨ret_int ?_,rfl⟩
    first|rw[signZ_arith1 n h0 h1]|rw[signZ_arith2 n h0 h1]|rw[signZ_arith4 n h0 h1]|rw[signZ_8 n h0 h1]
    all_goals (try simp only[IntKind.wrap_u64])
    all_goals (first|omega|(split <;> omega))
 ·rw[Bool.not_eq_true] at hw
  go_enter Tryz.func130,Tryz.ntmps130
  go_wp2_with (go_at_call 121;refine(rRight_calls _ _).mono ?_;rintro e w' ⟨rfl,rfl⟩)
  go_ret
  exact⟨ret_int (by simp[signZ,hw]),rfl⟩
theorem rFits_calls (n width:Int) (s:Bool) (h0:0≤n) (h1:n<18446744073709551616) (w:World):Calls Tryz.prog 160 #[.int .u64 n,.int .i64 width,.bool s] w fun e w'=>e=.returned (.bool (fitsB n width s))∧w=w':=by
 by_cases hw:widthB width=true
 ·rcases width_cases hw with h|h|h|h <;> subst h <;> cases s
  all_goals
   go_enter Tryz.func160,Tryz.ntmps160
   go_wp2_with (first|(go_at_call 121;refine(rRight_calls _ _).mono ?_;rintro e w' ⟨rfl,rfl⟩)|(go_at_call 130;refine(rSign_calls _ _ h0 h1 _).mono ?_;rintro e w' ⟨rfl,rfl⟩)|(go_at_call 122;(first|(with_reducible refine(rtop_1 _).mono ?_)|(with_reducible refine(rtop_2 _).mono ?_)|(with_reducible refine(rtop_4 _).mono ?_)|(with_reducible refine(rtop_8 _).mono ?_));rintro e w' ⟨rfl,rfl⟩))
   go_ret
   refine⟨ret_bool ?_,rfl⟩
   rw[Qx]
   simp[fitsB,widthB,topZ]
   try omega
 ·rw[Bool.not_eq_true] at hw
  go_enter Tryz.func160,Tryz.ntmps160
  go_wp2_with (go_at_call 121;refine(rRight_calls _ _).mono ?_;rintro e w' ⟨rfl,rfl⟩)
  go_ret
  exact⟨ret_bool (by simp[fitsB,hw]),rfl⟩
def byteZ (n:Int) (i:Nat):Int:=n / 2 ^ (8 * i) % 256
def leL (n:Int) (k:Nat):List UInt8:=(List.range k).map fun i=>UInt8.ofNat (byteZ n i).toNat
theorem leL_succ (n:Int) (k:Nat):leL n (k+1)=leL n k++[UInt8.ofNat (byteZ n k).toNat]:=by simp[leL,List.range_succ]
theorem leL_length (n:Int) (k:Nat):(leL n k).length=k:=by simp[leL]
theorem div_nn (n:Int) (k:Nat) (h:0≤n):0≤n / 2 ^ (8 * k):=Int.ediv_nonneg h (Int.pow_nonneg (by decide))
theorem div_le (n:Int) (k:Nat) (h:0≤n):n / 2 ^ (8 * k)≤n:=Int.ediv_le_self _ h
theorem div_succ (n:Int) (k:Nat):n / 2 ^ (8 * (k+1))=n / 2 ^ (8 * k) / 256:=by
 rw[Nat.mul_add,Int.pow_add,Int.ediv_ediv_of_nonneg (by exact Int.pow_nonneg (by decide))]
 rfl
theorem rPut_some (n:Int) (width:Nat) (hw:width≤8) (hwb:widthB width=true) (h0:0≤n) (h1:n<18446744073709551616) (hn:n≤tz width) (w:World):Calls Tryz.prog 83 #[.int .i64 width,.int .u64 n] w fun e w'=>e=.returned (.string (strL (leL n width)))∧Below w.heap.size w w':=by
 have hcv:=conv1
 go_enter Tryz.func83,Tryz.ntmps83
 go_wp2_with (first|(go_at_call 121;refine(rRight_calls _ _).mono ?_;rintro e w' ⟨rfl,rfl⟩)|(go_at_call 122;refine(rtop_any width hw _).mono ?_;rintro e w' ⟨rfl,rfl⟩))
 go_loopw [1,5,6] (fun m s i wr=>∃k:Nat,k≤width∧i=.int .i64 k∧s=.string (strL (leL n k))∧m=.int .u64 (n / 2 ^ (8 * k))∧Below w.heap.size w wr) (fun _ _ i _=>width - (intOf i).toNat)
 case atStart=>exact⟨0,by omega,rfl,rfl,by simp,Jy _ _⟩
 case round=>
  obtain⟨k,hk,rfl,rfl,rfl,hB⟩:=hrel
  by_cases hlt:k<width
  ·have hd:=div_nn n k h0
   have hd2:=div_le n k h0
   have hz:¬9223372036854775807<(strL (leL n k)).size+(strL [UInt8.ofNat (n / 2 ^ (8 * k) % 256).toNat]).size:=by simp[strL_size,leL_length];omega
   go_wp2
   go_roundw
   case rel=>exact⟨k+1,by omega,by go_num,by rw[strL_append,leL_succ];rfl,by rw[div_succ],hB.alloc hB.size _⟩
   case measure=>simp[intOf];omega
  ·go_wp2
   go_ret
   obtain rfl:k=width:=by omega
   exact⟨rfl,hB⟩
theorem rPut_none (n:Int) (width:Nat) (hw:width≤8) (h0:0≤n) (h1:n<18446744073709551616) (hn:widthB width=true→tz width<n) (w:World):Calls Tryz.prog 83 #[.int .i64 width,.int .u64 n] w fun e w'=>e=.returned (.string (strL []))∧Below w.heap.size w w':=by
 by_cases hwb:widthB width=true
 ·have hn':=hn hwb
  clear hn
  go_enter Tryz.func83,Tryz.ntmps83
  go_wp2_with (first|(go_at_call 121;refine(rRight_calls _ _).mono ?_;rintro e w' ⟨rfl,rfl⟩)|(go_at_call 122;refine(rtop_any width hw _).mono ?_;rintro e w' ⟨rfl,rfl⟩))
  go_ret
  exact⟨rfl,Jy _ _⟩
 ·clear hn
  rw[Bool.not_eq_true] at hwb
  go_enter Tryz.func83,Tryz.ntmps83
  go_wp2_with (first|(go_at_call 121;refine(rRight_calls _ _).mono ?_;rintro e w' ⟨rfl,rfl⟩)|(go_at_call 122;refine(rtop_any width hw _).mono ?_;rintro e w' ⟨rfl,rfl⟩))
  go_ret
  exact⟨rfl,Jy _ _⟩
theorem byteZ_bd (n:Int) (k:Nat):0≤byteZ n k∧byteZ n k<256:=by unfold byteZ;omega
theorem bytesV_succ (n:Int) (k:Nat):bytesV (leL n (k+1))=bytesV (leL n k)++[.int .u8 (byteZ n k)]:=by
 have:=byteZ_bd n k
 rw[leL_succ];simp[bytesV,UInt8.toNat_ofNat'];omega
theorem Put_some (n:Int) (width:Nat) (hw:width≤8) (hf:fitsB n width false=true) (h0:0≤n) (h1:n<18446744073709551616) (w:World):Calls Tryz.prog 94 #[.slice none 0 0,.int .i64 width,.int .u64 n] w fun e w'=>∃v,e=.returned (.tuple #[v,.bool true])∧w'.ownsRow w.heap.size 5 1 v width (bytesV (leL n width))∧Below w.heap.size w w':=by
 obtain⟨i0,hi,hz0,hz1,hz2⟩:=info_parts info5
 go_enter Tryz.func94,Tryz.ntmps94
 go_wp2_with (first|(go_at_call 131;refine(Fits_calls _ _ _ h0 h1 _).mono ?_;rintro e w' ⟨rfl,rfl⟩))
 go_loopw [0,15] (fun v i wr=>∃k:Nat,k≤width∧i=.int .i64 k∧wr.ownsRow w.heap.size 5 1 v k (bytesV (leL n k))∧Below w.heap.size w wr) (fun _ i _=>width - (intOf i).toNat)
 case atStart=>exact⟨0,by omega,rfl,⟨rfl,.inl ⟨rfl,rfl⟩⟩,Jy _ _⟩
 case round=>
  obtain⟨k,hk,rfl,hown,hB⟩:=hrel
  by_cases hlt:k<width
  ·go_wp2_with (at_builtin;refine wpList_append_own _ rfl _ _ 44 rfl w.heap.size 5 i0 (.int .u8 0) 1 1 Tryz.underlying44 hi hz0 hz1 hz2 rfl (by decide) _ _ _ rfl (hown.alloc _) ⟨wr.heap.size,0,none⟩ 1 1 [.int .u8 (n / 2 ^ (8 * k) % 256)] rfl rfl ?c1 ?c2 ?c3 ?c4 ?c5 ?_)
   case c1=>exact news1 _ _ _
   case c2=>intro u hu;simp at hu;subst hu;rfl
   case c3=>simp only[maxLen];omega
   case c4=>omega
   case c5=>have:=hB.size;simp;omega
   intro v' w1 hown' hgrow _
   have hown':=(bytesV_succ n k).symm▸hown'
   have hB1:=(hB.alloc hB.size (.cells #[.int .u8 (n / 2 ^ (8 * k) % 256)] 5)).grown hgrow (by have:=hB.size;simp;omega) (fun q hq=>own_base hown q hq)
   clear hown hgrow
   go_wp2
   go_roundw
   case rel=>exact⟨k+1,by omega,by go_num,hown',hB1⟩
   case measure=>simp[intOf];omega
  ·go_wp2
   go_ret2
   obtain rfl:k=width:=by omega
   exact⟨_,rfl,hown,hB⟩
def numN:List UInt8→Nat
 |[]=>0
 |b :: r=>b.toNat+256 * numN r
def numL (l:List UInt8):Int:=(numN l:Int)
theorem numN_append (a b:List UInt8):numN (a++b)=numN a+2 ^ (8 * a.length) * numN b:=by
 induction a with
 |nil=>simp[numN]
 |cons x a ih=>
  simp only[List.cons_append,numN,ih,Xx,Nat.mul_add (8:Nat),Nat.pow_add,Nat.mul_add 256]
  rw[Nat.mul_comm (2 ^ (8 * a.length)) (2 ^ (8 * 1)),Nat.mul_assoc,Nat.add_assoc]
theorem numN_lt (l:List UInt8):numN l<2 ^ (8 * l.length):=by
 induction l with
 |nil=>simp[numN]
 |cons b l ih=>
  have:=b.toNat_lt
  simp only[numN,Xx,Nat.mul_add (8:Nat),Nat.pow_add]
  omega
theorem pow_le64 {k:Nat} (h:k≤8):2 ^ (8 * k)≤18446744073709551616:=Q7 (Nat.pow_le_pow_right (by decide) (show 8 * k≤64 by omega)) (by decide)
theorem numL_bd (l:List UInt8) (h:l.length≤8):0≤numL l∧numL l<18446744073709551616:=by
 have:=numN_lt l;have:=pow_le64 h;unfold numL;omega
theorem numL_snoc (l:List UInt8) (b:UInt8) (k:Nat) (hl:l.length=k) (hk:k<8):bits .or .u64 (numL l) (IntKind.u64.wrap (IntKind.u64.wrap (b.toNat:Int) * 2 ^ (8 * k)))=numL (l++[b]):=by
 have h1:=numN_lt l
 have h2:=b.toNat_lt
 have h3:=pow_le64 (show k+1≤8 by omega)
 rw[hl] at h1
 rw[Nat.mul_add,Nat.pow_add] at h3
 have h4:b.toNat * 2 ^ (8 * k)≤255 * 2 ^ (8 * k):=Nat.mul_le_mul_right _ (by omega)
 have e:IntKind.u64.wrap (IntKind.u64.wrap (b.toNat:Int) * 2 ^ (8 * k))=((2 ^ (8 * k) * b.toNat:Nat):Int):=by
  rw[IntKind.wrap_u64 (b.toNat:Int),Int.emod_eq_of_lt (by omega) (by omega),IntKind.wrap_u64,Int.emod_eq_of_lt (by exact Int.mul_nonneg (by omega) (Int.pow_nonneg (by decide))) (by
   have:((b.toNat * 2 ^ (8 * k):Nat):Int)<18446744073709551616:=by omega
   simpa using this)]
  push_cast
  rw[Int.mul_comm]
 rw[e,numL,bits_or_u64_nat _ _ (by omega) (by rw[Nat.mul_comm];omega),Nat.or_comm,←Nat.two_pow_add_eq_or_of_lt h1,numL,numN_append,hl]
 simp[numN,Nat.add_comm]
def insB (at_ n width:Int):Bool:=decide (0≤at_∧at_≤n∧width≤n - at_)
theorem inside_calls (pb pat pw:Nat) (A:Option Addr) (n c:Nat) (at_ width:Int) (w:World) (h1:w.cell? ⟨pat,0,none⟩=some (.int .i64 at_)) (h2:w.cell? ⟨pb,0,none⟩=some (.slice A n c)) (h3:w.cell? ⟨pw,0,none⟩=some (.int .i64 width)) (hn:n≤9223372036854775807):
 Calls Tryz.prog 124 #[.pointer (some ⟨pat,0,none⟩),.pointer (some ⟨pb,0,none⟩),.pointer (some ⟨pw,0,none⟩)] w fun e w'=>e=.returned (.bool (insB at_ n width))∧w=w':=by
 go_enter Tryz.func124,Tryz.ntmps124
 go_wp2
 all_goals
  go_ret
  refine⟨ret_bool ?_,rfl⟩
  rw[Qx]
  simp[insB]
  try omega
theorem Get_none (A:Option Addr) (n c:Nat) (at_:Int) (width:Int) (w:World) (hn:n≤9223372036854775807) (h:widthB width=false∨insB at_ n width=false):
 Calls Tryz.prog 86 #[.slice A n c,.int .i64 at_,.int .i64 width] w fun e w'=>e=.returned (.tuple #[.int .u64 0,.bool false])∧Below w.heap.size w w':=by
 have hmf:∀(fn:Fn) (first cap:Array Value) (w:World),(Instr.makeFunc fn first cap).run Tryz.prog w=.ok (.func fn first cap) w:=fun _ _ _ _=>rfl
 by_cases hb:widthB width=true
 ·have h':insB at_ n width=false:=h.resolve_left (by rw[hb];decide)
  clear h
  go_enter Tryz.func86,Tryz.ntmps86
  go_wp2_with (first|(go_at_call 125;refine(right_calls _ _).mono ?_;rintro e w' ⟨rfl,rfl⟩)|(go_at_call 124;refine(inside_calls _ _ _ A n c at_ width _ (by simp[go_sem]) (by simp[go_sem]) (by simp[go_sem]) hn).mono ?_;rintro e w' ⟨rfl,rfl⟩))
  go_ret2
  exact⟨rfl,(((Jy _ _).alloc (J9 _) _).alloc (by simp) _).alloc (by simp;omega) _⟩
 ·clear h
  rw[Bool.not_eq_true] at hb
  go_enter Tryz.func86,Tryz.ntmps86
  go_wp2_with (first|(go_at_call 125;refine(right_calls _ _).mono ?_;rintro e w' ⟨rfl,rfl⟩))
  go_ret2
  exact⟨rfl,(((Jy _ _).alloc (J9 _) _).alloc (by simp) _).alloc (by simp;omega) _⟩
theorem Get_some (A:Option Addr) (c:Nat) (l:List UInt8) (at_:Nat) (width:Nat) (w:World) (hA:Rd w A (bytesV l)) (hw:width≤8) (hwb:widthB width=true) (h1:at_+width≤l.length) (hl:l.length≤9223372036854775807):
 Calls Tryz.prog 86 #[.slice A l.length c,.int .i64 at_,.int .i64 width] w fun e w'=>e=.returned (.tuple #[.int .u64 (numL ((l.drop at_).take width)),.bool true])∧Below w.heap.size w w':=by
 have hmf:∀(fn:Fn) (first cap:Array Value) (w:World),(Instr.makeFunc fn first cap).run Tryz.prog w=.ok (.func fn first cap) w:=fun _ _ _ _=>rfl
 have hin:insB at_ l.length width=true:=by simp[insB];omega
 go_enter Tryz.func86,Tryz.ntmps86
 go_wp2_with (first|(go_at_call 125;refine(right_calls _ _).mono ?_;rintro e w' ⟨rfl,rfl⟩)|(go_at_call 124;refine(inside_calls _ _ _ A l.length c at_ width _ (by simp[go_sem]) (by simp[go_sem]) (by simp[go_sem]) hl).mono ?_;rintro e w' ⟨rfl,rfl⟩))
 obtain⟨W,hW⟩:∃W:World,W=((w.alloc (.cells #[.slice A l.length c] 44)).alloc (.cells #[.int .i64 at_] 3)).alloc (.cells #[.int .i64 width] 3):=⟨_,rfl⟩
 have hBW:Below w.heap.size w W:=hW▸(((Jy _ _).alloc (J9 _) _).alloc (by simp) _).alloc (by simp;omega) _
 have hg3:W.cell? ⟨w.heap.size,0,none⟩=some (.slice A l.length c):=by rw[hW];simp[go_sem]
 have hg4:W.cell? ⟨w.heap.size+1,0,none⟩=some (.int .i64 at_):=by rw[hW];simp[go_sem]
 have hAW:=hA.below hBW
 rw[←hW]
 clear hA hW
 go_loop [9,21] (fun n i=>∃k:Nat,k≤width∧i=.int .i64 k∧n=.int .u64 (numL ((l.drop at_).take k))) (fun _ i=>width - (intOf i).toNat)
 case atStart=>exact⟨0,by omega,rfl,by simp[numL,numN]⟩
 case round=>
  obtain⟨k,hk,rfl,rfl⟩:=hrel
  by_cases hlt:k<width
  ·obtain⟨ad,rfl,hc⟩:=hAW (by intro h;have:=congrArg List.length h;simp[bytesV] at this;subst this;simp at h1;omega)
   have hcell:=hc (at_+k) (.int .u8 ((l[at_+k]'(by omega)).toNat:Int)) (by simp[bytesV,J4 (show at_+k<l.length by omega)])
   clear hc
   have hts:(l.drop at_).take (k+1)=(l.drop at_).take k++[l[at_+k]'(by omega)]:=by
    rw[List.take_succ_eq_append_getElem (by simp;omega)];simp
   have hsn:=numL_snoc ((l.drop at_).take k) (l[at_+k]'(by omega)) k (by simp;omega) (by omega)
   have H:=J0 hsn
   have H2:=J0 hts
   clear hsn hts
   go_wp2
   go_round
   case rel=>exact⟨k+1,by omega,by go_num,by rw[H.out,H2.out]⟩
   case measure=>simp[intOf];omega
  ·go_wp2
   go_ret2
   obtain rfl:k=width:=by omega
   exact⟨rfl,hBW⟩
theorem rGet_none (s:ByteArray) (at_:Int) (width:Int) (w:World) (hn:s.size≤9223372036854775807) (h:widthB width=false∨insB at_ s.size width=false):
 Calls Tryz.prog 90 #[.string s,.int .i64 at_,.int .i64 width] w fun e w'=>e=.returned (.tuple #[.int .u64 0,.bool false])∧w=w':=by
 by_cases hb:widthB width=true
 ·have h':insB at_ s.size width=false:=h.resolve_left (by rw[hb];decide)
  have h2:0≤at_→at_≤s.size→s.size - at_<width:=by
   intro a b
   have:¬(0≤at_∧at_≤s.size∧width≤s.size - at_):=by simpa[insB] using h'
   omega
  clear h h'
  by_cases h3:0≤at_
  ·by_cases h4:at_≤s.size
   ·have h5:=h2 h3 h4
    clear h2
    go_enter Tryz.func90,Tryz.ntmps90
    go_wp2_with (first|(go_at_call 121;refine(rRight_calls _ _).mono ?_;rintro e w' ⟨rfl,rfl⟩))
    go_ret2
    exact⟨rfl,rfl⟩
   ·clear h2
    go_enter Tryz.func90,Tryz.ntmps90
    go_wp2_with (first|(go_at_call 121;refine(rRight_calls _ _).mono ?_;rintro e w' ⟨rfl,rfl⟩))
    go_ret2
    exact⟨rfl,rfl⟩
  ·clear h2
   go_enter Tryz.func90,Tryz.ntmps90
   go_wp2_with (first|(go_at_call 121;refine(rRight_calls _ _).mono ?_;rintro e w' ⟨rfl,rfl⟩))
   go_ret2
   exact⟨rfl,rfl⟩
 ·clear h
  rw[Bool.not_eq_true] at hb
  go_enter Tryz.func90,Tryz.ntmps90
  go_wp2_with (first|(go_at_call 121;refine(rRight_calls _ _).mono ?_;rintro e w' ⟨rfl,rfl⟩))
  go_ret2
  exact⟨rfl,rfl⟩
theorem rGet_some (s:ByteArray) (at_:Nat) (width:Nat) (w:World) (hw:width≤8) (hwb:widthB width=true) (h1:at_+width≤s.size) (hl:s.size≤9223372036854775807):
 Calls Tryz.prog 90 #[.string s,.int .i64 at_,.int .i64 width] w fun e w'=>e=.returned (.tuple #[.int .u64 (numL (((bl s).drop at_).take width)),.bool true])∧w=w':=by
 have d1:decide (s.size<at_)=false:=by simp;omega
 have d2:decide ((at_:Int)<0)=false:=by simp
 have d3:decide ((s.size:Int) - at_<width)=false:=by simp;omega
 go_enter Tryz.func90,Tryz.ntmps90
 go_wp2_with (first|(go_at_call 121;refine(rRight_calls _ _).mono ?_;rintro e w' ⟨rfl,rfl⟩))
 go_loop [8,9] (fun n i=>∃k:Nat,k≤width∧i=.int .i64 ((k:Int) - 1)∧n=.int .u64 (numL ((((bl s).drop at_).take width).drop k))) (fun _ i=>(intOf i+1).toNat)
 case atStart=>exact⟨width,by omega,rfl,by rw[List.drop_of_length_le (by simp;omega)];rfl⟩
 case round=>
  obtain⟨k,hk,rfl,rfl⟩:=hrel
  by_cases hlt:0<k
  ·obtain⟨j,rfl⟩:∃j,k=j+1:=⟨k - 1,by omega⟩
   rw[show (((j+1:Nat):Int) - 1)=(j:Int) by omega]
   have hj:at_+j<s.size:=by omega
   obtain⟨y,hy⟩:∃y,y=numL ((((bl s).drop at_).take width).drop (j+1)):=⟨_,rfl⟩
   have hyl:=numN_lt ((((bl s).drop at_).take width).drop (j+1))
   have hp:=pow_le64 (show((((bl s).drop at_).take width).drop (j+1)).length+1≤8 by simp;omega)
   have hdr:(((bl s).drop at_).take width).drop j=s[at_+j] :: (((bl s).drop at_).take width).drop (j+1):=by
    rw[List.drop_eq_getElem_cons (by simp[bl_length];omega)]
    simp[bl];rfl
   have hval:numL ((((bl s).drop at_).take width).drop j)=y * 256+(s[at_+j].toNat:Int):=by
    rw[hdr,hy];simp[numL,numN];omega
   have hyb:0≤y∧y * 256+256≤18446744073709551616:=by
    rw[Nat.mul_add,Nat.pow_add] at hp
    subst hy;unfold numL;omega
   obtain⟨hy0,hy1⟩:=hyb
   have hbt:=s[at_+j].toNat_lt
   rw[←hy]
   have H:=J0 hval
   clear hval hdr hyl hp hy
   go_wp2
   go_round
   case rel=>exact⟨j,by omega,rfl,by rw[H.out]⟩
   case measure=>simp[intOf]
  ·go_wp2
   go_ret2
   obtain rfl:k=0:=by omega
   exact⟨rfl,rfl⟩
end
end Go.Proofs.YteembinfgbapgaaGreat
