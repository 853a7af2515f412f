/- Merged out of: Lb Rw Ka Kb Kc Rg Kd Ga Gb Gc Gd Ke Kf Kg. -/
import Derived.Test.YteembinfgbapgaaGreatE00
import Derived.Test.YteembinfgbapgaaGreatProg
import Derived.WalkKit
import Derived.KernelRfl
import Derived.Deep.QuietTactic
import Derived.BigQuiet
import Derived.WideLaws
import Derived.Laws.BytesArg
import Derived.Lib.ConvBytes
import Derived.ProofKit
import Derived.OpenShut
import Derived.ShutString
import Derived.ChangeOld
import Derived.Below
import Derived.SizedLaws
import Derived.Lib.SmallJoins
import Derived.Laws.IdiomArrays
import Derived.Laws.Bits64b
import Derived.Lib.Hide
import Derived.OrdersHeld
import Derived.Deep.RegionHeld
import Derived.Laws.RangeAny
set_option linter.unusedSimpArgs false
set_option linter.unusedVariables false
set_option maxRecDepth 100000
set_option maxHeartbeats 8000000
namespace Go.Proofs.YteembinfgbapgaaGreat
section
open Go.RowKit Go.Lib
theorem cf {k:IntKind} {a b:Int} (h:a=b):Ending.returned (.int k a)=.returned (.int k b):=by rw[h]
theorem al {a b:Bool} (h:a=b):Ending.returned (.bool a)=.returned (.bool b):=by rw[h]
def Rd (w:EQ) (A:EL) (cs:EO):Prop:=cs≠[]->∃ad,A=some ad/\∀j u,cs[j]?=some u->w.cell? (ad.add j)=some u
theorem aE {w w1:EQ} {B:Nat} (h:Below w.heap.size w w1) {a:Addr} {v:ER} (hc:w.cell? a=some v):w1.cell? a=some v:=(h.cell (World.block_lt_of_cell? w a hc)).trans hc
theorem lB {w:EQ} {b o:Nat} {v:ER} (h:w.cell? ⟨b,o,none⟩=some v):b<w.heap.size:=World.block_lt_of_cell? w ⟨b,o,none⟩ h
theorem Rd.below {w w1:EQ} {A:EL} {cs:EO} (h:Rd w A cs) (hb:Below w.heap.size w w1):Rd w1 A cs:=fun hn=>by
 obtain⟨ad,e,hc⟩:=h hn
 exact⟨ad,e,fun j u hj=>aE (B:=0) hb (hc j u hj)⟩
theorem Rd.nil (w:EQ) (A:EL):Rd w A []:=fun h=>absurd rfl h
theorem Er (w:EQ) {X w1:EQ} (hb:Below X.heap.size X w1) (h:w.heap.size+1<=X.heap.size):w.heap.size<w1.heap.size:=by have:=hb.size;omega
theorem xA (w:EQ) {X w1:EQ} (hb:Below X.heap.size X w1) (h:w.heap.size+2<=X.heap.size):w.heap.size<w1.heap.size/\w.heap.size+1<w1.heap.size:=by have:=hb.size;omega
theorem lV (w:EQ) {X w1:EQ} (hb:Below X.heap.size X w1) (h:w.heap.size+3<=X.heap.size):w.heap.size<w1.heap.size/\w.heap.size+1<w1.heap.size/\w.heap.size+1+1<w1.heap.size:=by have:=hb.size;omega
theorem il (w:EQ) {X w1:EQ} (hb:Below X.heap.size X w1) (h:w.heap.size+4<=X.heap.size):w.heap.size<w1.heap.size/\w.heap.size+1<w1.heap.size/\w.heap.size+1+1<w1.heap.size/\w.heap.size+1+1+1<w1.heap.size:=by have:=hb.size;omega
theorem aS {W w1:EQ} (hb:Below W.heap.size W w1):(∀b o,b<W.heap.size->w1.cell? ⟨b,o,none⟩=W.cell? ⟨b,o,none⟩)/\(∀b o,b<W.heap.size->w1.frozen? ⟨b,o,none⟩=W.frozen? ⟨b,o,none⟩):=
 ⟨fun b o h=>hb.cell (p:=⟨b,o,none⟩) h,fun b o h=>hb.frozen (p:=⟨b,o,none⟩) h⟩
theorem aA {w:EQ} (o:Obj):Below w.heap.size w (w.alloc o):=(Jy _ _).alloc (J9 _) o
theorem aB {w w1 w2:EQ} (h:Below w.heap.size w w1) (k:Below w1.heap.size w1 w2):Below w.heap.size w w2:=h.trans (k.mono h.size)
theorem sX {B:Nat} {w W:EQ} (h:Below B w W) (n:Nat):Below B w (W.drewN n):=⟨h.os,h.tape,h.output,h.size,h.block⟩
theorem bD (w:EQ) (cs:Array ER) (T:ES) (j:Nat) (u:ER) (h:cs[j]?=some u):(w.alloc (.cells cs T)).cell? ⟨w.heap.size,j,none⟩=some u:=by
 rw[World.cell?_alloc_new];exact h
theorem aF {w:EQ} {base:Nat} {e:ES} {size n:Nat} {v:ER} {xs:EO} (h:w.ownsRow base e size v n xs) (k:Nat) (hk:v.ownBlock=some k):base<=k:=by
 rcases h.2 with ⟨rfl,_⟩|⟨g,cap,cur,rfl,hb,_⟩
 ·simp[Value.ownBlock] at hk
 ·have:g=k:=by simpa[Value.ownBlock] using hk
  omega
theorem ai (W:EQ) (base:Nat) (e:ES) (size:Nat):W.ownsRow base e size (.slice none 0 0) 0 []:=⟨by simp,.inl ⟨rfl,rfl⟩⟩
theorem aL {w:EQ} {base:Nat} {e:ES} {size n:Nat} {v:ER} {xs:EO} (h:w.ownsRow base e size v n xs):∃A c,v=.slice A n c/\n<=c/\c<=maxLen/\Rd w A xs:=by
 obtain⟨h1,h2⟩:=h
 rcases h2 with ⟨rfl,rfl⟩|⟨g,cap,cur,rfl,hb,hh,hn,hc,hs,ht⟩
 ·have:xs=[]:=List.eq_nil_of_length_eq_zero (by simpa using h1)
  subst this
  exact⟨none,0,rfl,J9 _,X6 _,Rd.nil _ _⟩
 ·refine⟨_,cap,rfl,hn,hc,fun _=>⟨_,rfl,fun j u hj=>?_⟩⟩
  have e:(⟨g,0,none⟩:Addr).add j=⟨g,j,none⟩:=by unfold Addr.add;split <;> simp_all
  rw[e,<-ht,X7] at *
  split at hj
  ·simp[World.cell?,hh,<-hj]
  ·cases hj
theorem aG {w w1:EQ} {base:Nat} {e:ES} {size n:Nat} {v:ER} {xs:EO} (h:w.ownsRow base e size v n xs) (hb:Below w.heap.size w w1):w1.ownsRow base e size v n xs:=by
 obtain⟨h1,h2⟩:=h
 refine⟨h1,?_⟩
 rcases h2 with h2|⟨g,cap,cur,rfl,hg,hh,r⟩
 ·exact .inl h2
 ·exact .inr ⟨g,cap,cur,rfl,hg,(hb.block g (Qq.1 hh).1).trans hh,r⟩
theorem hQ {w:EQ} {base base':Nat} {e:ES} {size n:Nat} {v:ER} {xs:EO} (h:w.ownsRow base e size v n xs) (hb:base'<=base):w.ownsRow base' e size v n xs:=by
 obtain⟨h1,h2⟩:=h
 refine⟨h1,?_⟩
 rcases h2 with h2|⟨g,cap,cur,rfl,hg,r⟩
 ·exact .inl h2
 ·exact .inr ⟨g,cap,cur,rfl,by omega,r⟩
def aR (l:EN):EP:=⟨l.toArray⟩
theorem aj (l:EN):(aR l).size=l.length:=by simp[aR,ByteArray.size]
theorem bT (a b:EN):aR a++aR b=aR (a++b):=by
 apply ByteArray.ext;simp[aR,ByteArray.data_append]
def aH (l:EN):EO:=l.map fun b=>.int .u8 (b.toNat:Int)
theorem bO (l:EN):(aH l).length=l.length:=by simp[aH]
theorem bE (a b:EN):aH (a++b)=aH a++aH b:=by simp[aH]
theorem nW:(Tryz.prog.info? 5).map (fun i=>(i.zero,i.size,i.bytes))=some (some (.int .u8 0),1,1):=by kernel_rfl
theorem DQ (x:Int) (W:EQ) (b:Nat) (hc:W.cell? ⟨b,0,none⟩=some (.int .u8 x)):(convert 44 9 (.slice (some ⟨b,0,none⟩) 1 1)).run Tryz.prog W=.ok (.string (aR [UInt8.ofNat x.toNat])) W:=by
 refine run_convert_bytes_arg (P:=Tryz.prog) W 44 5 Tryz.underlying44 Tryz.underlying5 b 0 1 1 [x] rfl (fun i hi=>?_) 9 Tryz.underlying9
 obtain rfl:i=0:=by omega
 simpa using hc
theorem CI (w:EQ) (u:ER) (T:ES):∀j x,[u][j]?=some x->(w.alloc (.cells #[u] T)).cell? ((⟨w.heap.size,0,none⟩:Addr).add j)=some x:=by
 intro j x hj
 match j with
 |0=>simp at hj;subst hj;exact bD w _ T 0 u rfl
 |j+1=>simp at hj
theorem js {l:EN} {j:Nat} (hj:j<l.length):(aH l)[j]?=some (.int .u8 (l[j].toNat:Int)):=by simp[aH,J4 hj]
theorem nP {w:EQ} {A:EL} {l:EN} (h:Rd w A (aH l)) (c:Nat):(convert 44 9 (.slice A l.length c)).run Tryz.prog w=.ok (.string (aR l)) w:=by
 cases l with
 |nil=>
  rw[run_convert_bytes_string w 44 9 5 A _ c Tryz.underlying44 Tryz.underlying5 Tryz.underlying9]
  cases A with
  |none=>simp[Conv.bytesToString,aR];rfl
  |some a=>rw[List.length_nil,run_bytesToString w a 0 c [] (by simpa using run_loadCells_list (P:=Tryz.prog) w a [] (by simp))];rfl
 |cons b l=>
  obtain⟨ad,rfl,hc⟩:=h (by simp[aH])
  exact run_convert_bytes_back w 44 9 5 ad c (b :: l) Tryz.underlying44 Tryz.underlying5 Tryz.underlying9 fun j hj=>hc j _ (js hj)
theorem kC (n:Nat) (h:n<=281474976710656) (w:EQ):(Instr.makeSlice 44 (.int .i64 (n:Int)) (.int .i64 (n:Int))).run Tryz.prog w=.ok (.slice (some ⟨w.heap.size,0,none⟩) n n) (w.alloc (.cells (aH (List.replicate n 0)).toArray 5)):=by
 obtain⟨i0,hi,hz0,hz1,hz2⟩:=info_parts nW
 have:=run_make (P:=Tryz.prog) w 44 5 i0 (.int .u8 0) Tryz.underlying44 hi hz0 .i64 .i64 n n (by omega) (Int.le_refl _) (by rw[hz2];omega) (by omega)
 rw[this,hz1]
 have e:madeCells (Value.int .u8 0).cells ((n:Int).toNat * 1)=(aH (List.replicate n 0)).toArray:=by
  apply Array.ext'
  rw[show (Value.int .u8 0).cells=#[.int .u8 0] from rfl,toList_madeCells_one]
  simp[aH]
 rw[e]
 simp
theorem gh (w:EQ) (cs:EO) (T:ES):Rd (w.alloc (.cells cs.toArray T)) (some ⟨w.heap.size,0,none⟩) cs:=fun _=>⟨_,rfl,fun j u hj=>by
 have e:(⟨w.heap.size,0,none⟩:Addr).add j=⟨w.heap.size,j,none⟩:=by unfold Addr.add;split <;> simp_all
 rw[e];exact bD w _ T j u (by simpa using hj)⟩
theorem jv (s:EP) (w:EQ):(convert 9 44 (.string s)).run Tryz.prog w=.ok (.slice (some ⟨w.heap.size,0,none⟩) s.size (grownCap w s.size 0 5)) (bytesWorld w 5 s):=
 Go.Lib.run_convert_string_bytes w 9 44 5 s Tryz.underlying9 Tryz.underlying44 Tryz.underlying5
def bl (s:EP):EN:=s.data.toList
theorem aZ (s:EP):(bl s).length=s.size:=by rw[bl,Array.length_toList];rfl
theorem cl (s:EP):aR (bl s)=s:=by simp[aR,bl]
theorem fi (l:EN):bl (aR l)=l:=by simp[aR,bl]
theorem fG (w:EQ) (e:ES) (s:EP):Below w.heap.size w (bytesWorld w e s):=
 ⟨rfl,rfl,rfl,by rw[bytesWorld_size];omega,fun k hk=>bytesWorld_at_old w e s k hk⟩
theorem gc (w:EQ) (e:ES) (s:EP):Rd (bytesWorld w e s) (some ⟨w.heap.size,0,none⟩) (aH (bl s)):=fun _=>⟨_,rfl,fun j u hj=>by
 have hj':j<(bl s).length:=by have:=(J6.1 hj).1;simpa[aH] using this
 have e1:(⟨w.heap.size,0,none⟩:Addr).add j=⟨w.heap.size,j,none⟩:=by unfold Addr.add;split <;> simp_all
 rw[e1,bytesWorld_cell w e s j (by rw[<-aZ];exact hj')]
 rw[js hj'] at hj
 rw[<-hj]
 simp[bl,List.getD,J4 (show j<s.data.toList.length from hj')]⟩
theorem Rd.take {w:EQ} {A:EL} {cs:EO} (h:Rd w A cs) (n:Nat):Rd w A (cs.take n):=fun hne=>by
 obtain⟨ad,rfl,hc⟩:=h (by rintro rfl;simp at hne)
 refine⟨ad,rfl,fun j u hj=>hc j u ?_⟩
 rw[X7] at hj
 split at hj
 ·exact hj
 ·cases hj
theorem bC (w:EQ) (a:Addr) (u v:ER):(w.setCell a u).setCell a v=w.setCell a v:=by
 have h:((w.setCell a u).setCell a v).heap=(w.setCell a v).heap:=by
  apply Array.ext_getElem?
  intro i
  simp only[World.setCell,Array.getElem?_modify]
  by_cases hi:a.block=i
  ·subst hi
   simp only[if_true]
   cases w.heap[a.block]? with
   |none=>rfl
   |some o=>cases o <;> simp <;> split <;> simp_all
  ·simp[hi]
 exact congrArg (fun H=>({ w with heap:=H }:EQ)) h
def sN (w:EQ) (v:ER) (l:EN):Prop:=∃A c,v=.slice A l.length c/\l.length<=c/\Rd w A (aH l)
theorem sN.below {w w1:EQ} {v:ER} {l:EN} (h:sN w v l) (hb:Below w.heap.size w w1):sN w1 v l:=by
 obtain⟨A,c,e,hc,hr⟩:=h
 exact⟨A,c,e,hc,hr.below hb⟩
end
section
open Go.ChangeShapes Go.WideShapes Go.ChangeAt Go.RowKit Go.Joins
open Go.ChangeMaps (open_string shut_string)
section
variable {H:Type} {enc:ES×ER->H} {w:EQ} {base b0:Nat} {r:Reach} {spare:Nat->Bool} {held:Bool} {v:ER} {d:DataW H} {p:List MemPlace}
theorem vx {n:Int} (h:(Lit.int .i64 n).wf=true):-9223372036854775808<=n/\n<=9223372036854775807:=by
 have:=bounds_i64 h
 omega
theorem DG {n:Int} (h:(Lit.int .u64 n).wf=true):0<=n/\n<18446744073709551616:=by
 have:=bounds_u64 h
 omega
theorem Ee {n:Int} (h:(Lit.int .u8 n).wf=true):0<=n/\n<256:=by
 have:=bounds_u8 h
 omega
theorem vK (hv:Value.okWide Tryz.prog w r b0 44 v) (h:DataW.Trod enc Tryz.prog w base spare held 44 v d p):
 ∃A c l,v=.slice A l.length c/\l.length<=c/\c<=maxLen/\Rd w A (aH l):=by
 obtain⟨a,len,cap,rfl⟩:=okWide_slice Tryz.underlying44 hv
 obtain⟨fuel,hf⟩:=h
 rcases open_ints Tryz.underlying44 Tryz.underlying5 (by kernel_rfl) hf with ⟨hcs,_⟩|⟨x,l,c,zs,hcs,_,hl,hm,hz,_,hcell,hwz⟩
 ·simp[Value.cells] at hcs
  obtain⟨rfl,rfl,rfl⟩:=hcs
  exact⟨none,0,[],rfl,J9 _,X6 _,Rd.nil _ _⟩
 ·simp[Value.cells] at hcs
  obtain⟨rfl,rfl,rfl⟩:=hcs
  have hzl:len<=zs.length:=by rw[hz];split <;> omega
  have hlen:((zs.take len).map fun z=>UInt8.ofNat z.toNat).length=len:=by rw[Kz,Qx];omega
  refine⟨some x,cap,(zs.take len).map fun z=>UInt8.ofNat z.toNat,by rw[hlen],by rw[hlen];exact hl,hm,fun _=>⟨x,rfl,fun j u hj=>?_⟩⟩
  have hjl:j<len:=by
   rcases Nat.lt_or_ge j len with h'|h'
   ·exact h'
   ·rw[Xv (by rw[bO,hlen];exact h')] at hj;cases hj
  have hjz:j<zs.length:=by omega
  have hb:=Ee (hwz _ (List.getElem_mem hjz))
  rw[hcell j hjz]
  rw[js (by rw[hlen];exact hjl)] at hj
  rw[<-Jj hj]
  simp[Yy,J4 hjz]
  omega
end
end
section
open Go.RowKit
def gH (k:Int):Int:=
 if k=1\/k=5\/k=9 then 1 else if k=2\/k=6 then 2 else if k=3\/k=7 then 4 else if k=4\/k=8\/k=10\/k=11 then 8 else 0
def af (n:Int):Bool:=decide (n=1\/n=2\/n=4\/n=8)
def fA (n:Int):Int:=if n=1 then 256 else if n=2 then 65536 else if n=4 then 4294967296 else 18446744073709551616
def cP (n width:Int):Int:=
 if af width then(if n % fA width<fA width / 2 then n % fA width else n % fA width - fA width+18446744073709551616) else n
def bi (n width:Int) (s:Bool):Bool:=af width && (if s then cP n width == n else decide (n<fA width))
def eK (a k b:Int):Bool:=decide (a<=k/\k<=b)
theorem br {a k b:Int}:eK a k b=true↔a<=k/\k<=b:=by simp[eK]
theorem qa {a k b:Int}:eK a k b=false↔¬(a<=k/\k<=b):=by simp[eK]
theorem mz (k:Int) (w:EQ):Calls Tryz.prog 128 #[.int .i64 k] w fun e w'=>e=.returned (.int .i64 (gH k))/\w=w':=by
 go_enter Tryz.func128,Tryz.ntmps128
 go_wp2
 all_goals
  go_ret
  exact⟨cf (by simp only[beq_iff_eq,beq_eq_false_iff_ne,ne_eq] at *;unfold gH;split <;> (try omega) <;> split <;> (try omega) <;> split <;> (try omega) <;> split <;> omega),rfl⟩
theorem dl (n:Int) (w:EQ):Calls Tryz.prog 125 #[.int .i64 n] w fun e w'=>e=.returned (.bool (af n))/\w=w':=by
 go_enter Tryz.func125,Tryz.ntmps125
 go_wp2
 all_goals
  go_ret
  exact⟨al (by rw[Qy];simp[af, *];try omega),rfl⟩
theorem ji (k a b:Int) (w:EQ):Calls Tryz.prog 157 #[.int .i64 k,.int .i64 a,.int .i64 b] w fun e w'=>e=.returned (.bool (eK a k b))/\w=w':=by
 go_enter Tryz.func157,Tryz.ntmps157
 go_wp2
 all_goals
  go_ret
  exact⟨al (by rw[Qy];simp[eK];try omega),rfl⟩
theorem jI (k:Int) (w:EQ):Calls Tryz.prog 109 #[.int .i64 k] w fun e w'=>e=.returned (.bool (eK 1 k 4))/\w=w':=by
 go_enter Tryz.func109,Tryz.ntmps109
 go_wp2_with (go_at_call 157;refine(ji _ _ _ _).mono ?_;rintro e w' ⟨rfl,rfl⟩)
 go_ret
 exact⟨rfl,rfl⟩
theorem ft (k:Int) (w:EQ):Calls Tryz.prog 111 #[.int .i64 k] w fun e w'=>e=.returned (.bool (eK 5 k 8))/\w=w':=by
 go_enter Tryz.func111,Tryz.ntmps111
 go_wp2_with (go_at_call 157;refine(ji _ _ _ _).mono ?_;rintro e w' ⟨rfl,rfl⟩)
 go_ret
 exact⟨rfl,rfl⟩
theorem cC {n:Int} (h:af n=true):n=1\/n=2\/n=4\/n=8:=by simpa[af] using h
theorem dw (n:Int) (h0:0<=n) (h1:n<18446744073709551616):cP n 1=if n % 256<128 then n % 256 else n % 256+18446744073709551360:=by
 simp[cP,af,fA];split <;> omega
theorem ci (n:Int) (h0:0<=n) (h1:n<18446744073709551616):cP n 2=if n % 65536<32768 then n % 65536 else n % 65536+18446744073709486080:=by
 simp[cP,af,fA];split <;> omega
theorem cj (n:Int) (h0:0<=n) (h1:n<18446744073709551616):cP n 4=if n % 4294967296<2147483648 then n % 4294967296 else n % 4294967296+18446744069414584320:=by
 simp[cP,af,fA];split <;> omega
theorem jZ (n:Int) (h0:0<=n) (h1:n<18446744073709551616):cP n 8=n:=by
 simp[cP,af,fA];omega
theorem jq (n width:Int) (h0:0<=n) (h1:n<18446744073709551616) (w:EQ):Calls Tryz.prog 126 #[.int .u64 n,.int .i64 width] w fun e w'=>e=.returned (.int .u64 (cP n width))/\w=w':=by
 by_cases hw:af width=true
 ·rcases cC hw with h|h|h|h <;> subst h
  all_goals
   go_enter Tryz.func126,Tryz.ntmps126
   go_wp2_with (go_at_call 125;refine(dl _ _).mono ?_;rintro e w' ⟨rfl,rfl⟩)
   go_ret
   refine⟨cf ?_,rfl⟩
   first|rw[dw n h0 h1]|rw[ci n h0 h1]|rw[cj n h0 h1]|rw[jZ n h0 h1]
   simp only[IntKind.wrap_u64,IntKind.wrap_i64,wrap64]
   (try split) <;> omega
 ·rw[Bool.not_eq_true] at hw
  go_enter Tryz.func126,Tryz.ntmps126
  go_wp2_with (go_at_call 125;refine(dl _ _).mono ?_;rintro e w' ⟨rfl,rfl⟩)
  go_ret
  exact⟨cf (by simp[cP,hw]),rfl⟩
theorem mu (n width:Int) (s:Bool) (h0:0<=n) (h1:n<18446744073709551616) (w:EQ):Calls Tryz.prog 131 #[.int .u64 n,.int .i64 width,.bool s] w fun e w'=>e=.returned (.bool (bi n width s))/\w=w':=by
 by_cases hw:af width=true
 ·rcases cC hw with h|h|h|h <;> subst h <;> cases s
  all_goals
   go_enter Tryz.func131,Tryz.ntmps131
   go_wp2_with (first|(go_at_call 125;refine(dl _ _).mono ?_;rintro e w' ⟨rfl,rfl⟩)|(go_at_call 126;refine(jq _ _ h0 h1 _).mono ?_;rintro e w' ⟨rfl,rfl⟩))
   go_ret
   refine⟨al ?_,rfl⟩
   rw[Qy]
   simp[bi,af,fA]
   try omega
 ·rw[Bool.not_eq_true] at hw
  go_enter Tryz.func131,Tryz.ntmps131
  go_wp2_with (go_at_call 125;refine(dl _ _).mono ?_;rintro e w' ⟨rfl,rfl⟩)
  go_ret
  exact⟨al (by simp[bi,hw]),rfl⟩
theorem mM (k:Int) (w:EQ):Calls Tryz.prog 129 #[.int .i64 k] w fun e w'=>e=.returned (.int .i64 (gH k))/\w=w':=by
 go_enter Tryz.func129,Tryz.ntmps129
 go_wp2
 all_goals
  go_ret
  refine⟨cf ?_,rfl⟩
  unfold gH
  try simp only[beq_iff_eq,beq_eq_false_iff_ne,ne_eq,Bool.or_eq_true,Bool.or_eq_false_iff,not_or,Bool.or_assoc,Y8,decide_eq_false_iff_not] at *
  split <;> (try omega) <;> split <;> (try omega) <;> split <;> (try omega) <;> split <;> omega
theorem bK (n:Int) (w:EQ):Calls Tryz.prog 121 #[.int .i64 n] w fun e w'=>e=.returned (.bool (af n))/\w=w':=by
 go_enter Tryz.func121,Tryz.ntmps121
 go_wp2
 all_goals
  go_ret
  exact⟨al (by rw[Qy];simp[af, *];try omega),rfl⟩
def tz:Nat->Int
 |0=>0
 |k+1=>tz k * 256+255
theorem Ed (k:Nat) (h:k<8):0<=tz k/\tz k<=72057594037927935:=by
 match k,h with
 |0,_|1,_|2,_|3,_|4,_|5,_|6,_|7,_=>decide
theorem gG (n:Nat) (hn:n<=8) (w:EQ):Calls Tryz.prog 122 #[.int .i64 n] w fun e w'=>e=.returned (.int .u64 (tz n))/\w=w':=by
 go_enter Tryz.func122,Tryz.ntmps122
 go_wp2
 go_loop [3,4] (fun t i=>∃k:Nat,k<=n/\i=.int .i64 k/\t=.int .u64 (tz k)) (fun _ i=>n - (intOf i).toNat)
 case atStart=>exact⟨0,by omega,rfl,rfl⟩
 case round=>
  obtain⟨k,hk,rfl,rfl⟩:=hrel
  by_cases hlt:k<n
  ·obtain⟨b1,b2⟩:=Ed k (by omega)
   go_wp2
   go_round
   case rel=>exact⟨k+1,by omega,by go_num,rfl⟩
   case measure=>simp[intOf];omega
  ·go_wp2
   go_ret
   obtain rfl:k=n:=by omega
   exact⟨rfl,rfl⟩
theorem AF (w:EQ):Calls Tryz.prog 122 #[.int .i64 1] w fun e w'=>e=.returned (.int .u64 255)/\w=w':=gG 1 (by omega) w
theorem AG (w:EQ):Calls Tryz.prog 122 #[.int .i64 2] w fun e w'=>e=.returned (.int .u64 65535)/\w=w':=gG 2 (by omega) w
theorem AH (w:EQ):Calls Tryz.prog 122 #[.int .i64 4] w fun e w'=>e=.returned (.int .u64 4294967295)/\w=w':=gG 4 (by omega) w
theorem AI (w:EQ):Calls Tryz.prog 122 #[.int .i64 8] w fun e w'=>e=.returned (.int .u64 18446744073709551615)/\w=w':=gG 8 (by omega) w
theorem mL (n width:Int) (h0:0<=n) (h1:n<18446744073709551616) (w:EQ):Calls Tryz.prog 130 #[.int .u64 n,.int .i64 width] w fun e w'=>e=.returned (.int .u64 (cP n width))/\w=w':=by
 by_cases hw:af width=true
 ·rcases cC hw with h|h|h|h <;> subst h
  all_goals
   go_enter Tryz.func130,Tryz.ntmps130
   go_wp2_with (first|(go_at_call 121;refine(bK _ _).mono ?_;rintro e w' ⟨rfl,rfl⟩)|(go_at_call 122;(first|(with_reducible refine(AF _).mono ?_)|(with_reducible refine(AG _).mono ?_)|(with_reducible refine(AH _).mono ?_)|(with_reducible refine(AI _).mono ?_));rintro e w' ⟨rfl,rfl⟩))
   all_goals
    go_ret
    refine⟨cf ?_,rfl⟩
    first|rw[dw n h0 h1]|rw[ci n h0 h1]|rw[cj n h0 h1]|rw[jZ n h0 h1]
    all_goals (try simp only[IntKind.wrap_u64])
    all_goals (first|omega|(split <;> omega))
 ·rw[Bool.not_eq_true] at hw
  go_enter Tryz.func130,Tryz.ntmps130
  go_wp2_with (go_at_call 121;refine(bK _ _).mono ?_;rintro e w' ⟨rfl,rfl⟩)
  go_ret
  exact⟨cf (by simp[cP,hw]),rfl⟩
theorem tu (n width:Int) (s:Bool) (h0:0<=n) (h1:n<18446744073709551616) (w:EQ):Calls Tryz.prog 160 #[.int .u64 n,.int .i64 width,.bool s] w fun e w'=>e=.returned (.bool (bi n width s))/\w=w':=by
 by_cases hw:af width=true
 ·rcases cC hw with h|h|h|h <;> subst h <;> cases s
  all_goals
   go_enter Tryz.func160,Tryz.ntmps160
   go_wp2_with (first|(go_at_call 121;refine(bK _ _).mono ?_;rintro e w' ⟨rfl,rfl⟩)|(go_at_call 130;refine(mL _ _ h0 h1 _).mono ?_;rintro e w' ⟨rfl,rfl⟩)|(go_at_call 122;(first|(with_reducible refine(AF _).mono ?_)|(with_reducible refine(AG _).mono ?_)|(with_reducible refine(AH _).mono ?_)|(with_reducible refine(AI _).mono ?_));rintro e w' ⟨rfl,rfl⟩))
   go_ret
   refine⟨al ?_,rfl⟩
   rw[Qy]
   simp[bi,af,fA]
   try omega
 ·rw[Bool.not_eq_true] at hw
  go_enter Tryz.func160,Tryz.ntmps160
  go_wp2_with (go_at_call 121;refine(bK _ _).mono ?_;rintro e w' ⟨rfl,rfl⟩)
  go_ret
  exact⟨al (by simp[bi,hw]),rfl⟩
def dx (n:Int) (i:Nat):Int:=n / 2 ^ (8 * i) % 256
def dG (n:Int) (k:Nat):EN:=(List.range k).map fun i=>UInt8.ofNat (dx n i).toNat
theorem kf (n:Int) (k:Nat):dG n (k+1)=dG n k++[UInt8.ofNat (dx n k).toNat]:=by simp[dG,List.range_succ]
theorem aX (n:Int) (k:Nat):(dG n k).length=k:=by simp[dG]
theorem Db (n:Int) (k:Nat) (h:0<=n):0<=n / 2 ^ (8 * k):=Int.ediv_nonneg h (Int.pow_nonneg (by decide))
theorem Da (n:Int) (k:Nat) (h:0<=n):n / 2 ^ (8 * k)<=n:=Int.ediv_le_self _ h
theorem zM (n:Int) (k:Nat):n / 2 ^ (8 * (k+1))=n / 2 ^ (8 * k) / 256:=by
 rw[Nat.mul_add,Int.pow_add,Int.ediv_ediv_of_nonneg (by exact Int.pow_nonneg (by decide))]
 rfl
theorem yM (n:Int) (width:Nat) (hw:width<=8) (hwb:af width=true) (h0:0<=n) (h1:n<18446744073709551616) (hn:n<=tz width) (w:EQ):Calls Tryz.prog 83 #[.int .i64 width,.int .u64 n] w fun e w'=>e=.returned (.string (aR (dG n width)))/\Below w.heap.size w w':=by
 have hcv:=DQ
 go_enter Tryz.func83,Tryz.ntmps83
 go_wp2_with (first|(go_at_call 121;refine(bK _ _).mono ?_;rintro e w' ⟨rfl,rfl⟩)|(go_at_call 122;refine(gG width hw _).mono ?_;rintro e w' ⟨rfl,rfl⟩))
 go_loopw [1,5,6] (fun m s i wr=>∃k:Nat,k<=width/\i=.int .i64 k/\s=.string (aR (dG n k))/\m=.int .u64 (n / 2 ^ (8 * k))/\Below w.heap.size w wr) (fun _ _ i _=>width - (intOf i).toNat)
 case atStart=>exact⟨0,by omega,rfl,rfl,by simp,Jy _ _⟩
 case round=>
  obtain⟨k,hk,rfl,rfl,rfl,hB⟩:=hrel
  by_cases hlt:k<width
  ·have hd:=Db n k h0
   have hd2:=Da n k h0
   have hz:¬9223372036854775807<(aR (dG n k)).size+(aR [UInt8.ofNat (n / 2 ^ (8 * k) % 256).toNat]).size:=by simp[aj,aX];omega
   go_wp2
   go_roundw
   case rel=>exact⟨k+1,by omega,by go_num,by rw[bT,kf];rfl,by rw[zM],hB.alloc hB.size _⟩
   case measure=>simp[intOf];omega
  ·go_wp2
   go_ret
   obtain rfl:k=width:=by omega
   exact⟨rfl,hB⟩
theorem yL (n:Int) (width:Nat) (hw:width<=8) (h0:0<=n) (h1:n<18446744073709551616) (hn:af width=true->tz width<n) (w:EQ):Calls Tryz.prog 83 #[.int .i64 width,.int .u64 n] w fun e w'=>e=.returned (.string (aR []))/\Below w.heap.size w w':=by
 by_cases hwb:af width=true
 ·have hn':=hn hwb
  clear hn
  go_enter Tryz.func83,Tryz.ntmps83
  go_wp2_with (first|(go_at_call 121;refine(bK _ _).mono ?_;rintro e w' ⟨rfl,rfl⟩)|(go_at_call 122;refine(gG width hw _).mono ?_;rintro e w' ⟨rfl,rfl⟩))
  go_ret
  exact⟨rfl,Jy _ _⟩
 ·clear hn
  rw[Bool.not_eq_true] at hwb
  go_enter Tryz.func83,Tryz.ntmps83
  go_wp2_with (first|(go_at_call 121;refine(bK _ _).mono ?_;rintro e w' ⟨rfl,rfl⟩)|(go_at_call 122;refine(gG width hw _).mono ?_;rintro e w' ⟨rfl,rfl⟩))
  go_ret
  exact⟨rfl,Jy _ _⟩
theorem zB (n:Int) (k:Nat):0<=dx n k/\dx n k<256:=by unfold dx;omega
theorem sf (n:Int) (k:Nat):aH (dG n (k+1))=aH (dG n k)++[.int .u8 (dx n k)]:=by
 have:=zB n k
 rw[kf];simp[aH,UInt8.toNat_ofNat'];omega
theorem my (n:Int) (width:Nat) (hw:width<=8) (hf:bi n width false=true) (h0:0<=n) (h1:n<18446744073709551616) (w:EQ):Calls Tryz.prog 94 #[.slice none 0 0,.int .i64 width,.int .u64 n] w fun e w'=>∃v,e=.returned (.tuple #[v,.bool true])/\w'.ownsRow w.heap.size 5 1 v width (aH (dG n width))/\Below w.heap.size w w':=by
 obtain⟨i0,hi,hz0,hz1,hz2⟩:=info_parts nW
 go_enter Tryz.func94,Tryz.ntmps94
 go_wp2_with (first|(go_at_call 131;refine(mu _ _ _ h0 h1 _).mono ?_;rintro e w' ⟨rfl,rfl⟩))
 go_loopw [0,15] (fun v i wr=>∃k:Nat,k<=width/\i=.int .i64 k/\wr.ownsRow w.heap.size 5 1 v k (aH (dG n k))/\Below w.heap.size w wr) (fun _ i _=>width - (intOf i).toNat)
 case atStart=>exact⟨0,by omega,rfl,⟨rfl,.inl ⟨rfl,rfl⟩⟩,Jy _ _⟩
 case round=>
  obtain⟨k,hk,rfl,hown,hB⟩:=hrel
  by_cases hlt:k<width
  ·go_wp2_with (at_builtin;refine Y5 _ rfl _ _ 44 rfl w.heap.size 5 i0 (.int .u8 0) 1 1 Tryz.underlying44 hi hz0 hz1 hz2 rfl (by decide) _ _ _ rfl (hown.alloc _) ⟨wr.heap.size,0,none⟩ 1 1 [.int .u8 (n / 2 ^ (8 * k) % 256)] rfl rfl ?c1 ?c2 ?c3 ?c4 ?c5 ?_)
   case c1=>exact CI _ _ _
   case c2=>intro u hu;simp at hu;subst hu;rfl
   case c3=>simp only[maxLen];omega
   case c4=>omega
   case c5=>have:=hB.size;simp;omega
   intro v' w1 hown' hgrow _
   have hown':=(sf n k).symm▸hown'
   have hB1:=(hB.alloc hB.size (.cells #[.int .u8 (n / 2 ^ (8 * k) % 256)] 5)).grown hgrow (by have:=hB.size;simp;omega) (fun q hq=>aF hown q hq)
   clear hown hgrow
   go_wp2
   go_roundw
   case rel=>exact⟨k+1,by omega,by go_num,hown',hB1⟩
   case measure=>simp[intOf];omega
  ·go_wp2
   go_ret2
   obtain rfl:k=width:=by omega
   exact⟨_,rfl,hown,hB⟩
def fJ:EN->Nat
 |[]=>0
 |b :: r=>b.toNat+256 * fJ r
def eV (l:EN):Int:=(fJ l:Int)
theorem gX (a b:EN):fJ (a++b)=fJ a+2 ^ (8 * a.length) * fJ b:=by
 induction a with
 |nil=>simp[fJ]
 |cons x a ih=>
  simp only[List.cons_append,fJ,ih,Xq,Nat.mul_add (8:Nat),Nat.pow_add,Nat.mul_add 256]
  rw[Nat.mul_comm (2 ^ (8 * a.length)) (2 ^ (8 * 1)),Nat.mul_assoc,Nat.add_assoc]
theorem jV (l:EN):fJ l<2 ^ (8 * l.length):=by
 induction l with
 |nil=>simp[fJ]
 |cons b l ih=>
  have:=b.toNat_lt
  simp only[fJ,Xq,Nat.mul_add (8:Nat),Nat.pow_add]
  omega
theorem oF {k:Nat} (h:k<=8):2 ^ (8 * k)<=18446744073709551616:=Q7 (Nat.pow_le_pow_right (by decide) (show 8 * k<=64 by omega)) (by decide)
theorem wi (l:EN) (h:l.length<=8):0<=eV l/\eV l<18446744073709551616:=by
 have:=jV l;have:=oF h;unfold eV;omega
theorem yA (l:EN) (b:UInt8) (k:Nat) (hl:l.length=k) (hk:k<8):bits .or .u64 (eV l) (IntKind.u64.wrap (IntKind.u64.wrap (b.toNat:Int) * 2 ^ (8 * k)))=eV (l++[b]):=by
 have h1:=jV l
 have h2:=b.toNat_lt
 have h3:=oF (show k+1<=8 by omega)
 rw[hl] at h1
 rw[Nat.mul_add,Nat.pow_add] at h3
 have h4:b.toNat * 2 ^ (8 * k)<=255 * 2 ^ (8 * k):=Nat.mul_le_mul_right _ (by omega)
 have e:IntKind.u64.wrap (IntKind.u64.wrap (b.toNat:Int) * 2 ^ (8 * k))=((2 ^ (8 * k) * b.toNat:Nat):Int):=by
  rw[IntKind.wrap_u64 (b.toNat:Int),Int.emod_eq_of_lt (by omega) (by omega),IntKind.wrap_u64,Int.emod_eq_of_lt (by exact Int.mul_nonneg (by omega) (Int.pow_nonneg (by decide))) (by
   have:((b.toNat * 2 ^ (8 * k):Nat):Int)<18446744073709551616:=by omega
   simpa using this)]
  push_cast
  rw[Int.mul_comm]
 rw[e,eV,bits_or_u64_nat _ _ (by omega) (by rw[Nat.mul_comm];omega),Nat.or_comm,<-Nat.two_pow_add_eq_or_of_lt h1,eV,gX,hl]
 simp[fJ,Nat.add_comm]
def nY (at_ n width:Int):Bool:=decide (0<=at_/\at_<=n/\width<=n - at_)
theorem ke (pb pat pw:Nat) (A:EL) (n c:Nat) (at_ width:Int) (w:EQ) (h1:w.cell? ⟨pat,0,none⟩=some (.int .i64 at_)) (h2:w.cell? ⟨pb,0,none⟩=some (.slice A n c)) (h3:w.cell? ⟨pw,0,none⟩=some (.int .i64 width)) (hn:n<=9223372036854775807):
 Calls Tryz.prog 124 #[.pointer (some ⟨pat,0,none⟩),.pointer (some ⟨pb,0,none⟩),.pointer (some ⟨pw,0,none⟩)] w fun e w'=>e=.returned (.bool (nY at_ n width))/\w=w':=by
 go_enter Tryz.func124,Tryz.ntmps124
 go_wp2
 all_goals
  go_ret
  refine⟨al ?_,rfl⟩
  rw[Qy]
  simp[nY]
  try omega
theorem sK (A:EL) (n c:Nat) (at_:Int) (width:Int) (w:EQ) (hn:n<=9223372036854775807) (h:af width=false\/nY at_ n width=false):
 Calls Tryz.prog 86 #[.slice A n c,.int .i64 at_,.int .i64 width] w fun e w'=>e=.returned (.tuple #[.int .u64 0,.bool false])/\Below w.heap.size w w':=by
 have hmf:∀(fn:Fn) (first cap:Array ER) (w:EQ),(Instr.makeFunc fn first cap).run Tryz.prog w=.ok (.func fn first cap) w:=fun _ _ _ _=>rfl
 by_cases hb:af width=true
 ·have h':nY at_ n width=false:=h.resolve_left (by rw[hb];decide)
  clear h
  go_enter Tryz.func86,Tryz.ntmps86
  go_wp2_with (first|(go_at_call 125;refine(dl _ _).mono ?_;rintro e w' ⟨rfl,rfl⟩)|(go_at_call 124;refine(ke _ _ _ A n c at_ width _ (by simp[go_sem]) (by simp[go_sem]) (by simp[go_sem]) hn).mono ?_;rintro e w' ⟨rfl,rfl⟩))
  go_ret2
  exact⟨rfl,(((Jy _ _).alloc (J9 _) _).alloc (by simp) _).alloc (by simp;omega) _⟩
 ·clear h
  rw[Bool.not_eq_true] at hb
  go_enter Tryz.func86,Tryz.ntmps86
  go_wp2_with (first|(go_at_call 125;refine(dl _ _).mono ?_;rintro e w' ⟨rfl,rfl⟩))
  go_ret2
  exact⟨rfl,(((Jy _ _).alloc (J9 _) _).alloc (by simp) _).alloc (by simp;omega) _⟩
theorem mw (A:EL) (c:Nat) (l:EN) (at_:Nat) (width:Nat) (w:EQ) (hA:Rd w A (aH l)) (hw:width<=8) (hwb:af width=true) (h1:at_+width<=l.length) (hl:l.length<=9223372036854775807):
 Calls Tryz.prog 86 #[.slice A l.length c,.int .i64 at_,.int .i64 width] w fun e w'=>e=.returned (.tuple #[.int .u64 (eV ((l.drop at_).take width)),.bool true])/\Below w.heap.size w w':=by
 have hmf:∀(fn:Fn) (first cap:Array ER) (w:EQ),(Instr.makeFunc fn first cap).run Tryz.prog w=.ok (.func fn first cap) w:=fun _ _ _ _=>rfl
 have hin:nY at_ l.length width=true:=by simp[nY];omega
 go_enter Tryz.func86,Tryz.ntmps86
 go_wp2_with (first|(go_at_call 125;refine(dl _ _).mono ?_;rintro e w' ⟨rfl,rfl⟩)|(go_at_call 124;refine(ke _ _ _ A l.length c at_ width _ (by simp[go_sem]) (by simp[go_sem]) (by simp[go_sem]) hl).mono ?_;rintro e w' ⟨rfl,rfl⟩))
 obtain⟨W,hW⟩:∃W:EQ,W=((w.alloc (.cells #[.slice A l.length c] 44)).alloc (.cells #[.int .i64 at_] 3)).alloc (.cells #[.int .i64 width] 3):=⟨_,rfl⟩
 have hBW:Below w.heap.size w W:=hW▸(((Jy _ _).alloc (J9 _) _).alloc (by simp) _).alloc (by simp;omega) _
 have hg3:W.cell? ⟨w.heap.size,0,none⟩=some (.slice A l.length c):=by rw[hW];simp[go_sem]
 have hg4:W.cell? ⟨w.heap.size+1,0,none⟩=some (.int .i64 at_):=by rw[hW];simp[go_sem]
 have hAW:=hA.below hBW
 rw[<-hW]
 clear hA hW
 go_loop [9,21] (fun n i=>∃k:Nat,k<=width/\i=.int .i64 k/\n=.int .u64 (eV ((l.drop at_).take k))) (fun _ i=>width - (intOf i).toNat)
 case atStart=>exact⟨0,by omega,rfl,by simp[eV,fJ]⟩
 case round=>
  obtain⟨k,hk,rfl,rfl⟩:=hrel
  by_cases hlt:k<width
  ·obtain⟨ad,rfl,hc⟩:=hAW (by intro h;have:=congrArg List.length h;simp[aH] at this;subst this;simp at h1;omega)
   have hcell:=hc (at_+k) (.int .u8 ((l[at_+k]'(by omega)).toNat:Int)) (by simp[aH,J4 (show at_+k<l.length by omega)])
   clear hc
   have hts:(l.drop at_).take (k+1)=(l.drop at_).take k++[l[at_+k]'(by omega)]:=by
    rw[List.take_succ_eq_append_getElem (by simp;omega)];simp
   have hsn:=yA ((l.drop at_).take k) (l[at_+k]'(by omega)) k (by simp;omega) (by omega)
   have H:=J0 hsn
   have H2:=J0 hts
   clear hsn hts
   go_wp2
   go_round
   case rel=>exact⟨k+1,by omega,by go_num,by rw[H.out,H2.out]⟩
   case measure=>simp[intOf];omega
  ·go_wp2
   go_ret2
   obtain rfl:k=width:=by omega
   exact⟨rfl,hBW⟩
theorem qI (s:EP) (at_:Int) (width:Int) (w:EQ) (hn:s.size<=9223372036854775807) (h:af width=false\/nY at_ s.size width=false):
 Calls Tryz.prog 90 #[.string s,.int .i64 at_,.int .i64 width] w fun e w'=>e=.returned (.tuple #[.int .u64 0,.bool false])/\w=w':=by
 by_cases hb:af width=true
 ·have h':nY at_ s.size width=false:=h.resolve_left (by rw[hb];decide)
  have h2:0<=at_->at_<=s.size->s.size - at_<width:=by
   intro a b
   have:¬(0<=at_/\at_<=s.size/\width<=s.size - at_):=by simpa[nY] using h'
   omega
  clear h h'
  by_cases h3:0<=at_
  ·by_cases h4:at_<=s.size
   ·have h5:=h2 h3 h4
    clear h2
    go_enter Tryz.func90,Tryz.ntmps90
    go_wp2_with (first|(go_at_call 121;refine(bK _ _).mono ?_;rintro e w' ⟨rfl,rfl⟩))
    go_ret2
    exact⟨rfl,rfl⟩
   ·clear h2
    go_enter Tryz.func90,Tryz.ntmps90
    go_wp2_with (first|(go_at_call 121;refine(bK _ _).mono ?_;rintro e w' ⟨rfl,rfl⟩))
    go_ret2
    exact⟨rfl,rfl⟩
  ·clear h2
   go_enter Tryz.func90,Tryz.ntmps90
   go_wp2_with (first|(go_at_call 121;refine(bK _ _).mono ?_;rintro e w' ⟨rfl,rfl⟩))
   go_ret2
   exact⟨rfl,rfl⟩
 ·clear h
  rw[Bool.not_eq_true] at hb
  go_enter Tryz.func90,Tryz.ntmps90
  go_wp2_with (first|(go_at_call 121;refine(bK _ _).mono ?_;rintro e w' ⟨rfl,rfl⟩))
  go_ret2
  exact⟨rfl,rfl⟩
theorem qJ (s:EP) (at_:Nat) (width:Nat) (w:EQ) (hw:width<=8) (hwb:af width=true) (h1:at_+width<=s.size) (hl:s.size<=9223372036854775807):
 Calls Tryz.prog 90 #[.string s,.int .i64 at_,.int .i64 width] w fun e w'=>e=.returned (.tuple #[.int .u64 (eV (((bl s).drop at_).take width)),.bool true])/\w=w':=by
 have d1:decide (s.size<at_)=false:=by simp;omega
 have d2:decide ((at_:Int)<0)=false:=by simp
 have d3:decide ((s.size:Int) - at_<width)=false:=by simp;omega
 go_enter Tryz.func90,Tryz.ntmps90
 go_wp2_with (first|(go_at_call 121;refine(bK _ _).mono ?_;rintro e w' ⟨rfl,rfl⟩))
 go_loop [8,9] (fun n i=>∃k:Nat,k<=width/\i=.int .i64 ((k:Int) - 1)/\n=.int .u64 (eV ((((bl s).drop at_).take width).drop k))) (fun _ i=>(intOf i+1).toNat)
 case atStart=>exact⟨width,by omega,rfl,by rw[List.drop_of_length_le (by simp;omega)];rfl⟩
 case round=>
  obtain⟨k,hk,rfl,rfl⟩:=hrel
  by_cases hlt:0<k
  ·obtain⟨j,rfl⟩:∃j,k=j+1:=⟨k - 1,by omega⟩
   rw[show (((j+1:Nat):Int) - 1)=(j:Int) by omega]
   have hj:at_+j<s.size:=by omega
   obtain⟨y,hy⟩:∃y,y=eV ((((bl s).drop at_).take width).drop (j+1)):=⟨_,rfl⟩
   have hyl:=jV ((((bl s).drop at_).take width).drop (j+1))
   have hp:=oF (show((((bl s).drop at_).take width).drop (j+1)).length+1<=8 by simp;omega)
   have hdr:(((bl s).drop at_).take width).drop j=s[at_+j] :: (((bl s).drop at_).take width).drop (j+1):=by
    rw[List.drop_eq_getElem_cons (by simp[aZ];omega)]
    simp[bl];rfl
   have hval:eV ((((bl s).drop at_).take width).drop j)=y * 256+(s[at_+j].toNat:Int):=by
    rw[hdr,hy];simp[eV,fJ];omega
   have hyb:0<=y/\y * 256+256<=18446744073709551616:=by
    rw[Nat.mul_add,Nat.pow_add] at hp
    subst hy;unfold eV;omega
   obtain⟨hy0,hy1⟩:=hyb
   have hbt:=s[at_+j].toNat_lt
   rw[<-hy]
   have H:=J0 hval
   clear hval hdr hyl hp hy
   go_wp2
   go_round
   case rel=>exact⟨j,by omega,rfl,by rw[H.out]⟩
   case measure=>simp[intOf]
  ·go_wp2
   go_ret2
   obtain rfl:k=0:=by omega
   exact⟨rfl,rfl⟩
section
variable {P:Program} {ops:Array Oper} {Q:Exit->Act->EQ->Prop} {md:Region.Mode} {S:EQ->Prop}
def DJ (P:Program) (S:EQ->Prop) (m:Sem Next) (v:ER):Prop:=
 ∀w,S w->(∃w1,m.run P w=.ok (.value v) w1/\S w1)\/(∃f args w1,m.run P w=.ok (.enter f args) w1/\Calls P f args w1 fun e w'=>e=.returned v/\S w')
def YU (P:Program) (ops:Array Oper) (S:EQ->Prop) (o:Oper) (v:ER) (a:Act):Prop:=
 (Region.wanted o (yielded ops a.tmps)=true/\DJ P S (execOp a.eval o) v)\/(Region.wanted o (yielded ops a.tmps)=false/\v=undef)
theorem YU.of_same {o:Oper} {v:ER} {a a':Act} (hy:YU P ops S o v a) (he:execOp a'.eval o=execOp a.eval o)
 (hw:Region.wanted o (yielded ops a'.tmps)=Region.wanted o (yielded ops a.tmps)):YU P ops S o v a':=by
 unfold YU at *;rw[he,hw];exact hy
theorem YU.wpOp {i:Nat} {o:Oper} {v:ER} {a:Act} (hi:ops[i]?=some o) (hy:YU P ops S o v a)
 {K:Act->EQ->Prop} {w:EQ} (hS:S w) (h:∀w',S w'->K (a.put o.dst v) w'):wpOp P ops Q i K a w:=by
 unfold Go.wpOp
 simp only[hi]
 rcases hy with ⟨hw,hv⟩|⟨hw,rfl⟩
 ·simp only[hw,if_true,Oper.wp]
  refine .inl ?_
  rcases hv w hS with ⟨w1,e,h1⟩|⟨f,args,w1,e,h1⟩
  ·rw[e];exact h _ h1
  ·rw[e];exact h1.mono fun e w' ⟨he,hs⟩=>by subst he;exact h _ hs
 ·simp only[hw,Bool.false_eq_true,if_false];exact h _ hS
def oo (P:Program) (md:Region.Mode) (ops:Array Oper) (Q:Exit->Act->EQ->Prop) (S:EQ->Prop):Nat->Array Bool->Act->Prop
 |0,listed,a=>Region.ready md ops listed=[]/\∀w,S w->Q .normal a w
 |fuel+1,listed,a=>
  (Region.ready md ops listed=[]->∀w,S w->Q .normal a w)/\
  ∀i∈Region.ready md ops listed,∃o v,ops[i]?=some o/\YU P ops S o v a/\oo P md ops Q S fuel (listed.setIfInBounds i true) (a.put o.dst v)
theorem oq:∀(fuel:Nat) (listed:Array Bool) (a:Act) (w:EQ),S w->oo P md ops Q S fuel listed a->wpAny P md ops Q fuel listed a w
 |0,_,_,w,hS,h=>⟨h.1,h.2 w hS⟩
 |fuel+1,_,_,w,hS,h=>⟨fun hr=>h.1 hr w hS,fun i hi=>by
  obtain⟨o,v,ho,hy,hn⟩:=h.2 i hi
  exact hy.wpOp ho hS fun w' hS'=>oq fuel _ _ w' hS' hn⟩
theorem rh {i:Nat} {oi:Oper} {v:ER} (hi:ops[i]?=some oi) (hsel:∀(j:Nat) (o:Oper) cs b,ops[j]?=some o->o.op≠.select cs b):
 ∀(fuel:Nat) (listed:Array Bool) (a:Act),
  (∀j oj,ops[j]?=some oj->j≠i->listed.getD j true=false->(∀e∈oj.after,Region.binds md e=true->e.on≠i)->oi.apart ops oj=true)->
  i∈Region.ready md ops listed->YU P ops S oi v a->
  oo P md ops Q S fuel (listed.setIfInBounds i true) (a.put oi.dst v)->oo P md ops Q S (fuel+1) listed a:=by
 intro fuel
 induction fuel with
 |zero=>
  intro listed a _ hr hy H
  refine⟨fun h=>(by rw[h] at hr;cases hr),fun j hj=>?_⟩
  by_cases hji:j=i
  ·subst hji;exact⟨oi,v,hi,hy,H⟩
  ·have:=ready_mono hj hji
   rw[H.1] at this
   cases this
 |succ fuel ih=>
  intro listed a hfree hr hy H
  refine⟨fun h=>(by rw[h] at hr;cases hr),fun j hj=>?_⟩
  by_cases hji:j=i
  ·subst hji;exact⟨oi,v,hi,hy,H⟩
  ·obtain⟨oj,u,hoj,hyj,hn⟩:=H.2 j (ready_mono hj hji)
   obtain⟨hjun,oj',hoj',hall⟩:=mem_ready.1 hj
   obtain rfl:oj'=oj:=by rw[hoj] at hoj';exact(Jj hoj').symm
   have hnot:∀e∈oj'.after,Region.binds md e=true->e.on≠i:=fun e he hb heq=>by
    have h1:=hall e he hb
    have h0:=(mem_ready.1 hr).1
    rw[heq] at h1
    rcases Nat.lt_or_ge i listed.size with h'|h'
    ·simp[h'] at h0 h1;rw[h0] at h1;cases h1
    ·simp[Array.getElem?_eq_none h'] at h1
   have hap:=hfree j oj' hoj hji hjun hnot
   obtain⟨h1,h2,h3⟩:=Oper.apart_spec hap
   have hsj:=fun cs b=>hsel j oj' cs b hoj
   have hsi:=fun cs b=>hsel i oi cs b hi
   refine⟨oj',u,hoj,hyj.of_same (execOp_put oj' hsj a oi.dst v h1).symm (wanted_put oj' a oi.dst v h1).symm,?_⟩
   have hfree':∀k ok,ops[k]?=some ok->k≠i->(listed.setIfInBounds j true).getD k true=false->
    (∀e∈ok.after,Region.binds md e=true->e.on≠i)->oi.apart ops ok=true:=fun k ok hk hki hun hno=>by
    refine hfree k ok hk hki ?_ hno
    by_cases hjk:j=k
    ·subst hjk;exact hjun
    ·rw[getD_set_ne true hjk] at hun;exact hun
   refine ih (listed.setIfInBounds j true) (a.put oj'.dst u) hfree' (ready_mono hr (Ne.symm hji)) (hy.of_same (execOp_put oi hsi a oj'.dst u h3) (wanted_put oi a oj'.dst u h3)) ?_
   rw[Array.setIfInBounds_comm _ _ hji,<-Act.put_comm a v u h2]
   exact hn
def uQ (n i:Nat):Array Bool:=(List.replicate i true++List.replicate (n - i) false).toArray
def qp (md:Region.Mode) (ops:Array Oper):Bool:=
 Region.noSelect ops && (List.range ops.size).all fun i=>Region.free md ops (uQ ops.size i) i && (Region.ready md ops (uQ ops.size i)).contains i
def RW (P:Program) (ops:Array Oper) (Q:Exit->Act->EQ->Prop) (S:EQ->Prop) (rest:List Oper) (i:Nat) (a:Act):Prop:=
 ops.toList.drop i=rest->qp .any ops=true->oo P .any ops Q S (ops.size - i) (uQ ops.size i) a
theorem yf (n i:Nat) (h:i<n):(uQ n i).setIfInBounds i true=uQ n (i+1):=by
 apply Array.ext'
 simp only[uQ,Array.toList_setIfInBounds,List.toList_toArray]
 obtain⟨m,hm⟩:∃m,n - i=m+1:=⟨n - i - 1,by omega⟩
 rw[hm,show n - (i+1)=m by omega,List.replicate_succ,List.set_append_right _ _ (by simp)]
 simp[List.replicate_succ',X8]
theorem RW.take {o:Oper} {rest:List Oper} {v:ER} {i:Nat} {a:Act} (hy:YU P ops S o v a) (h:RW P ops Q S rest (i+1) (a.put o.dst v)):RW P ops Q S (o :: rest) i a:=by
 intro hd hc
 have hlt:i<ops.size:=by
  rcases Nat.lt_or_ge i ops.size with h|h
  ·exact h
  ·rw[List.drop_of_length_le (by simpa using h)] at hd;cases hd
 have hi:ops[i]?=some o:=by
  have:=congrArg List.head? hd
  simpa[List.head?_drop] using this
 have hr:ops.toList.drop (i+1)=rest:=by rw[<-List.tail_drop,hd];rfl
 have h1:=h hr hc
 simp only[qp,Qz,List.all_eq_true,List.mem_range] at hc
 obtain⟨hs,hall⟩:=hc
 obtain⟨hf,hrd⟩:=hall i hlt
 rw[show ops.size - i=(ops.size - (i+1))+1 by omega]
 refine rh hi (Region.noSelect_spec hs) _ _ a (Region.free_spec hi hf) (by simpa using hrd) hy ?_
 rw[yf _ _ hlt]
 exact h1
theorem RW.val {o:Oper} {rest:List Oper} {v:ER} {i:Nat} {a:Act} (hw:Region.wanted o (yielded ops a.tmps)=true) (hy:∀w,S w->(execOp a.eval o).run P w=.ok (.value v) w)
 (h:RW P ops Q S rest (i+1) (a.put o.dst v)):RW P ops Q S (o :: rest) i a:=RW.take (.inl ⟨hw,fun w hS=>.inl ⟨w,hy w hS,hS⟩⟩) h
theorem RW.off {o:Oper} {rest:List Oper} {i:Nat} {a:Act} (hw:Region.wanted o (yielded ops a.tmps)=false)
 (h:RW P ops Q S rest (i+1) (a.put o.dst undef)):RW P ops Q S (o :: rest) i a:=RW.take (.inr ⟨hw,rfl⟩) h
theorem RW.call {o:Oper} {rest:List Oper} {v:ER} {f:FuncId} {args:Array ER} {i:Nat} {a:Act} (hw:Region.wanted o (yielded ops a.tmps)=true) (he:∀w,S w->(execOp a.eval o).run P w=.ok (.enter f args) w)
 (hc:∀w,S w->Calls P f args w fun e w'=>e=.returned v/\S w') (h:RW P ops Q S rest (i+1) (a.put o.dst v)):RW P ops Q S (o :: rest) i a:=
 RW.take (.inl ⟨hw,fun w hS=>.inr ⟨f,args,w,he w hS,hc w hS⟩⟩) h
theorem RW.done {i:Nat} {a:Act} (h:∀w,S w->Q .normal a w):RW P ops Q S [] i a:=by
 intro hd _
 have hge:ops.size<=i:=by simpa using List.drop_eq_nil_iff.1 hd
 rw[show ops.size - i=0 by omega]
 refine⟨?_,h⟩
 unfold Region.ready
 rw[List.filter_eq_nil_iff]
 intro j hj
 have hj':j<ops.size:=by simpa using hj
 simp only[uQ]
 rw[show ops.size - i=0 by omega]
 simp[List.getElem?_replicate,show j<i by omega,Array.getElem?_eq_getElem hj']
theorem RW.start (S:EQ->Prop) {id:Nat} {l:List Oper} {a:Act} {w:EQ} (hm:P.follows .mixedOrders=true) (hc:qp .any l.toArray=true) (hS:S w.drew)
 (h:RW P l.toArray Q S l 0 a):(Code.region id l.toArray true).wp P Q a w:=by
 refine wp_region_any hm (oq _ _ _ _ hS ?_)
 have:=h (by simp) hc
 simpa[uQ] using this
end
def cG (w:EQ) (b:Nat) (s:EP) (k l:Int):Prop:=w.cell? ⟨b,0,none⟩=some (.string s)/\w.cell? ⟨b,1,none⟩=some (.int .i64 k)/\w.cell? ⟨b,2,none⟩=some (.int .i64 l)
def eJ (w:EQ) (b:Nat) (k x:Int) (t:EP):Prop:=w.cell? ⟨b,0,none⟩=some (.int .i64 k)/\w.cell? ⟨b,1,none⟩=some (.int .u64 x)/\w.cell? ⟨b,2,none⟩=some (.string t)
theorem cG.below {w w1:EQ} {b:Nat} {s:EP} {k l:Int} (h:cG w b s k l) (hb:Below w.heap.size w w1):cG w1 b s k l:=⟨aE (B:=0) hb h.1,aE (B:=0) hb h.2.1,aE (B:=0) hb h.2.2⟩
theorem eJ.below {w w1:EQ} {b:Nat} {k x:Int} {t:EP} (h:eJ w b k x t) (hb:Below w.heap.size w w1):eJ w1 b k x t:=⟨aE (B:=0) hb h.1,aE (B:=0) hb h.2.1,aE (B:=0) hb h.2.2⟩
theorem cG.new (w:EQ) (s:EP) (k l:Int):cG (w.alloc (.cells #[.string s,.int .i64 k,.int .i64 l] 68)) w.heap.size s k l:=⟨bD _ _ _ _ _ rfl,bD _ _ _ _ _ rfl,bD _ _ _ _ _ rfl⟩
theorem eJ.new (w:EQ) (k x:Int) (t:EP):eJ (w.alloc (.cells #[.int .i64 k,.int .u64 x,.string t] 71)) w.heap.size k x t:=⟨bD _ _ _ _ _ rfl,bD _ _ _ _ _ rfl,bD _ _ _ _ _ rfl⟩
theorem cG.alloc {w:EQ} {b:Nat} {s:EP} {k l:Int} (h:cG w b s k l) (o:Obj):cG (w.alloc o) b s k l:=h.below (aA o)
theorem eJ.alloc {w:EQ} {b:Nat} {k x:Int} {t:EP} (h:eJ w b k x t) (o:Obj):eJ (w.alloc o) b k x t:=h.below (aA o)
def bW (k l:Int):Bool:=if k=12 then eK 1 l 64 else decide (0<gH k) && decide (l=0)
def aT (k l:Int):Int:=if bW k l=true then(if k=12 then l else gH k) else 0
theorem lH (s:EP) (k l:Int) (w:EQ):Calls Tryz.prog 127 #[.agg #[.string s,.int .i64 k,.int .i64 l]] w fun e w'=>e=.returned (.bool (bW k l))/\Below w.heap.size w w':=by
 by_cases hk:k=12
 ·subst hk
  go_enter Tryz.func127,Tryz.ntmps127
  go_wp2
  all_goals
   go_ret
   exact⟨al (by rw[Qy];simp[bW,eK];try omega),aA _⟩
 ·go_enter Tryz.func127,Tryz.ntmps127
  go_wp2_with (go_at_call 128;refine(mz _ _).mono ?_;rintro e w' ⟨rfl,rfl⟩)
  all_goals
   go_ret
   exact⟨al (by rw[Qy];simp[bW,hk];try omega),aA _⟩
theorem fy (s:EP) (k l:Int) (w:EQ):Calls Tryz.prog 89 #[.agg #[.string s,.int .i64 k,.int .i64 l]] w fun e w'=>e=.returned (.int .i64 (aT k l))/\Below w.heap.size w w':=by
 by_cases hm:bW k l=true
 ·have hkk:k=12\/¬k=12:=by omega
  rcases hkk with rfl|hk
  all_goals
   go_enter Tryz.func89,Tryz.ntmps89
   go_wp2_with (first|(go_at_call 128;refine(mz _ _).mono ?_;rintro e w' ⟨rfl,rfl⟩)|(go_at_call 127;refine(lH _ _ _ _).mono ?_;rintro e w1 ⟨rfl,hb⟩;obtain⟨hc,hf⟩:=aS hb))
   go_ret
   exact⟨cf (by simp[aT, *]),aB (aA _) hb⟩
 ·rw[Bool.not_eq_true] at hm
  go_enter Tryz.func89,Tryz.ntmps89
  go_wp2_with (first|(go_at_call 127;refine(lH _ _ _ _).mono ?_;rintro e w1 ⟨rfl,hb⟩;obtain⟨hc,hf⟩:=aS hb))
  go_ret
  exact⟨cf (by simp[aT,hm]),aB (aA _) hb⟩
theorem AY (n width:Int) (s:Bool) (h0:0<=n) (h1:n<18446744073709551616) (r:Bool) (h:bi n width s=r) (w:EQ):Calls Tryz.prog 131 #[.int .u64 n,.int .i64 width,.bool s] w fun e w'=>e=.returned (.bool r)/\w=w':=h▸mu n width s h0 h1 w
def fQ (bits k l:Int):Bool:=if k=12 then decide (bits=0) else if k=9 then decide (bits<=1) else bi bits (aT k l) (eK 5 k 8) || decide (k=10) || decide (k=11)
theorem vD (pf pv:Nat) (s:EP) (k l bits:Int) (h0:0<=bits) (h1:bits<18446744073709551616) (w:EQ) (c0:w.cell? ⟨pf,0,none⟩=some (.string s)) (c1:w.cell? ⟨pf,1,none⟩=some (.int .i64 k)) (c2:w.cell? ⟨pf,2,none⟩=some (.int .i64 l))
 (d1:w.cell? ⟨pv,1,none⟩=some (.int .u64 bits)):
 Calls Tryz.prog 132 #[.pointer (some ⟨pf,0,none⟩),.pointer (some ⟨pv,0,none⟩)] w fun e w'=>e=.returned (.bool (fQ bits k l))/\Below w.heap.size w w':=by
 by_cases hk:k=12
 ·subst hk
  go_enter Tryz.func132,Tryz.ntmps132
  go_wp2
  go_ret
  exact⟨al (by rw[Qy];simp[fQ]),Jy _ _⟩
 ·by_cases hk9:k=9
  ·subst hk9
   go_enter Tryz.func132,Tryz.ntmps132
   go_wp2
   go_ret
   exact⟨al (by rw[Qy];simp[fQ]),Jy _ _⟩
  ·have hk12':(k == 12)=false:=by simpa using hk
   have hk9':(k == 9)=false:=by simpa using hk9
   have f0:=lB c0
   have f1:=lB d1
   obtain⟨r,hr⟩:∃r,bi bits (aT k l) (eK 5 k 8)=r:=⟨_,rfl⟩
   obtain⟨q,hq⟩:∃q,(k == 10)=q:=⟨_,rfl⟩
   have H:=J0 hr
   clear hr
   cases r <;> cases q
   all_goals
    go_enter Tryz.func132,Tryz.ntmps132
    go_wp2
    refine RW.start (fun w'=>Below w.heap.size w w'/\w'.cell? ⟨pf,0,none⟩=some (.string s)/\w'.cell? ⟨pf,1,none⟩=some (.int .i64 k)/\w'.cell? ⟨pf,2,none⟩=some (.int .i64 l)/\w'.cell? ⟨pv,1,none⟩=some (.int .u64 bits)) (by kernel_rfl) (by kernel_rfl) ⟨(Jy _ _).drew,c0,c1,c2,d1⟩ ?_
    clear c0 c1 c2 d1
    repeat (first
     |(refine' RW.val (by rfl) ?_ ?_;rotate_left;(focus (intro w' hS;obtain⟨hB,c0,c1,c2,d1⟩:=hS;go_simp;rfl));simp only[Act.put,J1,J3,J2])
     |(refine RW.off (by rfl) ?_;simp only[Act.put,J1,J3,J2])
     |(refine' RW.call (by rfl) ?_ ?_ ?_
       rotate_left 3
       (focus (intro w' hS;obtain⟨hB,c0,c1,c2,d1⟩:=hS;go_simp;exact⟨rfl,rfl⟩))
       (focus
         intro w' hS
         obtain⟨hB,c0,c1,c2,d1⟩:=hS
         first
          |(refine(fy _ _ _ _).mono ?_;rintro e w1 ⟨rfl,hb⟩;exact⟨rfl,⟨(aB hB hb),(aE (B:=0) hb c0),(aE (B:=0) hb c1),(aE (B:=0) hb c2),(aE (B:=0) hb d1)⟩⟩)
          |(refine(ft _ _).mono ?_;rintro e w1 ⟨rfl,rfl⟩;exact⟨rfl,hB,c0,c1,c2,d1⟩)
          |(refine(AY _ _ _ h0 h1 _ H.out _).mono ?_;rintro e w1 ⟨rfl,rfl⟩;exact⟨rfl,hB,c0,c1,c2,d1⟩))
       simp only[Act.put,J1,J3,J2]))
    refine RW.done (fun w' hS=>?_)
    obtain⟨hB,c0,c1,c2,d1⟩:=hS
    go_wp2
    go_ret
    refine⟨al ?_,hB⟩
    rw[fQ,Xy hk,Xy hk9,H.out,Qy]
    simp at hq
    simp[hq]
structure Fd where
 s:EP
 k:Int
 l:Int
def Fd.v (f:Fd):ER:=.agg #[.string f.s,.int .i64 f.k,.int .i64 f.l]
def aC (fs:List Fd):EO:=fs.flatMap fun f=>[.string f.s,.int .i64 f.k,.int .i64 f.l]
theorem eC (fs:List Fd):(aC fs).length=3 * fs.length:=by
 induction fs with
 |nil=>rfl
 |cons f r ih=>simp only[aC,List.flatMap_cons,Vq,Xq,List.length_nil] at *;omega
theorem dK (fs:List Fd) (i:Nat) (f:Fd) (h:fs[i]?=some f):(aC fs)[i * 3]?=some (.string f.s)/\(aC fs)[i * 3+1]?=some (.int .i64 f.k)/\(aC fs)[i * 3+2]?=some (.int .i64 f.l):=by
 induction fs generalizing i with
 |nil=>simp at h
 |cons g r ih=>
  cases i with
  |zero=>
   simp at h
   subst h
   exact⟨rfl,rfl,rfl⟩
  |succ i=>
   have:=ih i (by simpa using h)
   rw[aC,List.flatMap_cons]
   refine⟨?_,?_,?_⟩
   ·rw[show (i+1) * 3=i * 3+3 by omega,Qk (by simp)];simpa[aC] using this.1
   ·rw[show (i+1) * 3+1=i * 3+1+3 by omega,Qk (by simp)];simpa[aC] using this.2.1
   ·rw[show (i+1) * 3+2=i * 3+2+3 by omega,Qk (by simp)];simpa[aC] using this.2.2
def yZ (at_ n:Nat):Nat:=(at_+n - 1) / n * n
theorem uO (at_ n:Nat) (hn:0<n) (h:at_+n<=4611686018427387904) (w:EQ):Calls Tryz.prog 105 #[.int .i64 at_,.int .i64 n] w fun e w'=>e=.returned (.int .i64 (yZ at_ n))/\w=w':=by
 have hz:((n:Int) == 0)=false:=by simp;omega
 have hq:(at_+n - 1) / n * n<=at_+n - 1:=Nat.div_mul_le_self _ _
 have hd:(at_+n - 1) / n<=at_+n - 1:=Nat.div_le_self _ _
 go_enter Tryz.func105,Tryz.ntmps105
 go_wp2
 go_ret
 refine⟨cf ?_,rfl⟩
 have e:((at_:Int)+n - 1) / n * n=((yZ at_ n:Nat):Int):=by
  unfold yZ
  rw[Int.natCast_mul,Int.natCast_ediv,show((at_+n - 1:Nat):Int)=at_+n - 1 by omega]
 have hb:yZ at_ n<=at_+n - 1:=hq
 show wrap64 _=_
 rw[e]
 generalize yZ at_ n=u at *
 clear e hd hz
 first|(unfold wrap64;omega)|(simp[wrap64];omega)
def aW:List Fd->EP->Int
 |[],_=>-1
 |f :: r,nm=>if f.s=nm then 0 else if aW r nm<0 then -1 else aW r nm+1
theorem eE (fs:List Fd) (nm:EP):-1<=aW fs nm/\aW fs nm<fs.length:=by
 induction fs with
 |nil=>simp[aW]
 |cons f r ih=>simp only[aW,Xq];split <;> (try split) <;> omega
theorem tK (fs:List Fd) (nm:EP) (k:Nat) (f:Fd) (hk:fs[k]?=some f) (h:f.s=nm) (hb:∀(j:Nat) (g:Fd),j<k->fs[j]?=some g->g.s≠nm):aW fs nm=k:=by
 induction fs generalizing k with
 |nil=>simp at hk
 |cons g r ih=>
  cases k with
  |zero=>
   simp at hk
   subst hk
   simp[aW,h]
  |succ k=>
   have h0:=hb 0 g (by omega) rfl
   have:=ih k (by simpa using hk) (fun j g' hj hg=>hb (j+1) g' (by omega) (by simpa using hg))
   rw[aW,Xy h0,this,Xy (by omega)];omega
theorem nV (fs:List Fd) (nm:EP) (hb:∀(j:Nat) (g:Fd),fs[j]?=some g->g.s≠nm):aW fs nm=-1:=by
 induction fs with
 |nil=>rfl
 |cons g r ih=>
  have h0:=hb 0 g rfl
  rw[aW,Xy h0,ih (fun j g' hg=>hb (j+1) g' (by simpa using hg)),Xz (by omega)]
theorem Rd.at {w:EQ} {A:EL} {cs:EO} (h:Rd w A cs) {j:Nat} {u:ER} (hj:cs[j]?=some u):∃ad,A=some ad/\w.cell? (ad.add j)=some u:=by
 obtain⟨ad,e,hc⟩:=h (by intro hn;subst hn;simp at hj)
 exact⟨ad,e,hc j u hj⟩
theorem tt (A:EL) (c:Nat) (fs:List Fd) (nm:EP) (w:EQ) (hA:Rd w A (aC fs)) (hl:fs.length<=9223372036854775807):
 Calls Tryz.prog 114 #[.slice A fs.length c,.string nm] w fun e w'=>e=.returned (.int .i64 (aW fs nm))/\w=w':=by
 obtain⟨r,hr⟩:∃r,aW fs nm=r:=⟨_,rfl⟩
 rw[hr]
 go_enter Tryz.func114,Tryz.ntmps114
 go_wp2
 go_loop [5] (fun i=>∃k:Nat,k<=fs.length/\i=.int .i64 k/\∀(j:Nat) (g:Fd),j<k->fs[j]?=some g->g.s≠nm) (fun i=>fs.length - (intOf i).toNat)
 case atStart=>exact⟨0,by omega,rfl,fun j g h=>by omega⟩
 case round=>
  obtain⟨k,hk,rfl,hb⟩:=hrel
  by_cases hlt:k<fs.length
  ·obtain⟨f,hf⟩:∃f,fs[k]?=some f:=⟨_,J4 hlt⟩
   obtain⟨ad,rfl,hcell⟩:=hA.at (dK fs k f hf).1
   have hz:=tK fs nm k f hf
   by_cases he:f.s=nm
   ·obtain rfl:(k:Int)=r:=(hz he hb).symm.trans hr
    subst he
    have ht:(f.s.toList == f.s.toList)=true:=by simp
    clear hb hz hr
    go_wp2
    go_ret
    exact⟨rfl,rfl⟩
   ·have ht:(f.s.toList == nm.toList)=false:=by
     simp only[ByteArray.toList_eq,beq_eq_false_iff_ne,ne_eq]
     intro h
     apply he
     have:f.s.data=nm.data:=Array.toList_inj.1 h
     cases hfs:f.s;cases nm;simp_all
    have hb':∀(j:Nat) (g:Fd),j<k+1->fs[j]?=some g->g.s≠nm:=fun j g hj hg=>by
     rcases(by omega:j<k\/j=k) with h|rfl
     ·exact hb j g h hg
     ·rw[hf] at hg;cases hg;exact he
    clear hb hz hr
    go_wp2
    go_round
    case rel=>exact⟨k+1,by omega,by go_num,hb'⟩
    case measure=>simp[intOf];omega
  ·obtain rfl:k=fs.length:=by omega
   have:aW fs nm=-1:=nV fs nm fun j g hg=>hb j g (by have:=J6.1 hg;exact this.1) hg
   obtain rfl:-1=r:=this.symm.trans hr
   clear hb
   go_wp2
   go_ret
   exact⟨rfl,rfl⟩
theorem ba (a:Addr) (m n:Nat):a.add (m+(n+1))=⟨(a.add m).block,(a.add m).off+(n+1),none⟩:=by
 rw[<-Addr.add_add,Addr.add_succ']
theorem fU (a b:EP):(a.toList == b.toList)=decide (a=b):=by
 rw[Qy]
 simp only[ByteArray.toList_eq,beq_iff_eq,Y8]
 constructor
 ·intro h
  have:a.data=b.data:=Array.toList_inj.1 h
  cases a;cases b;simp_all
 ·intro h;rw[h]
theorem ll (b:Nat) (s:EP) (k l:Int) (nm:EP) (w:EQ) (hc:w.cell? ⟨b,0,none⟩=some (.string nm)):
 Calls Tryz.prog 134 #[.agg #[.string s,.int .i64 k,.int .i64 l],.pointer (some ⟨b,0,none⟩)] w fun e w'=>e=.returned (.bool (s.toList == nm.toList))/\Below w.heap.size w w':=by
 have hb:b<w.heap.size:=lB hc
 go_enter Tryz.func134,Tryz.ntmps134
 go_wp2
 go_ret
 exact⟨rfl,aA _⟩
theorem mT (A:EL) (c:Nat) (fs:List Fd) (b:Nat) (nm:EP) (w:EQ) (hA:Rd w A (aC fs)) (hl:fs.length<=9223372036854775807) (hc:w.cell? ⟨b,0,none⟩=some (.string nm)):
 Calls Tryz.prog 133 #[.slice A fs.length c,.func (.func 134) #[] #[.pointer (some ⟨b,0,none⟩)]] w fun e w'=>e=.returned (.int .i64 (aW fs nm))/\Below w.heap.size w w':=by
 obtain⟨r,hr⟩:∃r,aW fs nm=r:=⟨_,rfl⟩
 rw[hr]
 go_enter Tryz.func133,Tryz.ntmps133
 go_wp2
 go_loopw [5,8] (fun x i wr=>∃k:Nat,k<=fs.length/\i=.int .i64 k/\Below w.heap.size w wr/\∀(j:Nat) (g:Fd),j<k->fs[j]?=some g->g.s≠nm) (fun _ i _=>fs.length - (intOf i).toNat)
 case atStart=>exact⟨0,by omega,rfl,Jy _ _,fun j g h=>by omega⟩
 case round=>
  obtain⟨k,hk,rfl,HB,hb⟩:=hrel
  have hAr:=hA.below HB
  have hcr:=aE (B:=0) HB hc
  by_cases hlt:k<fs.length
  ·obtain⟨f,hf⟩:∃f,fs[k]?=some f:=⟨_,J4 hlt⟩
   obtain⟨g0,g1,g2⟩:=dK fs k f hf
   obtain⟨ad,rfl,hcell⟩:=hAr.at g0
   obtain⟨_,e1,hcell1⟩:=hAr.at g1
   obtain⟨_,e2,hcell2⟩:=hAr.at g2
   cases e1;cases e2
   rw[ba _ _ 0] at hcell1
   rw[ba _ _ 1] at hcell2
   have hz:=tK fs nm k f hf
   by_cases he:f.s=nm
   ·obtain rfl:(k:Int)=r:=(hz he hb).symm.trans hr
    clear hb hz hr
    go_wp2_with (go_at_call 134;refine(ll b _ _ _ nm _ hcr).mono ?_;rintro e w1 ⟨rfl,hb1⟩;rw[fU,Yx rfl])
    go_ret
    exact⟨rfl,aB HB hb1⟩
   ·have hb':∀(j:Nat) (g:Fd),j<k+1->fs[j]?=some g->g.s≠nm:=fun j g hj hg=>by
     rcases(by omega:j<k\/j=k) with h|rfl
     ·exact hb j g h hg
     ·rw[hf] at hg;cases hg;exact he
    have ht:(f.s.toList == nm.toList)=false:=by rw[fU];exact Y9 he
    clear hb hz hr
    go_wp2_with (go_at_call 134;refine(ll b _ _ _ nm _ hcr).mono ?_;rintro e w1 ⟨rfl,hb1⟩;rw[ht])
    go_roundw
    case rel=>exact⟨k+1,by omega,by go_num,aB HB hb1,hb'⟩
    case measure=>simp[intOf];omega
  ·obtain rfl:k=fs.length:=by omega
   have:aW fs nm=-1:=nV fs nm fun j g hg=>hb j g (by have:=J6.1 hg;exact this.1) hg
   obtain rfl:-1=r:=this.symm.trans hr
   clear hb
   go_wp2
   go_ret
   exact⟨rfl,HB⟩
theorem ue (A:EL) (c:Nat) (fs:List Fd) (nm:EP) (w:EQ) (hA:Rd w A (aC fs)) (hl:fs.length<=9223372036854775807):
 Calls Tryz.prog 96 #[.slice A fs.length c,.string nm] w fun e w'=>e=.returned (.int .i64 (aW fs nm))/\Below w.heap.size w w':=by
 have hmf:∀(fn:Fn) (first cap:Array ER) (w:EQ),(Instr.makeFunc fn first cap).run Tryz.prog w=.ok (.func fn first cap) w:=fun _ _ _ _=>rfl
 have HB:Below w.heap.size w (w.alloc (.cells #[.string nm] 9)):=aA _
 go_enter Tryz.func96,Tryz.ntmps96
 go_wp2_with (go_at_call 133;refine(mT A c fs w.heap.size nm _ (hA.below HB) hl (bD _ _ _ _ _ rfl)).mono ?_;rintro e w1 ⟨rfl,hb⟩)
 go_ret
 exact⟨rfl,aB HB hb⟩
def dF (i b:Nat):Bool:=decide (97<=b/\b<=122) || (decide (i≠0) && decide ((48<=b/\b<=57)\/b=95))
def bI (s:EP):Bool:=decide (∀i,∀h:i<s.size,dF i (s[i]'h).toNat=true) && decide (1<=s.size/\s.size<=15)
theorem pr {s:EP} {i:Nat} (h:i<s.size) (hb:dF i (s[i]'h).toNat=false):bI s=false:=by
 rw[bI,Y9,Bool.false_and]
 intro ha
 have:=ha i h
 rw[hb] at this;cases this
theorem Cs (s:EP) (pos:Nat) (h:pos<s.size):((s[pos]'h).toNat<128/\Utf8.decode s pos=((s[pos]'h).toNat,1))\/(128<=(s[pos]'h).toNat/\128<=(Utf8.decode s pos).1/\1<=(Utf8.decode s pos).2):=by
 by_cases ha:(s[pos]'h).toNat<128
 ·exact .inl ⟨ha,decode_ascii s pos h ha⟩
 ·exact .inr ⟨by omega,decode_high s pos h (by omega)⟩
theorem yR (s:EP) (pos:Nat) (h:pos<s.size):∃y wd,Utf8.decode s pos=(y,wd)/\dF pos (s[pos]'h).toNat=dF pos y/\1<=wd/\(dF pos y=true->wd=1):=by
 rcases Cs s pos h with ⟨ha,hd⟩|⟨ha,hd1,hd2⟩
 ·exact⟨_,_,hd,rfl,J9 _,fun _=>rfl⟩
 ·have big:∀z,128<=z->dF pos z=false:=fun z hz=>by
   unfold dF
   rw[Y9 (by omega),Bool.false_or,Y9 (p:=(48<=z/\z<=57)\/z=95) (by omega),Bool.and_false]
  generalize Utf8.decode s pos=p at hd1 hd2 |-
  obtain⟨y,wd⟩:=p
  exact⟨y,wd,rfl,(big _ ha).trans (big y hd1).symm,hd2,fun h=>by rw[big y hd1] at h;cases h⟩
theorem yU (y pos:Nat):
 (dF pos y=true/\decide (97<=(y:Int))=true/\decide ((y:Int)<=122)=true)
 \/(dF pos y=false/\decide (97<=(y:Int))=false/\((pos:Int) == 0)=true)
 \/(dF pos y=false/\decide (97<=(y:Int))=true/\decide ((y:Int)<=122)=false/\((pos:Int) == 0)=true)
 \/(dF pos y=true/\decide (97<=(y:Int))=false/\((pos:Int) == 0)=false/\decide ((y:Int)<48)=false/\decide (57<(y:Int))=false)
 \/(dF pos y=false/\decide (97<=(y:Int))=false/\((pos:Int) == 0)=false/\decide ((y:Int)<48)=true/\((y:Int) != 95)=true)
 \/(dF pos y=false/\decide (97<=(y:Int))=false/\((pos:Int) == 0)=false/\decide ((y:Int)<48)=false/\decide (57<(y:Int))=true/\((y:Int) != 95)=true)
 \/(dF pos y=true/\decide (97<=(y:Int))=false/\((pos:Int) == 0)=false/\decide ((y:Int)<48)=false/\decide (57<(y:Int))=true/\((y:Int) != 95)=false)
 \/(dF pos y=false/\decide (97<=(y:Int))=true/\decide ((y:Int)<=122)=false/\((pos:Int) == 0)=false/\decide ((y:Int)<48)=false/\decide (57<(y:Int))=true/\((y:Int) != 95)=true):=by
 have e1:decide (97<=(y:Int))=decide (97<=y):=by rw[Qy];simp;omega
 have e2:decide ((y:Int)<=122)=decide (y<=122):=by rw[Qy];simp;omega
 have e3:((pos:Int) == 0)=decide (pos=0):=by rw[Qy];simp
 have e4:decide ((y:Int)<48)=decide (y<48):=by rw[Qy];simp;omega
 have e5:decide (57<(y:Int))=decide (57<y):=by rw[Qy];simp;omega
 have e6:((y:Int) != 95)=!decide (y=95):=by rw[Qy];simp;omega
 have e0:dF pos y=((decide (97<=y) && decide (y<=122)) || (!decide (pos=0) && ((!decide (y<48) && !decide (57<y)) || decide (y=95)))):=by
  rw[Qy];simp[dF]
 rw[e0,e1,e2,e3,e4,e5,e6]
 have i1:decide (97<=y)=false->decide (y<=122)=true:=by simp;omega
 have i2:decide (97<=y)=true->decide (y<48)=false/\decide (57<y)=true/\decide (y=95)=false:=by simp;omega
 have i3:decide (y<48)=true->decide (57<y)=false/\decide (y=95)=false:=by simp;omega
 have i4:decide (57<y)=false->decide (y=95)=false:=by simp;omega
 generalize decide (97<=y)=A at *
 generalize decide (y<=122)=B at *
 generalize decide (pos=0)=C at *
 generalize decide (y<48)=D at *
 generalize decide (57<y)=E at *
 generalize decide (y=95)=F at *
 clear e0 e1 e2 e3 e4 e5 e6
 revert i1 i2 i3 i4
 cases A <;> cases B <;> cases C <;> cases D <;> cases E <;> cases F <;> decide
theorem ug (s:EP) (w:EQ):Calls Tryz.prog 50 #[.string s] w fun e w'=>e=.returned (.bool (bI s))/\Below w.heap.size w w':=by
 obtain⟨r,hr⟩:∃r,bI s=r:=⟨_,rfl⟩
 rw[hr]
 go_enter Tryz.func50,Tryz.ntmps50
 go_wp2
 go_loopw [3,4,5] (fun _ _ _ w'=>∃pos:Nat,w'=w.iter s pos/\pos<=s.size/\∀i,∀h:i<s.size,i<pos->dF i (s[i]'h).toNat=true) (fun _ _ _ w'=>s.size - w'.iterPos w.heap.size)
 case atStart=>exact⟨0,rfl,by omega,fun i h h0=>by omega⟩
 case round=>
  obtain⟨pos,rfl,hle,hall⟩:=hrel
  by_cases hp:pos<s.size
  ·have hnx:∀ty,(Instr.next (.pointer (some ⟨w.heap.size,0,none⟩)) true ty).run Tryz.prog (w.iter s pos)=_:=fun ty=>run_next_any w s pos ty hp
   obtain⟨y,wd,hd,hsy,hwd,hw1⟩:=yR s pos hp
   rw[hd] at hnx
   have hbad:=fun h=>(hr.symm.trans (pr hp (hsy.trans h)):r=false)
   have hok:dF pos y=true->∀i,∀h:i<s.size,i<pos+wd->dF i (s[i]'h).toNat=true:=fun h i hi hlt=>by
    have:=hw1 h
    rcases(by omega:i<pos\/i=pos) with h2|rfl
    ·exact hall i hi h2
    ·exact hsy.trans h
   have hle2:dF pos y=true->pos+wd<=s.size:=fun h=>by have:=hw1 h;omega
   clear hall hr hsy hd hw1
   rcases yU y pos with ⟨hs,h1,h2⟩|⟨hs,h1,h2⟩|⟨hs,h1,h2,h3⟩|⟨hs,h1,h2,h3,h4⟩|⟨hs,h1,h2,h3,h4⟩|⟨hs,h1,h2,h3,h4,h5⟩|⟨hs,h1,h2,h3,h4,h5⟩|⟨hs,h1,h2,h3,h4,h5,h6⟩
   ·have hok:=hok hs
    have hle2:=hle2 hs
    clear hbad hs
    go_wp2
    go_roundw
    case rel=>exact⟨pos+wd,rfl,hle2,hok⟩
    case measure=>simp;omega
   ·obtain rfl:=hbad hs
    clear hok hle2 hs hbad
    go_wp2
    go_ret
    exact⟨rfl,aA _⟩
   ·obtain rfl:=hbad hs
    clear hok hle2 hs hbad
    go_wp2
    go_ret
    exact⟨rfl,aA _⟩
   ·have hok:=hok hs
    have hle2:=hle2 hs
    clear hbad hs
    go_wp2
    go_roundw
    case rel=>exact⟨pos+wd,rfl,hle2,hok⟩
    case measure=>simp;omega
   ·obtain rfl:=hbad hs
    clear hok hle2 hs hbad
    go_wp2
    go_ret
    exact⟨rfl,aA _⟩
   ·obtain rfl:=hbad hs
    clear hok hle2 hs hbad
    go_wp2
    go_ret
    exact⟨rfl,aA _⟩
   ·have hok:=hok hs
    have hle2:=hle2 hs
    clear hbad hs
    go_wp2
    go_roundw
    case rel=>exact⟨pos+wd,rfl,hle2,hok⟩
    case measure=>simp;omega
   ·obtain rfl:=hbad hs
    clear hok hle2 hs hbad
    go_wp2
    go_ret
    exact⟨rfl,aA _⟩
  ·have hnx:∀ty,(Instr.next (.pointer (some ⟨w.heap.size,0,none⟩)) true ty).run Tryz.prog (w.iter s pos)=_:=fun ty=>run_next_end w s pos ty hp
   obtain rfl:pos=s.size:=by omega
   have hn:bI s=decide (1<=s.size/\s.size<=15):=by rw[bI,Yx (fun i h=>hall i h h),Bool.true_and]
   rw[hr] at hn
   clear hall hr
   go_wp2
   all_goals
    go_ret
    refine⟨al ?_,aA _⟩
    subst hn
    rw[Qy]
    simp at *
    omega
def mQ:EN:=[97,98,99,100,101,102,103,104,105,106,107,108,109,110,111,112,113,114,115,116,117,118,119,120,121,122,48,49,50,51,52,53,54,55,56,57,95]
def zA (c:UInt8):Nat->Int
 |0=>-1
 |k+1=>if mQ.getD k 0=c then k else zA c k
theorem AJ:∀n:Fin 256,∀b:Bool,(decide (zA (UInt8.ofNat n.val) 37<0) || (b && decide (25<zA (UInt8.ofNat n.val) 37)))=!dF (if b then 0 else 1) n.val:=by decide +kernel
theorem Cv (c:UInt8) (i:Nat):(decide (zA c 37<0) || (decide (i=0) && decide (25<zA c 37)))=!dF i c.toNat:=by
 have h:=AJ ⟨c.toNat,c.toNat_lt⟩ (decide (i=0))
 simp only[UInt8.ofNat_toNat] at h
 rw[h]
 by_cases hi:i=0
 ·subst hi;rfl
 ·simp[dF,hi]
theorem yT (k:Nat) (h:k<(⟨mQ.toArray⟩:EP).size):(⟨mQ.toArray⟩:EP)[k]'h=mQ.getD k 0:=by
 have h':k<mQ.length:=h
 rw[Yy,J4 h']
 rfl
theorem eS (s:EP) (hs:s.size<=9223372036854775807) (w:EQ):Calls Tryz.prog 57 #[.string s] w fun e w'=>e=.returned (.bool (bI s))/\Below w.heap.size w w':=by
 obtain⟨r,hr⟩:∃r,bI s=r:=⟨_,rfl⟩
 rw[hr]
 have HR:=J0 hr
 clear hr
 go_enter Tryz.func57,Tryz.ntmps57
 go_wp2
 generalize hsg:(⟨#[97,98,99,100,101,102,103,104,105,106,107,108,109,110,111,112,113,114,115,116,117,118,119,120,121,122,48,49,50,51,52,53,54,55,56,57,95]⟩:EP)=sg
 have hz:sg.size=37:=by subst hsg;rfl
 have HG:Hid (∀k,∀h:k<sg.size,sg[k]'h=mQ.getD k 0):=J0 (by subst hsg;exact fun k h=>yT k h)
 clear hsg
 go_loopw [4,5,6] (fun i _ _ wr=>∃k:Nat,k<=s.size/\i=.int .i64 k/\Below w.heap.size w wr/\Hid (∀j,∀h:j<s.size,j<k->dF j (s[j]'h).toNat=true)) (fun i _ _ _=>s.size - (intOf i).toNat)
 case atStart=>exact⟨0,by omega,rfl,Jy _ _,J0 fun j h h0=>by omega⟩
 case round=>
  obtain⟨k,hk,rfl,HB,hall⟩:=hrel
  by_cases hlt:k<s.size
  ·have hsign:=Cv (s[k]'hlt) k
   obtain⟨c,hc⟩:∃c,s[k]'hlt=c:=⟨_,rfl⟩
   rw[hc] at hsign
   have HC:=J0 hc
   clear hc
   have HS:=J0 hsign
   clear hsign
   go_wp2
   obtain⟨wo,rfl⟩:∃wo:EQ,wo=wr:=⟨_,rfl⟩
   go_loopw [5,6] (fun q j wr=>∃m:Nat,m<=37/\j=.int .i64 m/\q=.int .i64 (zA c m)/\Below w.heap.size w wr) (fun _ j _=>37 - (intOf j).toNat)
   case atStart=>exact⟨0,by omega,rfl,rfl,HB⟩
   case round=>
    obtain⟨m,hm,rfl,rfl,HB2⟩:=hrel
    by_cases hlm:m<37
    ·have hmz:m<sg.size:=by omega
     go_wp2
     refine RW.start (fun w'=>Below w.heap.size w w') (by kernel_rfl) (by kernel_rfl) HB2.drew ?_
     clear HB2
     repeat (first
      |(refine' RW.val (by rfl) ?_ ?_;rotate_left;(focus (intro w' hS;have HB2:=hS;clear hS;go_simp;rfl));simp only[Act.put,J1,J3,J2])
      |(refine RW.off (by rfl) ?_;simp only[Act.put,J1,J3,J2]))
     refine RW.done (fun w' hS=>?_)
     have HB2:=hS;clear hS
     have hgm:sg[m]'hmz=mQ.getD m 0:=HG.out m hmz
     by_cases he:mQ.getD m 0=c
     ·have ht:(((sg[m]'hmz).toNat:Int) == ((s[k]'hlt).toNat:Int))=true:=by rw[hgm,HC.out,he];simp
      clear hgm
      go_wp2
      go_roundw
      case rel=>exact⟨m+1,by omega,by go_num,by rw[zA,Xz he],HB2⟩
      case measure=>simp[intOf];omega
     ·have ht:(((sg[m]'hmz).toNat:Int) == ((s[k]'hlt).toNat:Int))=false:=by
       rw[hgm,HC.out,beq_eq_false_iff_ne]
       intro h
       apply he
       have:=Int.ofNat.inj h
       exact UInt8.toNat_inj.1 this
      clear hgm
      go_wp2
      go_roundw
      case rel=>exact⟨m+1,by omega,by go_num,by rw[zA,Xy he],HB2⟩
      case measure=>simp[intOf];omega
    ·obtain rfl:m=37:=by omega
     have hall2:dF k c.toNat=true->Hid (∀j,∀h:j<s.size,j<k+1->dF j (s[j]'h).toNat=true):=fun h=>J0 fun j hj hjk=>by
      rcases(by omega:j<k\/j=k) with h2|rfl
      ·exact hall.out j hj h2
      ·rw[HC.out];exact h
     have hbad:dF k c.toNat=false->r=false:=fun h=>HR.out.symm.trans (pr hlt (by rw[HC.out];exact h))
     obtain⟨A,hA⟩:∃A,decide (zA c 37<0)=A:=⟨_,rfl⟩
     obtain⟨D,hD⟩:∃D,decide (25<zA c 37)=D:=⟨_,rfl⟩
     obtain⟨C,hC⟩:∃C,((k:Int) == 0)=C:=⟨_,rfl⟩
     have hC2:decide (k=0)=C:=by rw[<-hC,Qy];simp
     have hs2:=HS.out
     rw[hA,hD,hC2] at hs2
     clear hC2
     obtain⟨q,hq⟩:∃q,zA c 37=q:=⟨_,rfl⟩
     rw[hq] at hA hD |-
     clear HC HG hall HS hq
     have hsv:dF k c.toNat=!(A || (C && D)):=by rw[hs2,Bool.not_not]
     clear hs2
     cases A <;> cases C <;> cases D <;> simp only[Bool.false_or,Bool.true_or,Bool.false_and,Bool.true_and,Bool.and_false,Bool.or_false,Bool.and_true,Bool.not_true,Bool.not_false] at hsv
     all_goals first
      |(have hall3:=hall2 hsv
        clear hall2 hbad hsv
        go_wp2
        go_roundw
        case rel=>exact⟨k+1,by omega,by go_num,HB2,hall3⟩
        case measure=>simp[intOf];omega)
      |(obtain rfl:=hbad hsv
        clear hall2 hbad hsv HR
        go_wp2
        go_ret
        exact⟨rfl,HB2⟩)
  ·obtain rfl:k=s.size:=by omega
   have hn:bI s=decide (1<=s.size/\s.size<=15):=by rw[bI,Yx (fun i h=>hall.out i h h),Bool.true_and]
   rw[HR.out] at hn
   have HN:=J0 hn
   clear hn hall HG
   go_wp2
   all_goals
    go_ret
    refine⟨al ?_,HB⟩
    have hn:=HN.out
    clear HN
    subst hn
    rw[Qy]
    simp only[Y8,Bool.false_eq_true]
    (first|(constructor <;> intro h <;> omega)|(exact⟨fun h=>h.elim,fun h=>by omega⟩))
def aM (vk bits:Int) (tx:EP) (k l:Int):Bool:=bW k l && decide (vk=k) && decide ((tx.size:Int)=if k=12 then l else 0) && fQ bits k l
theorem zq (s:EP) (k l:Int) (r:Bool) (h:bW k l=r) (w:EQ):Calls Tryz.prog 127 #[.agg #[.string s,.int .i64 k,.int .i64 l]] w fun e w'=>e=.returned (.bool r)/\Below w.heap.size w w':=h▸lH s k l w
theorem sR (vk bits:Int) (tx s:EP) (k l:Int) (h0:0<=bits) (h1:bits<18446744073709551616) (w:EQ):
 Calls Tryz.prog 95 #[.agg #[.int .i64 vk,.int .u64 bits,.string tx],.agg #[.string s,.int .i64 k,.int .i64 l]] w fun e w'=>e=.returned (.bool (aM vk bits tx k l))/\Below w.heap.size w w':=by
 have hmf:∀(fn:Fn) (first cap:Array ER) (w:EQ),(Instr.makeFunc fn first cap).run Tryz.prog w=.ok (.func fn first cap) w:=fun _ _ _ _=>rfl
 obtain⟨r,hr⟩:∃r,bW k l=r:=⟨_,rfl⟩
 have H:=J0 hr
 clear hr
 cases r
 ·go_enter Tryz.func95,Tryz.ntmps95
  go_wp2_with (first|(go_at_call 127;refine(zq _ _ _ _ H.out _).mono ?_;rintro e w1 ⟨rfl,hb⟩;obtain⟨hc,hf⟩:=aS hb))
  all_goals
   go_ret
   refine⟨al (by simp[aM,H.out]),?_⟩
   exact aB ((aA _).alloc (by simp) _) hb
 ·go_enter Tryz.func95,Tryz.ntmps95
  go_wp2_with (first|(go_at_call 127;refine(zq _ _ _ _ H.out _).mono ?_;rintro e w1 ⟨rfl,hb⟩;obtain⟨hc,hf⟩:=aS hb)|(go_at_call 132;refine(vD _ _ s k l bits h0 h1 _ (by rw[hc _ _ (by simp)];simp[go_sem]) (by rw[hc _ _ (by simp)];simp[go_sem]) (by rw[hc _ _ (by simp)];simp[go_sem]) (by rw[hc _ _ (by simp;omega)];simp[go_sem])).mono ?_;rintro e w2 ⟨rfl,hb2⟩))
  all_goals
   go_ret
   refine⟨al (by rw[aM,H.out];simp only[beq_iff_eq,beq_eq_false_iff_ne,ne_eq] at *;first|(simp[*];done)|grind),?_⟩
   first|exact aB (aB ((aA _).alloc (by simp) _) hb) hb2|exact aB ((aA _).alloc (by simp) _) hb
theorem av (vk bits:Int) (tx s:EP) (k l:Int) (h0:0<=bits) (h1:bits<18446744073709551616) (r:Bool) (h:aM vk bits tx k l=r) (w:EQ):
 Calls Tryz.prog 95 #[.agg #[.int .i64 vk,.int .u64 bits,.string tx],.agg #[.string s,.int .i64 k,.int .i64 l]] w fun e w'=>e=.returned (.bool r)/\Below w.heap.size w w':=h▸sR vk bits tx s k l h0 h1 w
theorem eX (s:EP) (k l:Int) (r:Int) (h:aT k l=r) (w:EQ):Calls Tryz.prog 89 #[.agg #[.string s,.int .i64 k,.int .i64 l]] w fun e w'=>e=.returned (.int .i64 r)/\Below w.heap.size w w':=h▸fy s k l w
def aU (k l k2 l2:Int):Bool:=
 if aT k l=0\/aT k2 l2=0 then false
 else if k=k2 then true
 else if k=9 then eK 1 k2 4 || (eK 5 k2 8 && decide (aT k l<aT k2 l2))
 else if eK 1 k 4=true then(eK 1 k2 8 && decide (aT k l<aT k2 l2)) || decide (k2=10)
 else if eK 5 k 8=true then(eK 5 k2 8 && decide (aT k l<aT k2 l2)) || decide (k2=10)
 else decide (k=10) && decide (k2=8)
theorem ru (s s2:EP) (k l k2 l2:Int) (w:EQ):Calls Tryz.prog 108 #[.agg #[.string s,.int .i64 k,.int .i64 l],.agg #[.string s2,.int .i64 k2,.int .i64 l2]] w fun e w'=>e=.returned (.bool (aU k l k2 l2))/\Below w.heap.size w w':=by
 go_enter Tryz.func108,Tryz.ntmps108
 go_wp2_with (first|(go_at_call 109;refine(jI _ _).mono ?_;rintro e w' ⟨rfl,rfl⟩)|(go_at_call 111;refine(ft _ _).mono ?_;rintro e w' ⟨rfl,rfl⟩)|(go_at_call 89;refine(fy _ _ _ _).mono ?_;rintro e w1 ⟨rfl,hb⟩;obtain⟨hc,hf⟩:=aS hb))
 obtain⟨W,hW⟩:∃W:EQ,W=(w.alloc (.cells #[.string s,.int .i64 k,.int .i64 l] 68)).alloc (.cells #[.string s2,.int .i64 k2,.int .i64 l2] 68):=⟨_,rfl⟩
 have hBW:Below w.heap.size w W:=hW▸(aA _).alloc (by simp) _
 have b1:cG W w.heap.size s k l:=hW▸(cG.new w s k l).alloc _
 have b2:cG W (w.heap.size+1) s2 k2 l2:=hW▸(by simpa using cG.new (w.alloc (.cells #[.string s,.int .i64 k,.int .i64 l] 68)) s2 k2 l2)
 rw[<-hW]
 clear hW
 refine RW.start (fun w'=>Below w.heap.size w w'/\cG w' w.heap.size s k l/\cG w' (w.heap.size+1) s2 k2 l2) (by kernel_rfl) (by kernel_rfl) ⟨hBW.drew,b1,b2⟩ ?_
 clear b1 b2 hBW
 repeat (first
  |(refine' RW.val (by rfl) ?_ ?_;rotate_left;(focus (intro w' hS;obtain⟨hB,⟨c0,c1,c2⟩,⟨d0,d1,d2⟩⟩:=hS;go_simp;rfl));simp only[Act.put,J1,J3,J2])
  |(refine RW.off (by rfl) ?_;simp only[Act.put,J1,J3,J2])
  |(refine' RW.call (by rfl) ?_ ?_ ?_
    rotate_left 3
    (focus (intro w' hS;obtain⟨hB,⟨c0,c1,c2⟩,⟨d0,d1,d2⟩⟩:=hS;go_simp;exact⟨rfl,rfl⟩))
    (focus
      intro w' hS
      obtain⟨hB,⟨c0,c1,c2⟩,⟨d0,d1,d2⟩⟩:=hS
      first
       |(refine(fy _ _ _ _).mono ?_;rintro e w1 ⟨rfl,hb⟩;exact⟨rfl,⟨(aB hB hb),⟨(aE (B:=0) hb c0),(aE (B:=0) hb c1),(aE (B:=0) hb c2)⟩,⟨(aE (B:=0) hb d0),(aE (B:=0) hb d1),(aE (B:=0) hb d2)⟩⟩⟩))
    simp only[Act.put,J1,J3,J2]))
 refine RW.done (fun w' hS=>?_)
 obtain⟨hB,⟨c0,c1,c2⟩,⟨d0,d1,d2⟩⟩:=hS
 go_wp2_with fail
 refine RW.start (fun w'=>Below w.heap.size w w'/\cG w' w.heap.size s k l/\cG w' (w.heap.size+1) s2 k2 l2) (by kernel_rfl) (by kernel_rfl) ⟨hB.drew,⟨c0,c1,c2⟩,⟨d0,d1,d2⟩⟩ ?_
 clear c0 c1 c2 d0 d1 d2 hB w'
 repeat (first
  |(refine' RW.val (by rfl) ?_ ?_;rotate_left;(focus (intro w' hS;obtain⟨hB,⟨c0,c1,c2⟩,⟨d0,d1,d2⟩⟩:=hS;go_simp;rfl));simp only[Act.put,J1,J3,J2])
  |(refine RW.off (by rfl) ?_;simp only[Act.put,J1,J3,J2]))
 refine RW.done (fun w' hS=>?_)
 obtain⟨hB,⟨c0,c1,c2⟩,⟨d0,d1,d2⟩⟩:=hS
 clear c0 c1 c2 d0 d1 d2
 go_wp2_with (first|(go_at_call 109;refine(jI _ _).mono ?_;rintro e w' ⟨rfl,rfl⟩)|(go_at_call 111;refine(ft _ _).mono ?_;rintro e w' ⟨rfl,rfl⟩))
 all_goals
  go_ret
  refine⟨al ?_,hB⟩
  clear hB
  try simp only[beq_iff_eq,beq_eq_false_iff_ne,ne_eq] at *
  rw[Qy]
  try simp only[aU,eK,Y8,decide_eq_false_iff_not] at *
  grind
theorem eI {l:Int}:bW 12 l=eK 1 l 64:=by simp[bW]
theorem fm {k l:Int} (h:bW k l=true) (hk:¬k=12):l=0/\0<gH k:=by
 simp[bW,hk] at h;omega
def ga (k l:Int):EP:=if k=12 then aR (List.replicate l.toNat 0) else⟨#[]⟩
def qN (k l:Int):ER:=if bW k l=true then .agg #[.int .i64 k,.int .u64 0,.string (ga k l)] else .agg #[.int .i64 0,.int .u64 0,.string ⟨#[]⟩]
def cR (bits:Int) (tx:EP) (k l:Int):EN:=if k=12 then bl tx else dG bits (aT k l).toNat
theorem lj (vk bits:Int) (tx s:EP) (k l:Int) (h0:0<=bits) (h1:bits<18446744073709551616) (h:aM vk bits tx k l=false) (w:EQ):
 Calls Tryz.prog 61 #[.agg #[.int .i64 vk,.int .u64 bits,.string tx],.agg #[.string s,.int .i64 k,.int .i64 l]] w fun e w'=>e=.returned (.tuple #[.slice none 0 0,.int .i64 50])/\Below w.heap.size w w':=by
 have H:=J0 h
 clear h
 go_enter Tryz.func61,Tryz.ntmps61
 go_wp2_with (first|(go_at_call 95;refine(av _ _ _ _ _ _ h0 h1 _ H.out _).mono ?_;rintro e w1 ⟨rfl,hb⟩))
 go_ret2
 exact⟨rfl,aB ((aA _).alloc (by simp) _) hb⟩
theorem cH {k l:Int} (h:bW k l=true) (hk:¬k=12):aT k l=1\/aT k l=2\/aT k l=4\/aT k l=8:=by
 have h2:=(fm h hk).2
 rw[aT,Xz h,Xy hk]
 unfold gH at h2 |-
 split <;> (try split) <;> (try split) <;> (try split) <;> simp_all
theorem iQ {l:Int} (h:bW 12 l=true):aT 12 l=l:=by simp[aT,h]
theorem bg {vk bits:Int} {tx:EP} {k l:Int} (h:aM vk bits tx k l=true):bW k l=true/\vk=k/\((tx.size:Int)=if k=12 then l else 0)/\fQ bits k l=true:=by
 simp only[aM,Qz,Y8] at h
 exact⟨h.1.1.1,h.1.1.2,h.1.2,h.2⟩
theorem sH (vk bits:Int) (tx s:EP) (k l:Int) (h0:0<=bits) (h1:bits<18446744073709551616) (h:aM vk bits tx k l=true) (w:EQ):
 Calls Tryz.prog 61 #[.agg #[.int .i64 vk,.int .u64 bits,.string tx],.agg #[.string s,.int .i64 k,.int .i64 l]] w fun e w'=>∃v,e=.returned (.tuple #[v,.int .i64 0])/\sN w' v (cR bits tx k l)/\Below w.heap.size w w':=by
 have H:=J0 h
 have hm:=(bg h).1
 clear h
 by_cases hk:k=12
 ·subst hk
  have hcb:=jv tx
  clear hm
  go_enter Tryz.func61,Tryz.ntmps61
  go_wp2_with (first|(go_at_call 95;refine(av _ _ _ _ _ _ h0 h1 _ H.out _).mono ?_;rintro e w1 ⟨rfl,hb⟩;obtain⟨hc,hf⟩:=aS hb))
  go_ret2
  refine⟨.slice (some ⟨w1.heap.size,0,none⟩) tx.size (grownCap w1 tx.size 0 5),rfl,⟨_,_,by rw[cR,Xz rfl,aZ],?_,?_⟩,?_⟩
  ·rw[cR,Xz rfl,aZ];exact grownCap_ge ..
  ·rw[cR,Xz rfl];exact gc _ _ _
  ·exact aB (aB ((aA _).alloc (by simp) _) hb) (fG _ _ _)
 ·have hlc:=cH hm hk
  have hk':(k == 12)=false:=by simpa using hk
  obtain⟨n,hn⟩:∃n:Nat,aT k l=n:=⟨(aT k l).toNat,by omega⟩
  have hn8:n<=8:=by omega
  have HN:=J0 hn
  clear hn hlc hm
  go_enter Tryz.func61,Tryz.ntmps61
  go_wp2_with (first
   |(go_at_call 95;refine(av _ _ _ _ _ _ h0 h1 _ H.out _).mono ?_;rintro e w1 ⟨rfl,hb⟩;obtain⟨hc,hf⟩:=aS hb;obtain⟨z0,z1⟩:w.heap.size<w1.heap.size/\w.heap.size+1<w1.heap.size:=by (have:=hb.size;simp at this;omega))
   |(go_at_call 94;refine(my bits 8 (by omega) (by simp[bi,af,fA];omega) h0 h1 _).mono ?_;rintro e w2 ⟨v,rfl,hown,hb2⟩;obtain⟨A,c,rfl,hlen,_,hrd⟩:=aL hown;obtain⟨hc2,hf2⟩:=aS hb2;clear hown)
   |(go_at_call 89;refine(eX _ _ _ _ HN.out _).mono ?_;rintro e w3 ⟨rfl,hb3⟩))
  go_ret2
  have hlt:(dG bits 8).take n=dG bits n:=by
   apply Xk
   intro j
   simp only[dG,X7,Kv,List.getElem?_range']
   by_cases h:j<n
   ·simp[h,show j<8 by omega]
   ·simp[h,Xv (show(List.range n).length<=j by simp;omega)]
  have hel:cR bits tx k l=dG bits n:=by rw[cR,Xy hk,HN.out];rfl
  have hrd3:=(hrd.below hb3).take n
  rw[aH,<-List.map_take,hlt] at hrd3
  refine⟨.slice A n c,rfl,⟨A,c,by rw[hel,aX],by rw[hel,aX];omega,by rw[hel];exact hrd3⟩,?_⟩
  exact aB (aB (aB ((aA _).alloc (by simp) _) hb) hb2) hb3
theorem ma (n width:Int) (h0:0<=n) (h1:n<18446744073709551616) (r:Int) (h:cP n width=r) (w:EQ):Calls Tryz.prog 126 #[.int .u64 n,.int .i64 width] w fun e w'=>e=.returned (.int .u64 r)/\w=w':=h▸jq n width h0 h1 w
theorem dP (k:Int) (r:Bool) (h:eK 5 k 8=r) (w:EQ):Calls Tryz.prog 111 #[.int .i64 k] w fun e w'=>e=.returned (.bool r)/\w=w':=h▸ft k w
theorem gN (s:EP) (k l:Int) (r:Int) (h:aT k l=r) (w:EQ):Calls Tryz.prog 89 #[.agg #[.string s,.int .i64 k,.int .i64 l]] w fun e w'=>e=.returned (.int .i64 r)/\Below w.heap.size w w':=h▸fy s k l w
def jL (l:EN) (k long:Int):Int:=if k=12 then 0 else if (l.length:Int)=aT k long/\af l.length=true then eV l else 0
def gA (l:EN) (k long:Int):Int:=if eK 5 k 8=true then cP (jL l k long) l.length else jL l k long
def eZ (l:EN) (k:Int):EP:=if k=12 then aR l else⟨#[]⟩
def fZ (l:EN) (k long:Int):Bool:=decide ((l.length:Int)=aT k long) && aM k (gA l k long) (eZ l k) k long
def jy (l:EN) (k long:Int):ER:=if fZ l k long=true then .agg #[.int .i64 k,.int .u64 (gA l k long),.string (eZ l k)] else .agg #[.int .i64 0,.int .u64 0,.string ⟨#[]⟩]
def dq (l:EN) (k long:Int):Int:=if fZ l k long=true then 0 else 50
theorem ja {n:Nat} (h:af n=true):n<=8:=by have:=cC h;omega
theorem Cq (l:EN) (k long:Int):0<=jL l k long/\jL l k long<18446744073709551616:=by
 unfold jL
 split
 ·omega
 ·split
  ·rename_i h;exact wi l (ja h.2)
  ·omega
theorem uL (n width:Int) (h0:0<=n) (h1:n<18446744073709551616):0<=cP n width/\cP n width<18446744073709551616:=by
 unfold cP
 split
 ·rename_i h
  have ht:fA width=256\/fA width=65536\/fA width=4294967296\/fA width=18446744073709551616:=by unfold fA;split <;> (try split) <;> (try split) <;> simp
  rcases ht with h|h|h|h <;> rw[h] <;> split <;> omega
 ·omega
theorem kU (l:EN) (k long:Int):0<=gA l k long/\gA l k long<18446744073709551616:=by
 unfold gA
 have:=Cq l k long
 split
 ·exact uL _ _ this.1 this.2
 ·exact this
theorem kT {l:EN} {k long:Int} (h:fZ l k long=true):jy l k long=.agg #[.int .i64 k,.int .u64 (gA l k long),.string (eZ l k)]/\dq l k long=0:=by simp[jy,dq,h]
theorem iK {l:EN} {k long:Int} (h:fZ l k long=false):jy l k long=.agg #[.int .i64 0,.int .u64 0,.string ⟨#[]⟩]/\dq l k long=50:=by simp[jy,dq,h]
theorem xI (A:EL) (c:Nat) (l:EN) (s:EP) (long:Int) (w:EQ) (hA:Rd w A (aH l)) (hl:l.length<=9223372036854775807):
 Calls Tryz.prog 88 #[.slice A l.length c,.agg #[.string s,.int .i64 12,.int .i64 long]] w fun e w'=>e=.returned (.tuple #[jy l 12 long,.int .i64 (dq l 12 long)])/\Below w.heap.size w w':=by
 obtain⟨r,hr⟩:∃r,aM 12 0 (aR l) 12 long=r:=⟨_,rfl⟩
 have H:=J0 hr
 have hz:gA l 12 long=0:=by simp[gA,jL,eK]
 have ht:eZ l 12=aR l:=by simp[eZ]
 have hd:fZ l 12 long=(decide ((l.length:Int)=aT 12 long) && r):=by rw[fZ,hz,ht,hr]
 clear hr
 have hb0:Below w.heap.size w ((w.alloc (.cells #[.string s,.int .i64 12,.int .i64 long] 68)).alloc (.cells #[.int .i64 0,.int .u64 0,.string ⟨#[]⟩] 71)):=(aA _).alloc (by simp) _
 have hcv:=fun o=>nP ((hA.below hb0).below (aA o)) c
 clear hA
 by_cases hlen:(l.length:Int)=aT 12 long
 ·have H2:=J0 hlen
  cases r
  ·obtain⟨hv,he⟩:=iK (hd.trans (by simp))
   rw[hv,he]
   clear hd hz ht hv he hlen
   go_enter Tryz.func88,Tryz.ntmps88
   go_wp2_with (first
    |(go_at_call 111;refine(dP 12 false rfl _).mono ?_;rintro e w' ⟨rfl,rfl⟩)
    |(go_at_call 89;refine(gN _ _ _ _ H2.out.symm _).mono ?_;rintro e w1 ⟨rfl,hb⟩;obtain⟨hc,hf⟩:=aS hb;obtain⟨z0,z1,z2⟩:=lV w hb (by (try simp) <;> omega))
    |(go_at_call 95;refine(av _ _ _ _ _ _ (by omega) (by omega) _ H.out _).mono ?_;rintro e w2 ⟨rfl,hb2⟩;obtain⟨hc2,hf2⟩:=aS hb2;obtain⟨y0,y1,y2⟩:=lV w hb2 (by (try simp) <;> omega)))
   refine Xx (v:=.tuple #[.agg #[.int .i64 0,.int .u64 0,.string ⟨#[]⟩],.int .i64 50]) (by simp[results,Tryz.results88,go_sem, *]) rfl ⟨rfl,?_⟩
   have hB1:=aB (hb0.alloc (by simp;omega) (.cells #[.int .i64 12,.int .u64 0,.string (aR l)] 71)) (aB hb hb2)
   repeat (first|exact hB1|refine J8 ?_ (by dsimp only;omega) _|refine Jk ?_ (by simp;omega) _)
  ·obtain⟨hv,he⟩:=kT (hd.trans (by simpa using hlen))
   rw[hv,he,hz,ht]
   clear hd hz ht hv he hlen
   go_enter Tryz.func88,Tryz.ntmps88
   go_wp2_with (first
    |(go_at_call 111;refine(dP 12 false rfl _).mono ?_;rintro e w' ⟨rfl,rfl⟩)
    |(go_at_call 89;refine(gN _ _ _ _ H2.out.symm _).mono ?_;rintro e w1 ⟨rfl,hb⟩;obtain⟨hc,hf⟩:=aS hb;obtain⟨z0,z1,z2⟩:=lV w hb (by (try simp) <;> omega))
    |(go_at_call 95;refine(av _ _ _ _ _ _ (by omega) (by omega) _ H.out _).mono ?_;rintro e w2 ⟨rfl,hb2⟩;obtain⟨hc2,hf2⟩:=aS hb2;obtain⟨y0,y1,y2⟩:=lV w hb2 (by (try simp) <;> omega)))
   refine Xx (v:=.tuple #[.agg #[.int .i64 12,.int .u64 0,.string (aR l)],.int .i64 0]) (by simp[results,Tryz.results88,go_sem, *]) rfl ⟨rfl,?_⟩
   have hB1:=aB (hb0.alloc (by simp;omega) (.cells #[.int .i64 12,.int .u64 0,.string (aR l)] 71)) (aB hb hb2)
   repeat (first|exact hB1|refine J8 ?_ (by dsimp only;omega) _|refine Jk ?_ (by simp;omega) _)
 ·have hne:((l.length:Int) != aT 12 long)=true:=by simpa using hlen
  obtain⟨hv,he⟩:=iK (hd.trans (by simp[hlen]))
  rw[hv,he]
  obtain⟨lz,hlz⟩:∃z,aT 12 long=z:=⟨_,rfl⟩
  rw[hlz] at hne
  have H2:=J0 hlz
  clear hd hz ht hv he hlen hlz
  go_enter Tryz.func88,Tryz.ntmps88
  go_wp2_with (first
   |(go_at_call 111;refine(dP 12 false rfl _).mono ?_;rintro e w' ⟨rfl,rfl⟩)
   |(go_at_call 89;refine(gN _ _ _ _ H2.out _).mono ?_;rintro e w1 ⟨rfl,hb⟩;obtain⟨hc,hf⟩:=aS hb;obtain⟨z0,z1,z2⟩:=lV w hb (by (try simp) <;> omega)))
  refine Xx (v:=.tuple #[.agg #[.int .i64 0,.int .u64 0,.string ⟨#[]⟩],.int .i64 50]) (by simp[results,Tryz.results88,go_sem, *]) rfl ⟨rfl,?_⟩
  have hB1:=aB (hb0.alloc (by simp;omega) (.cells #[.int .i64 12,.int .u64 0,.string (aR l)] 71)) hb
  repeat (first|exact hB1|refine J8 ?_ (by dsimp only;omega) _|refine Jk ?_ (by simp;omega) _)
def fe (l:EN):Int:=if af l.length=true then eV l else 0
theorem mc (l:EN):0<=fe l/\fe l<18446744073709551616:=by
 unfold fe;split
 ·rename_i h;exact wi l (ja h)
 ·omega
theorem mZ (A:EL) (c:Nat) (l:EN) (w:EQ) (hA:Rd w A (aH l)) (hl:l.length<=9223372036854775807):
 Calls Tryz.prog 86 #[.slice A l.length c,.int .i64 0,.int .i64 (l.length:Int)] w fun e w'=>e=.returned (.tuple #[.int .u64 (fe l),.bool (af l.length)])/\Below w.heap.size w w':=by
 by_cases h:af l.length=true
 ·have:=mw A c l 0 l.length w hA (ja h) h (by omega) hl
  simpa[fe,h] using this
 ·rw[Bool.not_eq_true] at h
  have:=sK A l.length c 0 l.length w hl (.inl h)
  simpa[fe,h] using this
theorem xJ (A:EL) (c:Nat) (l:EN) (s:EP) (k long:Int) (hk:¬k=12) (hlen:(l.length:Int)=aT k long) (w:EQ) (hA:Rd w A (aH l)) (hl:l.length<=9223372036854775807):
 Calls Tryz.prog 88 #[.slice A l.length c,.agg #[.string s,.int .i64 k,.int .i64 long]] w fun e w'=>e=.returned (.tuple #[jy l k long,.int .i64 (dq l k long)])/\Below w.heap.size w w':=by
 have hk':(k == 12)=false:=by simpa using hk
 have hraw:jL l k long=fe l:=by rw[jL,Xy hk,fe];simp[hlen]
 have ht:eZ l k=⟨#[]⟩:=by simp[eZ,hk]
 have hb0:Below w.heap.size w ((w.alloc (.cells #[.string s,.int .i64 k,.int .i64 long] 68)).alloc (.cells #[.int .i64 0,.int .u64 0,.string ⟨#[]⟩] 71)):=(aA _).alloc (by simp) _
 have hA0:=fun o=>((hA.below hb0).below (aA o))
 obtain⟨g0,g1⟩:=mc l
 obtain⟨d0,d1⟩:=kU l k long
 obtain⟨r,hr⟩:∃r,aM k (gA l k long) ⟨#[]⟩ k long=r:=⟨_,rfl⟩
 have hd:fZ l k long=r:=by rw[fZ,ht,hr];simp[hlen]
 obtain⟨sg,hsg⟩:∃b,eK 5 k 8=b:=⟨_,rfl⟩
 obtain⟨z,hz⟩:∃z,gA l k long=z:=⟨_,rfl⟩
 rw[hz] at hr d0 d1
 have hzs:if sg=true then cP (fe l) l.length=z else fe l=z:=by rw[<-hz,gA,hraw,hsg];split <;> simp_all
 obtain⟨gz,hgz⟩:∃g,fe l=g:=⟨_,rfl⟩
 rw[hgz] at hzs g0 g1
 have HG:=J0 hgz
 have H2:=J0 hlen
 have H:=J0 hr
 have HS:=J0 hsg
 have hzs':(sg=true->cP gz l.length=z)/\(sg=false->gz=z):=by cases sg <;> simp_all
 obtain⟨hz1,hz2⟩:=hzs'
 clear hgz hraw hlen hr hsg hzs hA
 have HB:=hb0
 clear hb0
 have hB2:Below w.heap.size w w:=Jy _ _
 cases sg
 ·obtain rfl:=hz2 rfl
  have HZ:Hid (cP gz l.length=cP gz l.length):=J0 rfl
  clear hz1 hz2
  cases r
  ·obtain⟨hv,he⟩:=iK hd
   rw[hv,he]
   clear hv he hd hz ht
   go_enter Tryz.func88,Tryz.ntmps88
   go_wp2_with (first
    |(go_at_call 111;refine(dP _ _ HS.out _).mono ?_;rintro e w' ⟨rfl,rfl⟩)
    |(go_at_call 126;refine(ma _ _ g0 g1 _ HZ.out _).mono ?_;rintro e w' ⟨rfl,rfl⟩)
    |(go_at_call 86;refine(mZ A c l _ ((hA0 _).below hb) hl).mono ?_;rw[HG.out];rintro e w3 ⟨rfl,hb3⟩;have hb:=hb3;obtain⟨hc,hf⟩:=aS hb;obtain⟨x0,x1,x2⟩:=lV w hb (by (try simp) <;> omega);replace HB:Below w.heap.size w _:=aB (by repeat (first|exact HB|refine J8 ?_ (by dsimp only;omega) _|refine Jk ?_ (by have:=HB.size;(try simp) <;> omega) _|apply Jv)) hb)
    |(go_at_call 89;refine(gN _ _ _ _ H2.out.symm _).mono ?_;rintro e w1 ⟨rfl,hb⟩;obtain⟨hc,hf⟩:=aS hb;obtain⟨z0,z1,z2⟩:=lV w hb (by (try simp) <;> omega);replace HB:Below w.heap.size w _:=aB (by repeat (first|exact HB|refine J8 ?_ (by dsimp only;omega) _|refine Jk ?_ (by have:=HB.size;(try simp) <;> omega) _|apply Jv)) hb)
    |(go_at_call 95;refine(av _ _ _ _ _ _ d0 d1 _ H.out _).mono ?_;rintro e w2 ⟨rfl,hb⟩;obtain⟨hc,hf⟩:=aS hb;obtain⟨z0,z1,z2⟩:=lV w hb (by (try simp) <;> omega);replace HB:Below w.heap.size w _:=aB (by repeat (first|exact HB|refine J8 ?_ (by dsimp only;omega) _|refine Jk ?_ (by have:=HB.size;(try simp) <;> omega) _|apply Jv)) hb))
   refine Xx (v:=.tuple #[.agg #[.int .i64 0,.int .u64 0,.string ⟨#[]⟩],.int .i64 50]) (by simp[results,Tryz.results88,go_sem, *]) rfl ⟨rfl,?_⟩
   (repeat (first|exact HB|refine J8 ?_ (by dsimp only;omega) _|refine Jk ?_ (by have:=HB.size;(try simp) <;> omega) _|apply Jv))
  ·obtain⟨hv,he⟩:=kT hd
   rw[hv,he,hz,ht]
   clear hv he hd hz ht
   go_enter Tryz.func88,Tryz.ntmps88
   go_wp2_with (first
    |(go_at_call 111;refine(dP _ _ HS.out _).mono ?_;rintro e w' ⟨rfl,rfl⟩)
    |(go_at_call 126;refine(ma _ _ g0 g1 _ HZ.out _).mono ?_;rintro e w' ⟨rfl,rfl⟩)
    |(go_at_call 86;refine(mZ A c l _ ((hA0 _).below hb) hl).mono ?_;rw[HG.out];rintro e w3 ⟨rfl,hb3⟩;have hb:=hb3;obtain⟨hc,hf⟩:=aS hb;obtain⟨x0,x1,x2⟩:=lV w hb (by (try simp) <;> omega);replace HB:Below w.heap.size w _:=aB (by repeat (first|exact HB|refine J8 ?_ (by dsimp only;omega) _|refine Jk ?_ (by have:=HB.size;(try simp) <;> omega) _|apply Jv)) hb)
    |(go_at_call 89;refine(gN _ _ _ _ H2.out.symm _).mono ?_;rintro e w1 ⟨rfl,hb⟩;obtain⟨hc,hf⟩:=aS hb;obtain⟨z0,z1,z2⟩:=lV w hb (by (try simp) <;> omega);replace HB:Below w.heap.size w _:=aB (by repeat (first|exact HB|refine J8 ?_ (by dsimp only;omega) _|refine Jk ?_ (by have:=HB.size;(try simp) <;> omega) _|apply Jv)) hb)
    |(go_at_call 95;refine(av _ _ _ _ _ _ d0 d1 _ H.out _).mono ?_;rintro e w2 ⟨rfl,hb⟩;obtain⟨hc,hf⟩:=aS hb;obtain⟨z0,z1,z2⟩:=lV w hb (by (try simp) <;> omega);replace HB:Below w.heap.size w _:=aB (by repeat (first|exact HB|refine J8 ?_ (by dsimp only;omega) _|refine Jk ?_ (by have:=HB.size;(try simp) <;> omega) _|apply Jv)) hb))
   refine Xx (v:=.tuple #[.agg #[.int .i64 k,.int .u64 gz,.string ⟨#[]⟩],.int .i64 0]) (by simp[results,Tryz.results88,go_sem, *]) rfl ⟨rfl,?_⟩
   (repeat (first|exact HB|refine J8 ?_ (by dsimp only;omega) _|refine Jk ?_ (by have:=HB.size;(try simp) <;> omega) _|apply Jv))
 ·have hss:=bC
  have HZ:=J0 (hz1 rfl)
  clear hz1 hz2
  cases r
  ·obtain⟨hv,he⟩:=iK hd
   rw[hv,he]
   clear hv he hd hz ht
   go_enter Tryz.func88,Tryz.ntmps88
   go_wp2_with (first
    |(go_at_call 111;refine(dP _ _ HS.out _).mono ?_;rintro e w' ⟨rfl,rfl⟩)
    |(go_at_call 126;refine(ma _ _ g0 g1 _ HZ.out _).mono ?_;rintro e w' ⟨rfl,rfl⟩)
    |(go_at_call 86;refine(mZ A c l _ ((hA0 _).below hb) hl).mono ?_;rw[HG.out];rintro e w3 ⟨rfl,hb3⟩;have hb:=hb3;obtain⟨hc,hf⟩:=aS hb;obtain⟨x0,x1,x2⟩:=lV w hb (by (try simp) <;> omega);replace HB:Below w.heap.size w _:=aB (by repeat (first|exact HB|refine J8 ?_ (by dsimp only;omega) _|refine Jk ?_ (by have:=HB.size;(try simp) <;> omega) _|apply Jv)) hb)
    |(go_at_call 89;refine(gN _ _ _ _ H2.out.symm _).mono ?_;rintro e w1 ⟨rfl,hb⟩;obtain⟨hc,hf⟩:=aS hb;obtain⟨z0,z1,z2⟩:=lV w hb (by (try simp) <;> omega);replace HB:Below w.heap.size w _:=aB (by repeat (first|exact HB|refine J8 ?_ (by dsimp only;omega) _|refine Jk ?_ (by have:=HB.size;(try simp) <;> omega) _|apply Jv)) hb)
    |(go_at_call 95;refine(av _ _ _ _ _ _ d0 d1 _ H.out _).mono ?_;rintro e w2 ⟨rfl,hb⟩;obtain⟨hc,hf⟩:=aS hb;obtain⟨z0,z1,z2⟩:=lV w hb (by (try simp) <;> omega);replace HB:Below w.heap.size w _:=aB (by repeat (first|exact HB|refine J8 ?_ (by dsimp only;omega) _|refine Jk ?_ (by have:=HB.size;(try simp) <;> omega) _|apply Jv)) hb))
   refine Xx (v:=.tuple #[.agg #[.int .i64 0,.int .u64 0,.string ⟨#[]⟩],.int .i64 50]) (by simp[results,Tryz.results88,go_sem, *]) rfl ⟨rfl,?_⟩
   (repeat (first|exact HB|refine J8 ?_ (by dsimp only;omega) _|refine Jk ?_ (by have:=HB.size;(try simp) <;> omega) _|apply Jv))
  ·obtain⟨hv,he⟩:=kT hd
   rw[hv,he,hz,ht]
   clear hv he hd hz ht
   go_enter Tryz.func88,Tryz.ntmps88
   go_wp2_with (first
    |(go_at_call 111;refine(dP _ _ HS.out _).mono ?_;rintro e w' ⟨rfl,rfl⟩)
    |(go_at_call 126;refine(ma _ _ g0 g1 _ HZ.out _).mono ?_;rintro e w' ⟨rfl,rfl⟩)
    |(go_at_call 86;refine(mZ A c l _ ((hA0 _).below hb) hl).mono ?_;rw[HG.out];rintro e w3 ⟨rfl,hb3⟩;have hb:=hb3;obtain⟨hc,hf⟩:=aS hb;obtain⟨x0,x1,x2⟩:=lV w hb (by (try simp) <;> omega);replace HB:Below w.heap.size w _:=aB (by repeat (first|exact HB|refine J8 ?_ (by dsimp only;omega) _|refine Jk ?_ (by have:=HB.size;(try simp) <;> omega) _|apply Jv)) hb)
    |(go_at_call 89;refine(gN _ _ _ _ H2.out.symm _).mono ?_;rintro e w1 ⟨rfl,hb⟩;obtain⟨hc,hf⟩:=aS hb;obtain⟨z0,z1,z2⟩:=lV w hb (by (try simp) <;> omega);replace HB:Below w.heap.size w _:=aB (by repeat (first|exact HB|refine J8 ?_ (by dsimp only;omega) _|refine Jk ?_ (by have:=HB.size;(try simp) <;> omega) _|apply Jv)) hb)
    |(go_at_call 95;refine(av _ _ _ _ _ _ d0 d1 _ H.out _).mono ?_;rintro e w2 ⟨rfl,hb⟩;obtain⟨hc,hf⟩:=aS hb;obtain⟨z0,z1,z2⟩:=lV w hb (by (try simp) <;> omega);replace HB:Below w.heap.size w _:=aB (by repeat (first|exact HB|refine J8 ?_ (by dsimp only;omega) _|refine Jk ?_ (by have:=HB.size;(try simp) <;> omega) _|apply Jv)) hb))
   refine Xx (v:=.tuple #[.agg #[.int .i64 k,.int .u64 z,.string ⟨#[]⟩],.int .i64 0]) (by simp[results,Tryz.results88,go_sem, *]) rfl ⟨rfl,?_⟩
   (repeat (first|exact HB|refine J8 ?_ (by dsimp only;omega) _|refine Jk ?_ (by have:=HB.size;(try simp) <;> omega) _|apply Jv))
theorem xK (A:EL) (c:Nat) (l:EN) (s:EP) (k long:Int) (hk:¬k=12) (hlen:¬(l.length:Int)=aT k long) (w:EQ) (hl:l.length<=9223372036854775807):
 Calls Tryz.prog 88 #[.slice A l.length c,.agg #[.string s,.int .i64 k,.int .i64 long]] w fun e w'=>e=.returned (.tuple #[jy l k long,.int .i64 (dq l k long)])/\Below w.heap.size w w':=by
 have hk':(k == 12)=false:=by simpa using hk
 have hd:fZ l k long=false:=by simp[fZ,hlen]
 have HB:Below w.heap.size w ((w.alloc (.cells #[.string s,.int .i64 k,.int .i64 long] 68)).alloc (.cells #[.int .i64 0,.int .u64 0,.string ⟨#[]⟩] 71)):=(aA _).alloc (by simp) _
 obtain⟨hv,he⟩:=iK hd
 rw[hv,he]
 obtain⟨sg,hsg⟩:∃b,eK 5 k 8=b:=⟨_,rfl⟩
 obtain⟨lz,hlz⟩:∃z,aT k long=z:=⟨_,rfl⟩
 rw[hlz] at hlen
 have hne:((l.length:Int) != lz)=true:=by simpa using hlen
 have heq:((l.length:Int) == lz)=false:=by simpa using hlen
 have H2:=J0 hlz
 have HS:=J0 hsg
 have hss:=bC
 clear hv he hd hlen hlz hsg
 cases sg
 all_goals
  go_enter Tryz.func88,Tryz.ntmps88
  go_wp2_with (first
   |(go_at_call 111;refine(dP _ _ HS.out _).mono ?_;rintro e w' ⟨rfl,rfl⟩)
   |(go_at_call 126;refine(jq _ _ (by omega) (by omega) _).mono ?_;rintro e w' ⟨rfl,rfl⟩)
   |(go_at_call 89;refine(gN _ _ _ _ H2.out _).mono ?_;rintro e w1 ⟨rfl,hb⟩;obtain⟨hc,hf⟩:=aS hb;obtain⟨z0,z1,z2⟩:=lV w hb (by (try simp) <;> omega);replace HB:Below w.heap.size w _:=aB (by repeat (first|exact HB|refine J8 ?_ (by dsimp only;omega) _|refine Jk ?_ (by have:=HB.size;(try simp) <;> omega) _|apply Jv)) hb))
  refine Xx (v:=.tuple #[.agg #[.int .i64 0,.int .u64 0,.string (⟨#[]⟩:EP)],.int .i64 50]) (by simp[results,Tryz.results88,go_sem, *]) rfl ⟨rfl,?_⟩
  (repeat (first|exact HB|refine J8 ?_ (by dsimp only;omega) _|refine Jk ?_ (by have:=HB.size;(try simp) <;> omega) _|apply Jv))
theorem qQ (A:EL) (c:Nat) (l:EN) (s:EP) (k long:Int) (w:EQ) (hA:Rd w A (aH l)) (hl:l.length<=9223372036854775807):
 Calls Tryz.prog 88 #[.slice A l.length c,.agg #[.string s,.int .i64 k,.int .i64 long]] w fun e w'=>e=.returned (.tuple #[jy l k long,.int .i64 (dq l k long)])/\Below w.heap.size w w':=by
 by_cases hk:k=12
 ·subst hk;exact xI A c l s long w hA hl
 ·by_cases hlen:(l.length:Int)=aT k long
  ·exact xJ A c l s k long hk hlen w hA hl
  ·exact xK A c l s k long hk hlen w hl
end
end Go.Proofs.YteembinfgbapgaaGreat
