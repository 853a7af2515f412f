/- Merged out of: Ki Kj. -/
import Derived.Test.YteembinfgbapgaaGreatA04
import Derived.Lib.SlBuf
import Derived.Deep.WholeRow
set_option linter.unusedSimpArgs false
set_option linter.unusedVariables false
set_option maxRecDepth 100000
set_option maxHeartbeats 8000000
namespace Go.Proofs.YteembinfgbapgaaGreat
section
open Go.RowKit
def padL (l:List UInt8) (n:Nat):List UInt8:=l.take n++List.replicate (n - l.length) 0
theorem padL_length (l:List UInt8) (n:Nat):(padL l n).length=n:=by simp[padL];omega
theorem copy_new (ty:TypeId) (s:ByteArray) (n:Nat) (V:World):(Builtin.copy_ #[44,9] ty #[.slice (some ⟨V.heap.size,0,none⟩) n n,.string s]).run Tryz.prog (V.alloc (.cells (bytesV (List.replicate n 0)).toArray 5)) =
 .ok (goInt (min s.size n)) (V.alloc (.cells (bytesV (padL (bl s) n)).toArray 5)):=by
 have hg:(V.alloc (.cells (bytesV (List.replicate n 0)).toArray 5)).heap[V.heap.size]?=some (.cells (bytesV (List.replicate n 0)).toArray 5 (0,0)):=heap_alloc_new V _
 have hlen:(bytesV ((bl s).take n)).length=min s.size n:=by simp[bytesV,bl_length];omega
 have hst:=run_storeCells_at Tryz.prog V.heap.size 0 5 (bytesV ((bl s).take n)) 0 _ _ hg (by rw[hlen];simp[bytesV];omega) (by intro v hv;obtain⟨x,_,rfl⟩:=List.mem_map.1 hv;rfl)
 have hmin:Nat.min s.size n=min s.size n:=rfl
 have htk:List.take (min s.size n) (List.map (fun b:UInt8=>Value.int IntKind.u8 (b.toNat:Int)) s.data.toList)=bytesV ((bl s).take n):=by
  have:=bl_length s
  simp only[bytesV,bl,List.map_take] at this ⊢
  rcases Nat.le_total s.size n with h|h
  ·rw[Nat.min_eq_left h,List.take_of_length_le (by rw[List.length_map];omega),List.take_of_length_le (by rw[List.length_map];omega)]
  ·rw[Nat.min_eq_right h]
 obtain⟨i,hi,hz0,hz1,hz2⟩:=info_parts info5
 simp[Builtin.copy_,run_underlying Tryz.underlying44,Builtin.lenOf,Builtin.firstCells,sizeOf,typeInfo,hi,hmin]
 rw[htk,hst]
 simp only[Result.andThen]
 have e0:goInt ((min s.size n:Nat):Int)=goInt (min (s.size:Int) (n:Int)):=by congr 1;omega
 rw[World.setRow_alloc_new,←e0]
 congr 1
 congr 2
 apply congrArg
 simp only[Nat.zero_add,List.take_zero,List.nil_append,hlen,padL,bytesV_append]
 congr 1
 simp only[bytesV,List.map_replicate,List.drop_replicate,bl_length]
 congr 1
 omega
theorem plain_is (k:Int) (r:Bool) (h:btw 1 k 4=r) (w:World):Calls Tryz.prog 109 #[.int .i64 k] w fun e w'=>e=.returned (.bool r)∧w=w':=h▸plain_calls k w
theorem Casts_is (s s2:ByteArray) (k l k2 l2:Int) (r:Bool) (h:castsB k l k2 l2=r) (w:World):Calls Tryz.prog 108 #[.agg #[.string s,.int .i64 k,.int .i64 l],.agg #[.string s2,.int .i64 k2,.int .i64 l2]] w fun e w'=>e=.returned (.bool r)∧Below w.heap.size w w':=h▸Casts_calls s s2 k l k2 l2 w
theorem Cast_wrong (vk bits:Int) (tx s s2:ByteArray) (k l k2 l2:Int) (h0:0≤bits) (h1:bits<18446744073709551616) (hr:rightB vk bits tx k l=false) (w:World):
 Calls Tryz.prog 74 #[.agg #[.int .i64 vk,.int .u64 bits,.string tx],.agg #[.string s,.int .i64 k,.int .i64 l],.agg #[.string s2,.int .i64 k2,.int .i64 l2]] w fun e w'=>e=.returned (.tuple #[.agg #[.int .i64 0,.int .u64 0,.string (⟨#[]⟩:ByteArray)],.int .i64 50])∧Below w.heap.size w w':=by
 have HB:Below w.heap.size w (((w.alloc (.cells #[.int .i64 vk,.int .u64 bits,.string tx] 71)).alloc (.cells #[.string s,.int .i64 k,.int .i64 l] 68)).alloc (.cells #[.string s2,.int .i64 k2,.int .i64 l2] 68)):=((below_new _).alloc (by simp) _).alloc (by simp;omega) _
 have HR:=Lib.hid hr
 clear hr
 go_enter Tryz.func74,Tryz.ntmps74
 go_wp2_with (first
  |(go_at_call 95;refine(Right_is _ _ _ _ _ _ h0 h1 _ HR.out _).mono ?_;rintro e w1 ⟨rfl,hb⟩;obtain⟨hc,hf⟩:=bcell hb;obtain⟨z0,z1,z2,z3⟩:w.heap.size<w1.heap.size∧w.heap.size+1<w1.heap.size∧w.heap.size+1+1<w1.heap.size∧w.heap.size+1+1+1<w1.heap.size:=(by have hz_:=hb.size;(try simp at hz_);omega);have n_:Below w.heap.size w _:=below_seq (by repeat (first|exact HB|refine Below.setCell ?_ (by dsimp only;omega) _|refine Below.alloc ?_ (by have hs_:=HB.size;first|(simp;done)|(simp;omega)|omega) _|apply Below.drew)) hb;clear HB;have HB:=n_;clear n_))
 refine bodyPost_ret (v:=.tuple #[.agg #[.int .i64 0,.int .u64 0,.string (⟨#[]⟩:ByteArray)],.int .i64 50]) (by simp[results,Tryz.results74,go_sem, *]) rfl ⟨rfl,?_⟩
 (repeat (first|exact HB|refine Below.setCell ?_ (by dsimp only;omega) _|refine Below.alloc ?_ (by have hs_:=HB.size;first|(simp;done)|(simp;omega)|omega) _|apply Below.drew))
theorem Cast_not (vk bits:Int) (tx s s2:ByteArray) (k l k2 l2:Int) (h0:0≤bits) (h1:bits<18446744073709551616) (hr:rightB vk bits tx k l=true) (hc:castsB k l k2 l2=false) (w:World):
 Calls Tryz.prog 74 #[.agg #[.int .i64 vk,.int .u64 bits,.string tx],.agg #[.string s,.int .i64 k,.int .i64 l],.agg #[.string s2,.int .i64 k2,.int .i64 l2]] w fun e w'=>e=.returned (.tuple #[.agg #[.int .i64 0,.int .u64 0,.string (⟨#[]⟩:ByteArray)],.int .i64 51])∧Below w.heap.size w w':=by
 have HB:Below w.heap.size w (((w.alloc (.cells #[.int .i64 vk,.int .u64 bits,.string tx] 71)).alloc (.cells #[.string s,.int .i64 k,.int .i64 l] 68)).alloc (.cells #[.string s2,.int .i64 k2,.int .i64 l2] 68)):=((below_new _).alloc (by simp) _).alloc (by simp;omega) _
 have HR:=Lib.hid hr
 have HC:=Lib.hid hc
 clear hr hc
 go_enter Tryz.func74,Tryz.ntmps74
 go_wp2_with (first
  |(go_at_call 95;refine(Right_is _ _ _ _ _ _ h0 h1 _ HR.out _).mono ?_;rintro e w1 ⟨rfl,hb⟩;obtain⟨hc,hf⟩:=bcell hb;obtain⟨z0,z1,z2,z3⟩:w.heap.size<w1.heap.size∧w.heap.size+1<w1.heap.size∧w.heap.size+1+1<w1.heap.size∧w.heap.size+1+1+1<w1.heap.size:=(by have hz_:=hb.size;(try simp at hz_);omega);have n_:Below w.heap.size w _:=below_seq (by repeat (first|exact HB|refine Below.setCell ?_ (by dsimp only;omega) _|refine Below.alloc ?_ (by have hs_:=HB.size;first|(simp;done)|(simp;omega)|omega) _|apply Below.drew)) hb;clear HB;have HB:=n_;clear n_)
  |(go_at_call 108;refine(Casts_is _ _ _ _ _ _ _ HC.out _).mono ?_;rintro e w2 ⟨rfl,hb⟩;obtain⟨hc,hf⟩:=bcell hb;obtain⟨z0,z1,z2,z3⟩:w.heap.size<w2.heap.size∧w.heap.size+1<w2.heap.size∧w.heap.size+1+1<w2.heap.size∧w.heap.size+1+1+1<w2.heap.size:=(by have hz_:=hb.size;(try simp at hz_);omega);have n_:Below w.heap.size w _:=below_seq (by repeat (first|exact HB|refine Below.setCell ?_ (by dsimp only;omega) _|refine Below.alloc ?_ (by have hs_:=HB.size;first|(simp;done)|(simp;omega)|omega) _|apply Below.drew)) hb;clear HB;have HB:=n_;clear n_))
 refine bodyPost_ret (v:=.tuple #[.agg #[.int .i64 0,.int .u64 0,.string (⟨#[]⟩:ByteArray)],.int .i64 51]) (by simp[results,Tryz.results74,go_sem, *]) rfl ⟨rfl,?_⟩
 (repeat (first|exact HB|refine Below.setCell ?_ (by dsimp only;omega) _|refine Below.alloc ?_ (by have hs_:=HB.size;first|(simp;done)|(simp;omega)|omega) _|apply Below.drew))
theorem Cast_same (vk bits:Int) (tx s s2:ByteArray) (k l k2 l2:Int) (h0:0≤bits) (h1:bits<18446744073709551616) (hr:rightB vk bits tx k l=true) (hc:castsB k l k2 l2=true) (hk:¬k2=12) (hf:k2=10→btw 1 k 4=false∧btw 5 k 8=false) (hi:k2=8→¬k=10) (w:World):
 Calls Tryz.prog 74 #[.agg #[.int .i64 vk,.int .u64 bits,.string tx],.agg #[.string s,.int .i64 k,.int .i64 l],.agg #[.string s2,.int .i64 k2,.int .i64 l2]] w fun e w'=>e=.returned (.tuple #[.agg #[.int .i64 k2,.int .u64 bits,.string (⟨#[]⟩:ByteArray)],.int .i64 0])∧Below w.heap.size w w':=by
 have HB:Below w.heap.size w (((w.alloc (.cells #[.int .i64 vk,.int .u64 bits,.string tx] 71)).alloc (.cells #[.string s,.int .i64 k,.int .i64 l] 68)).alloc (.cells #[.string s2,.int .i64 k2,.int .i64 l2] 68)):=((below_new _).alloc (by simp) _).alloc (by simp;omega) _
 have HR:=Lib.hid hr
 have HC:=Lib.hid hc
 have e12:(k2 == 12)=false:=by simpa using hk
 clear hr hc hk
 by_cases c10:k2=10
 ·subst c10
  obtain⟨p1,p2⟩:=hf rfl
  clear hf hi
  have Q1:=Lib.hid p1
  have Q2:=Lib.hid p2
  clear p1 p2
  go_enter Tryz.func74,Tryz.ntmps74
  go_wp2_with (first
   |(go_at_call 95;refine(Right_is _ _ _ _ _ _ h0 h1 _ HR.out _).mono ?_;rintro e w1 ⟨rfl,hb⟩;obtain⟨hc,hf⟩:=bcell hb;obtain⟨z0,z1,z2,z3⟩:w.heap.size<w1.heap.size∧w.heap.size+1<w1.heap.size∧w.heap.size+1+1<w1.heap.size∧w.heap.size+1+1+1<w1.heap.size:=(by have hz_:=hb.size;(try simp at hz_);omega);have n_:Below w.heap.size w _:=below_seq (by repeat (first|exact HB|refine Below.setCell ?_ (by dsimp only;omega) _|refine Below.alloc ?_ (by have hs_:=HB.size;first|(simp;done)|(simp;omega)|omega) _|apply Below.drew)) hb;clear HB;have HB:=n_;clear n_)
   |(go_at_call 108;refine(Casts_is _ _ _ _ _ _ _ HC.out _).mono ?_;rintro e w2 ⟨rfl,hb⟩;obtain⟨hc,hf⟩:=bcell hb;obtain⟨z0,z1,z2,z3⟩:w.heap.size<w2.heap.size∧w.heap.size+1<w2.heap.size∧w.heap.size+1+1<w2.heap.size∧w.heap.size+1+1+1<w2.heap.size:=(by have hz_:=hb.size;(try simp at hz_);omega);have n_:Below w.heap.size w _:=below_seq (by repeat (first|exact HB|refine Below.setCell ?_ (by dsimp only;omega) _|refine Below.alloc ?_ (by have hs_:=HB.size;first|(simp;done)|(simp;omega)|omega) _|apply Below.drew)) hb;clear HB;have HB:=n_;clear n_)
   |(go_at_call 109;refine(plain_is _ _ Q1.out _).mono ?_;rintro e w' ⟨rfl,rfl⟩)
   |(go_at_call 111;refine(signed_is _ _ Q2.out _).mono ?_;rintro e w' ⟨rfl,rfl⟩))
  refine bodyPost_ret (v:=.tuple #[.agg #[.int .i64 10,.int .u64 bits,.string (⟨#[]⟩:ByteArray)],.int .i64 0]) (by simp[results,Tryz.results74,go_sem, *]) rfl ⟨rfl,?_⟩
  (repeat (first|exact HB|refine Below.setCell ?_ (by dsimp only;omega) _|refine Below.alloc ?_ (by have hs_:=HB.size;first|(simp;done)|(simp;omega)|omega) _|apply Below.drew))
 ·have e10:(k2 == 10)=false:=by simpa using c10
  clear hf
  by_cases c8:k2=8
  ·subst c8
   have ek:(k == 10)=false:=by simpa using hi rfl
   clear hi c10
   go_enter Tryz.func74,Tryz.ntmps74
   go_wp2_with (first
    |(go_at_call 95;refine(Right_is _ _ _ _ _ _ h0 h1 _ HR.out _).mono ?_;rintro e w1 ⟨rfl,hb⟩;obtain⟨hc,hf⟩:=bcell hb;obtain⟨z0,z1,z2,z3⟩:w.heap.size<w1.heap.size∧w.heap.size+1<w1.heap.size∧w.heap.size+1+1<w1.heap.size∧w.heap.size+1+1+1<w1.heap.size:=(by have hz_:=hb.size;(try simp at hz_);omega);have n_:Below w.heap.size w _:=below_seq (by repeat (first|exact HB|refine Below.setCell ?_ (by dsimp only;omega) _|refine Below.alloc ?_ (by have hs_:=HB.size;first|(simp;done)|(simp;omega)|omega) _|apply Below.drew)) hb;clear HB;have HB:=n_;clear n_)
    |(go_at_call 108;refine(Casts_is _ _ _ _ _ _ _ HC.out _).mono ?_;rintro e w2 ⟨rfl,hb⟩;obtain⟨hc,hf⟩:=bcell hb;obtain⟨z0,z1,z2,z3⟩:w.heap.size<w2.heap.size∧w.heap.size+1<w2.heap.size∧w.heap.size+1+1<w2.heap.size∧w.heap.size+1+1+1<w2.heap.size:=(by have hz_:=hb.size;(try simp at hz_);omega);have n_:Below w.heap.size w _:=below_seq (by repeat (first|exact HB|refine Below.setCell ?_ (by dsimp only;omega) _|refine Below.alloc ?_ (by have hs_:=HB.size;first|(simp;done)|(simp;omega)|omega) _|apply Below.drew)) hb;clear HB;have HB:=n_;clear n_))
   refine bodyPost_ret (v:=.tuple #[.agg #[.int .i64 8,.int .u64 bits,.string (⟨#[]⟩:ByteArray)],.int .i64 0]) (by simp[results,Tryz.results74,go_sem, *]) rfl ⟨rfl,?_⟩
   (repeat (first|exact HB|refine Below.setCell ?_ (by dsimp only;omega) _|refine Below.alloc ?_ (by have hs_:=HB.size;first|(simp;done)|(simp;omega)|omega) _|apply Below.drew))
  ·have e8:(k2 == 8)=false:=by simpa using c8
   clear hi c10 c8
   go_enter Tryz.func74,Tryz.ntmps74
   go_wp2_with (first
    |(go_at_call 95;refine(Right_is _ _ _ _ _ _ h0 h1 _ HR.out _).mono ?_;rintro e w1 ⟨rfl,hb⟩;obtain⟨hc,hf⟩:=bcell hb;obtain⟨z0,z1,z2,z3⟩:w.heap.size<w1.heap.size∧w.heap.size+1<w1.heap.size∧w.heap.size+1+1<w1.heap.size∧w.heap.size+1+1+1<w1.heap.size:=(by have hz_:=hb.size;(try simp at hz_);omega);have n_:Below w.heap.size w _:=below_seq (by repeat (first|exact HB|refine Below.setCell ?_ (by dsimp only;omega) _|refine Below.alloc ?_ (by have hs_:=HB.size;first|(simp;done)|(simp;omega)|omega) _|apply Below.drew)) hb;clear HB;have HB:=n_;clear n_)
    |(go_at_call 108;refine(Casts_is _ _ _ _ _ _ _ HC.out _).mono ?_;rintro e w2 ⟨rfl,hb⟩;obtain⟨hc,hf⟩:=bcell hb;obtain⟨z0,z1,z2,z3⟩:w.heap.size<w2.heap.size∧w.heap.size+1<w2.heap.size∧w.heap.size+1+1<w2.heap.size∧w.heap.size+1+1+1<w2.heap.size:=(by have hz_:=hb.size;(try simp at hz_);omega);have n_:Below w.heap.size w _:=below_seq (by repeat (first|exact HB|refine Below.setCell ?_ (by dsimp only;omega) _|refine Below.alloc ?_ (by have hs_:=HB.size;first|(simp;done)|(simp;omega)|omega) _|apply Below.drew)) hb;clear HB;have HB:=n_;clear n_))
   refine bodyPost_ret (v:=.tuple #[.agg #[.int .i64 k2,.int .u64 bits,.string (⟨#[]⟩:ByteArray)],.int .i64 0]) (by simp[results,Tryz.results74,go_sem, *]) rfl ⟨rfl,?_⟩
   (repeat (first|exact HB|refine Below.setCell ?_ (by dsimp only;omega) _|refine Below.alloc ?_ (by have hs_:=HB.size;first|(simp;done)|(simp;omega)|omega) _|apply Below.drew))
theorem floatOf_pos (n:Int) (h0:0≤n) (h1:n<18446744073709551616):floatOfInt .f64 n=fBits false n.toNat:=by
 have e:floatOfInt .f64 n=Ieee.Format.nearest Ieee.double (decide (n<0)) n.natAbs 0:=rfl
 rw[e,show decide (n<0)=false by simpa using h0,show n.natAbs=n.toNat by omega]
 refine nearest_bits _ _ ?_
 by_cases hz:n.toNat=0
 ·rw[hz];decide
 ·have:n.toNat.log2<64:=by rw[Nat.log2_lt hz];omega
  omega
theorem floatOf_neg (n:Int) (h0:n<0) (h1:-18446744073709551616<n):floatOfInt .f64 n=fBits true (-n).toNat:=by
 have e:floatOfInt .f64 n=Ieee.Format.nearest Ieee.double (decide (n<0)) n.natAbs 0:=rfl
 rw[e,show decide (n<0)=true by simpa using h0,show n.natAbs=(-n).toNat by omega]
 refine nearest_bits _ _ ?_
 have hz:(-n).toNat≠0:=by omega
 have:(-n).toNat.log2<64:=by rw[Nat.log2_lt hz];omega
 omega
def castZ (bits k k2:Int):Int:=
 if k2=10∧btw 1 k 4=true then(fBits false bits.toNat:Int)
 else if k2=10∧btw 5 k 8=true then(if 9223372036854775808≤bits then(fBits true (18446744073709551616 - bits).toNat:Int) else(fBits false bits.toNat:Int))
 else if k2=8∧k=10 then wholeZ bits.toNat % 18446744073709551616 else bits
theorem Cast_plain (vk bits:Int) (tx s s2:ByteArray) (k l l2:Int) (h0:0≤bits) (h1:bits<18446744073709551616) (hr:rightB vk bits tx k l=true) (hc:castsB k l 10 l2=true) (hp:btw 1 k 4=true) (w:World):
 Calls Tryz.prog 74 #[.agg #[.int .i64 vk,.int .u64 bits,.string tx],.agg #[.string s,.int .i64 k,.int .i64 l],.agg #[.string s2,.int .i64 10,.int .i64 l2]] w fun e w'=>e=.returned (.tuple #[.agg #[.int .i64 10,.int .u64 (castZ bits k 10),.string (⟨#[]⟩:ByteArray)],.int .i64 0])∧Below w.heap.size w w':=by
 have HB:Below w.heap.size w (((w.alloc (.cells #[.int .i64 vk,.int .u64 bits,.string tx] 71)).alloc (.cells #[.string s,.int .i64 k,.int .i64 l] 68)).alloc (.cells #[.string s2,.int .i64 10,.int .i64 l2] 68)):=((below_new _).alloc (by simp) _).alloc (by simp;omega) _
 have HR:=Lib.hid hr
 have HC:=Lib.hid hc
 clear hr hc
 have e:castZ bits k 10=(floatOfInt .f64 bits:Int):=by rw[castZ,if_pos ⟨rfl,hp⟩,floatOf_pos bits h0 h1]
 rw[e]
 have Q1:=Lib.hid hp
 clear hp e
 have hcf:=bits_run
 go_enter Tryz.func74,Tryz.ntmps74
 go_wp2_with (first
  |(go_at_call 95;refine(Right_is _ _ _ _ _ _ h0 h1 _ HR.out _).mono ?_;rintro e w1 ⟨rfl,hb⟩;obtain⟨hc,hf⟩:=bcell hb;obtain⟨z0,z1,z2,z3⟩:w.heap.size<w1.heap.size∧w.heap.size+1<w1.heap.size∧w.heap.size+1+1<w1.heap.size∧w.heap.size+1+1+1<w1.heap.size:=(by have hz_:=hb.size;(try simp at hz_);omega);have n_:Below w.heap.size w _:=below_seq (by repeat (first|exact HB|refine Below.setCell ?_ (by dsimp only;omega) _|refine Below.alloc ?_ (by have hs_:=HB.size;first|(simp;done)|(simp;omega)|omega) _|apply Below.drew)) hb;clear HB;have HB:=n_;clear n_)
  |(go_at_call 108;refine(Casts_is _ _ _ _ _ _ _ HC.out _).mono ?_;rintro e w2 ⟨rfl,hb⟩;obtain⟨hc,hf⟩:=bcell hb;obtain⟨z0,z1,z2,z3⟩:w.heap.size<w2.heap.size∧w.heap.size+1<w2.heap.size∧w.heap.size+1+1<w2.heap.size∧w.heap.size+1+1+1<w2.heap.size:=(by have hz_:=hb.size;(try simp at hz_);omega);have n_:Below w.heap.size w _:=below_seq (by repeat (first|exact HB|refine Below.setCell ?_ (by dsimp only;omega) _|refine Below.alloc ?_ (by have hs_:=HB.size;first|(simp;done)|(simp;omega)|omega) _|apply Below.drew)) hb;clear HB;have HB:=n_;clear n_)
  |(go_at_call 109;refine(plain_is _ _ Q1.out _).mono ?_;rintro e w' ⟨rfl,rfl⟩))
 refine bodyPost_ret (v:=.tuple #[.agg #[.int .i64 10,.int .u64 ((floatOfInt .f64 bits:Int)),.string (⟨#[]⟩:ByteArray)],.int .i64 0]) (by simp[results,Tryz.results74,go_sem, *]) rfl ⟨rfl,?_⟩
 (repeat (first|exact HB|refine Below.setCell ?_ (by dsimp only;omega) _|refine Below.alloc ?_ (by have hs_:=HB.size;first|(simp;done)|(simp;omega)|omega) _|apply Below.drew))
theorem Cast_signed (vk bits:Int) (tx s s2:ByteArray) (k l l2:Int) (h0:0≤bits) (h1:bits<18446744073709551616) (hr:rightB vk bits tx k l=true) (hc:castsB k l 10 l2=true) (hp:btw 5 k 8=true) (w:World):
 Calls Tryz.prog 74 #[.agg #[.int .i64 vk,.int .u64 bits,.string tx],.agg #[.string s,.int .i64 k,.int .i64 l],.agg #[.string s2,.int .i64 10,.int .i64 l2]] w fun e w'=>e=.returned (.tuple #[.agg #[.int .i64 10,.int .u64 (castZ bits k 10),.string (⟨#[]⟩:ByteArray)],.int .i64 0])∧Below w.heap.size w w':=by
 have HB:Below w.heap.size w (((w.alloc (.cells #[.int .i64 vk,.int .u64 bits,.string tx] 71)).alloc (.cells #[.string s,.int .i64 k,.int .i64 l] 68)).alloc (.cells #[.string s2,.int .i64 10,.int .i64 l2] 68)):=((below_new _).alloc (by simp) _).alloc (by simp;omega) _
 have HR:=Lib.hid hr
 have HC:=Lib.hid hc
 clear hr hc
 have hp1:btw 1 k 4=false:=by have:=btw_iff.1 hp;rw[btw_not];omega
 have e:castZ bits k 10=(floatOfInt .f64 (wrap64 bits):Int):=by
  rw[castZ,if_neg (by rw[hp1];simp),if_pos ⟨rfl,hp⟩]
  by_cases hb:9223372036854775808≤bits
  ·rw[if_pos hb,show wrap64 bits=bits - 18446744073709551616 by unfold wrap64;omega,floatOf_neg _ (by omega) (by omega),show(-(bits - 18446744073709551616)).toNat=(18446744073709551616 - bits).toNat by omega]
  ·rw[if_neg hb,show wrap64 bits=bits by unfold wrap64;omega,floatOf_pos _ h0 h1]
 rw[e]
 have Q1:=Lib.hid hp1
 have Q2:=Lib.hid hp
 clear hp e hp1
 have hcf:=bits_run
 go_enter Tryz.func74,Tryz.ntmps74
 go_wp2_with (first
  |(go_at_call 95;refine(Right_is _ _ _ _ _ _ h0 h1 _ HR.out _).mono ?_;rintro e w1 ⟨rfl,hb⟩;obtain⟨hc,hf⟩:=bcell hb;obtain⟨z0,z1,z2,z3⟩:w.heap.size<w1.heap.size∧w.heap.size+1<w1.heap.size∧w.heap.size+1+1<w1.heap.size∧w.heap.size+1+1+1<w1.heap.size:=(by have hz_:=hb.size;(try simp at hz_);omega);have n_:Below w.heap.size w _:=below_seq (by repeat (first|exact HB|refine Below.setCell ?_ (by dsimp only;omega) _|refine Below.alloc ?_ (by have hs_:=HB.size;first|(simp;done)|(simp;omega)|omega) _|apply Below.drew)) hb;clear HB;have HB:=n_;clear n_)
  |(go_at_call 108;refine(Casts_is _ _ _ _ _ _ _ HC.out _).mono ?_;rintro e w2 ⟨rfl,hb⟩;obtain⟨hc,hf⟩:=bcell hb;obtain⟨z0,z1,z2,z3⟩:w.heap.size<w2.heap.size∧w.heap.size+1<w2.heap.size∧w.heap.size+1+1<w2.heap.size∧w.heap.size+1+1+1<w2.heap.size:=(by have hz_:=hb.size;(try simp at hz_);omega);have n_:Below w.heap.size w _:=below_seq (by repeat (first|exact HB|refine Below.setCell ?_ (by dsimp only;omega) _|refine Below.alloc ?_ (by have hs_:=HB.size;first|(simp;done)|(simp;omega)|omega) _|apply Below.drew)) hb;clear HB;have HB:=n_;clear n_)
  |(go_at_call 109;refine(plain_is _ _ Q1.out _).mono ?_;rintro e w' ⟨rfl,rfl⟩)
  |(go_at_call 111;refine(signed_is _ _ Q2.out _).mono ?_;rintro e w' ⟨rfl,rfl⟩))
 refine bodyPost_ret (v:=.tuple #[.agg #[.int .i64 10,.int .u64 ((floatOfInt .f64 (wrap64 bits):Int)),.string (⟨#[]⟩:ByteArray)],.int .i64 0]) (by simp[results,Tryz.results74,go_sem, *]) rfl ⟨rfl,?_⟩
 (repeat (first|exact HB|refine Below.setCell ?_ (by dsimp only;omega) _|refine Below.alloc ?_ (by have hs_:=HB.size;first|(simp;done)|(simp;omega)|omega) _|apply Below.drew))
theorem Cast_whole (vk bits:Int) (tx s s2:ByteArray) (l l2:Int) (h0:0≤bits) (h1:bits<18446744073709551616) (hr:rightB vk bits tx 10 l=true) (hc:castsB 10 l 8 l2=true) (w:World):
 Calls Tryz.prog 74 #[.agg #[.int .i64 vk,.int .u64 bits,.string tx],.agg #[.string s,.int .i64 10,.int .i64 l],.agg #[.string s2,.int .i64 8,.int .i64 l2]] w fun e w'=>e=.returned (.tuple #[.agg #[.int .i64 8,.int .u64 (castZ bits 10 8),.string (⟨#[]⟩:ByteArray)],.int .i64 0])∧Below w.heap.size w w':=by
 have HB:Below w.heap.size w (((w.alloc (.cells #[.int .i64 vk,.int .u64 bits,.string tx] 71)).alloc (.cells #[.string s,.int .i64 10,.int .i64 l] 68)).alloc (.cells #[.string s2,.int .i64 8,.int .i64 l2] 68)):=((below_new _).alloc (by simp) _).alloc (by simp;omega) _
 have HR:=Lib.hid hr
 have HC:=Lib.hid hc
 clear hr hc
 have e:castZ bits 10 8=wholeZ bits.toNat % 18446744073709551616:=by simp[castZ]
 rw[e]
 clear e
 obtain⟨z,hz⟩:∃z,wholeZ bits.toNat=z:=⟨_,rfl⟩
 rw[hz]
 have HZ:=Lib.hid hz
 clear hz
 have e3:IntKind.u64.wrap z=z % 18446744073709551616:=IntKind.wrap_u64 z
 go_enter Tryz.func74,Tryz.ntmps74
 go_wp2_with (first
  |(go_at_call 95;refine(Right_is _ _ _ _ _ _ h0 h1 _ HR.out _).mono ?_;rintro e w1 ⟨rfl,hb⟩;obtain⟨hc,hf⟩:=bcell hb;obtain⟨z0,z1,z2,z3⟩:w.heap.size<w1.heap.size∧w.heap.size+1<w1.heap.size∧w.heap.size+1+1<w1.heap.size∧w.heap.size+1+1+1<w1.heap.size:=(by have hz_:=hb.size;(try simp at hz_);omega);have n_:Below w.heap.size w _:=below_seq (by repeat (first|exact HB|refine Below.setCell ?_ (by dsimp only;omega) _|refine Below.alloc ?_ (by have hs_:=HB.size;first|(simp;done)|(simp;omega)|omega) _|apply Below.drew)) hb;clear HB;have HB:=n_;clear n_)
  |(go_at_call 108;refine(Casts_is _ _ _ _ _ _ _ HC.out _).mono ?_;rintro e w2 ⟨rfl,hb⟩;obtain⟨hc,hf⟩:=bcell hb;obtain⟨z0,z1,z2,z3⟩:w.heap.size<w2.heap.size∧w.heap.size+1<w2.heap.size∧w.heap.size+1+1<w2.heap.size∧w.heap.size+1+1+1<w2.heap.size:=(by have hz_:=hb.size;(try simp at hz_);omega);have n_:Below w.heap.size w _:=below_seq (by repeat (first|exact HB|refine Below.setCell ?_ (by dsimp only;omega) _|refine Below.alloc ?_ (by have hs_:=HB.size;first|(simp;done)|(simp;omega)|omega) _|apply Below.drew)) hb;clear HB;have HB:=n_;clear n_)
  |(go_at_call 112;refine(Whole_calls bits h0 h1 _).mono ?_;rw[HZ.out];rintro e w3 ⟨rfl,hb⟩;obtain⟨hc,hf⟩:=bcell hb;obtain⟨z0,z1,z2,z3⟩:w.heap.size<w3.heap.size∧w.heap.size+1<w3.heap.size∧w.heap.size+1+1<w3.heap.size∧w.heap.size+1+1+1<w3.heap.size:=(by have hz_:=hb.size;(try simp at hz_);omega);obtain y0:w2.heap.size<w3.heap.size:=(by have hz_:=hb.size;(try simp at hz_);omega);have n_:Below w.heap.size w _:=below_seq (by repeat (first|exact HB|refine Below.setCell ?_ (by dsimp only;omega) _|refine Below.alloc ?_ (by have hs_:=HB.size;first|(simp;done)|(simp;omega)|omega) _|apply Below.drew)) hb;clear HB;have HB:=n_;clear n_))
 refine bodyPost_ret (v:=.tuple #[.agg #[.int .i64 8,.int .u64 (z % 18446744073709551616),.string (⟨#[]⟩:ByteArray)],.int .i64 0]) (by simp[results,Tryz.results74,go_sem, *]) rfl ⟨rfl,?_⟩
 (repeat (first|exact HB|refine Below.setCell ?_ (by dsimp only;omega) _|refine Below.alloc ?_ (by have hs_:=HB.size;first|(simp;done)|(simp;omega)|omega) _|apply Below.drew))
theorem casts_12 {k l l2:Int} (h:castsB k l 12 l2=true):k=12∧mayB 12 l2=true:=by
 unfold castsB at h
 split at h
 ·cases h
 ·rename_i hz
  have hm:mayB 12 l2=true:=by
   by_cases hm:mayB 12 l2=true
   ·exact hm
   ·exfalso;apply hz;right;simp[longZ,hm]
  refine⟨?_,hm⟩
  simpa[btw] using h
theorem Cast_bytes (vk bits:Int) (tx s s2:ByteArray) (k l:Int) (n:Nat) (h0:0≤bits) (h1:bits<18446744073709551616) (hr:rightB vk bits tx k l=true) (hc:castsB k l 12 n=true) (w:World):
 Calls Tryz.prog 74 #[.agg #[.int .i64 vk,.int .u64 bits,.string tx],.agg #[.string s,.int .i64 k,.int .i64 l],.agg #[.string s2,.int .i64 12,.int .i64 n]] w fun e w'=>e=.returned (.tuple #[.agg #[.int .i64 12,.int .u64 bits,.string (strL (padL (bl tx) n))],.int .i64 0])∧Below w.heap.size w w':=by
 have HB:Below w.heap.size w (((w.alloc (.cells #[.int .i64 vk,.int .u64 bits,.string tx] 71)).alloc (.cells #[.string s,.int .i64 k,.int .i64 l] 68)).alloc (.cells #[.string s2,.int .i64 12,.int .i64 n] 68)):=((below_new _).alloc (by simp) _).alloc (by simp;omega) _
 have hn:n≤64:=by have:=btw_iff.1 (mayB_12▸(casts_12 hc).2);omega
 have HR:=Lib.hid hr
 have HC:=Lib.hid hc
 clear hr hc
 have hmk:=make_bytes n (by omega)
 have hcy:∀(W:World) (o:Obj),(Builtin.copy_ #[44,9] 3 #[.slice (some ⟨W.heap.size+1,0,none⟩) n n,.string tx]).run Tryz.prog ((W.alloc o).alloc (.cells (bytesV (List.replicate n 0)).toArray 5)) =
  .ok (goInt (min tx.size n)) ((W.alloc o).alloc (.cells (bytesV (padL (bl tx) n)).toArray 5)):=fun W o=>by simpa using copy_new 3 tx n (W.alloc o)
 have hcv:∀(W:World) (o:Obj),(convert 44 9 (.slice (some ⟨W.heap.size+1,0,none⟩) n n)).run Tryz.prog ((W.alloc o).alloc (.cells (bytesV (padL (bl tx) n)).toArray 5))=.ok (.string (strL (padL (bl tx) n))) ((W.alloc o).alloc (.cells (bytesV (padL (bl tx) n)).toArray 5)):=fun W o=>by
  have:=conv_str (rd_new (W.alloc o) (bytesV (padL (bl tx) n)) 5) n
  simpa[padL_length] using this
 go_enter Tryz.func74,Tryz.ntmps74
 go_wp2_with (first
  |(go_at_call 95;refine(Right_is _ _ _ _ _ _ h0 h1 _ HR.out _).mono ?_;rintro e w1 ⟨rfl,hb⟩;obtain⟨hc,hf⟩:=bcell hb;obtain⟨z0,z1,z2,z3⟩:w.heap.size<w1.heap.size∧w.heap.size+1<w1.heap.size∧w.heap.size+1+1<w1.heap.size∧w.heap.size+1+1+1<w1.heap.size:=(by have hz_:=hb.size;(try simp at hz_);omega);have n_:Below w.heap.size w _:=below_seq (by repeat (first|exact HB|refine Below.setCell ?_ (by dsimp only;omega) _|refine Below.alloc ?_ (by have hs_:=HB.size;first|(simp;done)|(simp;omega)|omega) _|apply Below.drew)) hb;clear HB;have HB:=n_;clear n_)
  |(go_at_call 108;refine(Casts_is _ _ _ _ _ _ _ HC.out _).mono ?_;rintro e w2 ⟨rfl,hb⟩;obtain⟨hc,hf⟩:=bcell hb;obtain⟨z0,z1,z2,z3⟩:w.heap.size<w2.heap.size∧w.heap.size+1<w2.heap.size∧w.heap.size+1+1<w2.heap.size∧w.heap.size+1+1+1<w2.heap.size:=(by have hz_:=hb.size;(try simp at hz_);omega);have n_:Below w.heap.size w _:=below_seq (by repeat (first|exact HB|refine Below.setCell ?_ (by dsimp only;omega) _|refine Below.alloc ?_ (by have hs_:=HB.size;first|(simp;done)|(simp;omega)|omega) _|apply Below.drew)) hb;clear HB;have HB:=n_;clear n_))
 refine bodyPost_ret (v:=.tuple #[.agg #[.int .i64 12,.int .u64 bits,.string (strL (padL (bl tx) n))],.int .i64 0]) (by simp[results,Tryz.results74,go_sem, *]) rfl ⟨rfl,?_⟩
 (repeat (first|exact HB|refine Below.setCell ?_ (by dsimp only;omega) _|refine Below.alloc ?_ (by have hs_:=HB.size;first|(simp;done)|(simp;omega)|omega) _|apply Below.drew))
def castT (tx:ByteArray) (k2 l2:Int):ByteArray:=if k2=12 then strL (padL (bl tx) l2.toNat) else⟨#[]⟩
def castV (vk bits:Int) (tx:ByteArray) (k l k2 l2:Int):Value:=if rightB vk bits tx k l=true∧castsB k l k2 l2=true then .agg #[.int .i64 k2,.int .u64 (castZ bits k k2),.string (castT tx k2 l2)] else .agg #[.int .i64 0,.int .u64 0,.string ⟨#[]⟩]
def castE (vk bits:Int) (tx:ByteArray) (k l k2 l2:Int):Int:=if rightB vk bits tx k l=true then(if castsB k l k2 l2=true then 0 else 51) else 50
theorem Cast_calls (vk bits:Int) (tx s s2:ByteArray) (k l k2 l2:Int) (h0:0≤bits) (h1:bits<18446744073709551616) (w:World):
 Calls Tryz.prog 74 #[.agg #[.int .i64 vk,.int .u64 bits,.string tx],.agg #[.string s,.int .i64 k,.int .i64 l],.agg #[.string s2,.int .i64 k2,.int .i64 l2]] w fun e w'=>e=.returned (.tuple #[castV vk bits tx k l k2 l2,.int .i64 (castE vk bits tx k l k2 l2)])∧Below w.heap.size w w':=by
 by_cases hr:rightB vk bits tx k l=true
 ·by_cases hc:castsB k l k2 l2=true
  ·rw[castV,if_pos ⟨hr,hc⟩,castE,if_pos hr,if_pos hc]
   by_cases hk:k2=12
   ·subst hk
    have h12:=casts_12 hc
    have hb:=btw_iff.1 (mayB_12▸h12.2)
    obtain⟨n,rfl⟩:∃n:Nat,l2=n:=⟨l2.toNat,by omega⟩
    have e1:castZ bits k 12=bits:=by simp[castZ]
    rw[castT,if_pos rfl,e1]
    exact Cast_bytes vk bits tx s s2 k l n h0 h1 hr hc w
   ·rw[castT,if_neg hk]
    by_cases c1:k2=10∧btw 1 k 4=true
    ·obtain⟨rfl,hp⟩:=c1
     exact Cast_plain vk bits tx s s2 k l l2 h0 h1 hr hc hp w
    ·by_cases c2:k2=10∧btw 5 k 8=true
     ·obtain⟨rfl,hp⟩:=c2
      exact Cast_signed vk bits tx s s2 k l l2 h0 h1 hr hc hp w
     ·by_cases c3:k2=8∧k=10
      ·obtain⟨rfl,rfl⟩:=c3
       exact Cast_whole vk bits tx s s2 l l2 h0 h1 hr hc w
      ·rw[castZ,if_neg c1,if_neg c2,if_neg c3]
       exact Cast_same vk bits tx s s2 k l k2 l2 h0 h1 hr hc hk (fun e=>⟨by rw[←Bool.not_eq_true];exact fun h=>c1 ⟨e,h⟩,by rw[←Bool.not_eq_true];exact fun h=>c2 ⟨e,h⟩⟩) (fun e h=>c3 ⟨e,h⟩) w
  ·rw[castV,if_neg (fun h=>hc h.2),castE,if_pos hr,if_neg hc]
   exact Cast_not vk bits tx s s2 k l k2 l2 h0 h1 hr (by simpa using hc) w
 ·rw[castV,if_neg (fun h=>hr h.1),castE,if_neg hr]
  exact Cast_wrong vk bits tx s s2 k l k2 l2 h0 h1 (by simpa using hr) w
end
end Go.Proofs.YteembinfgbapgaaGreat
