/- Merged out of: Ki Kj Kk. -/
import Derived.Test.YteembinfgbapgaaGreatC00
import Derived.Test.YteembinfgbapgaaGreatC04
import Derived.Lib.SlBuf
import Derived.Deep.WholeRow
set_option linter.unusedSimpArgs false
set_option linter.unusedVariables false
set_option maxRecDepth 100000
set_option maxHeartbeats 8000000
namespace Go.Proofs.YteembinfgbapgaaGreat
section
open Go.RowKit
def padL (l:List UInt8) (n:Nat):List UInt8:=l.take n++List.replicate (n - l.length) 0
theorem padL_length (l:List UInt8) (n:Nat):(padL l n).length=n:=by simp[padL];omega
theorem copy_new (ty:TypeId) (s:ByteArray) (n:Nat) (V:World):(Builtin.copy_ #[44,9] ty #[.slice (some ⟨V.heap.size,0,none⟩) n n,.string s]).run Tryz.prog (V.alloc (.cells (bytesV (List.replicate n 0)).toArray 5)) =
 .ok (goInt (min s.size n)) (V.alloc (.cells (bytesV (padL (bl s) n)).toArray 5)):=by
 have hg:(V.alloc (.cells (bytesV (List.replicate n 0)).toArray 5)).heap[V.heap.size]?=some (.cells (bytesV (List.replicate n 0)).toArray 5 (0,0)):=heap_alloc_new V _
 have hlen:(bytesV ((bl s).take n)).length=min s.size n:=by simp[bytesV,bl_length];omega
 have hst:=run_storeCells_at Tryz.prog V.heap.size 0 5 (bytesV ((bl s).take n)) 0 _ _ hg (by rw[hlen];simp[bytesV];omega) (by intro v hv;obtain⟨x,_,rfl⟩:=X5.1 hv;rfl)
 have hmin:Nat.min s.size n=min s.size n:=rfl
 have htk:List.take (min s.size n) (List.map (fun b:UInt8=>Value.int IntKind.u8 (b.toNat:Int)) s.data.toList)=bytesV ((bl s).take n):=by
  have:=bl_length s
  simp only[bytesV,bl,List.map_take] at this ⊢
  rcases Nat.le_total s.size n with h|h
  ·rw[Nat.min_eq_left h,Vz (by rw[Kz];omega),Vz (by rw[Kz];omega)]
  ·rw[Nat.min_eq_right h]
 obtain⟨i,hi,hz0,hz1,hz2⟩:=info_parts info5
 simp[Builtin.copy_,run_underlying Tryz.underlying44,Builtin.lenOf,Builtin.firstCells,sizeOf,typeInfo,hi,hmin]
 rw[htk,hst]
 simp only[Result.andThen]
 have e0:goInt ((min s.size n:Nat):Int)=goInt (min (s.size:Int) (n:Int)):=by congr 1;omega
 rw[World.setRow_alloc_new,←e0]
 congr 1
 congr 2
 apply congrArg
 simp only[Nat.zero_add,List.take_zero,List.nil_append,hlen,padL,bytesV_append]
 congr 1
 simp only[bytesV,List.map_replicate,List.drop_replicate,bl_length]
 congr 1
 omega
theorem plain_is (k:Int) (r:Bool) (h:btw 1 k 4=r) (w:World):Calls Tryz.prog 109 #[.int .i64 k] w fun e w'=>e=.returned (.bool r)∧w=w':=h▸plain_calls k w
theorem Casts_is (s s2:ByteArray) (k l k2 l2:Int) (r:Bool) (h:castsB k l k2 l2=r) (w:World):Calls Tryz.prog 108 #[.agg #[.string s,.int .i64 k,.int .i64 l],.agg #[.string s2,.int .i64 k2,.int .i64 l2]] w fun e w'=>e=.returned (.bool r)∧Below w.heap.size w w':=h▸Casts_calls s s2 k l k2 l2 w
theorem Cast_wrong (vk bits:Int) (tx s s2:ByteArray) (k l k2 l2:Int) (h0:0≤bits) (h1:bits<18446744073709551616) (hr:rightB vk bits tx k l=false) (w:World):
 Calls Tryz.prog 74 #[.agg #[.int .i64 vk,.int .u64 bits,.string tx],.agg #[.string s,.int .i64 k,.int .i64 l],.agg #[.string s2,.int .i64 k2,.int .i64 l2]] w fun e w'=>e=.returned (.tuple #[.agg #[.int .i64 0,.int .u64 0,.string (⟨#[]⟩:ByteArray)],.int .i64 50])∧Below w.heap.size w w':=by
 have HB:Below w.heap.size w (((w.alloc (.cells #[.int .i64 vk,.int .u64 bits,.string tx] 71)).alloc (.cells #[.string s,.int .i64 k,.int .i64 l] 68)).alloc (.cells #[.string s2,.int .i64 k2,.int .i64 l2] 68)):=((below_new _).alloc (by simp) _).alloc (by simp;omega) _
 have HR:=J0 hr
 clear hr
 go_enter Tryz.func74,Tryz.ntmps74
 go_wp2_with (first
  |(go_at_call 95;refine(Right_is _ _ _ _ _ _ h0 h1 _ HR.out _).mono ?_;rintro e w1 ⟨rfl,hb⟩;obtain⟨hc,hf⟩:=bcell hb;obtain⟨z0,z1,z2,z3⟩:w.heap.size<w1.heap.size∧w.heap.size+1<w1.heap.size∧w.heap.size+1+1<w1.heap.size∧w.heap.size+1+1+1<w1.heap.size:=(by have hz_:=hb.size;(try simp at hz_);omega);have n_:Below w.heap.size w _:=below_seq (by repeat (first|exact HB|refine J8 ?_ (by dsimp only;omega) _|refine Jk ?_ (by have hs_:=HB.size;first|(simp;done)|(simp;omega)|omega) _|apply Jv)) hb;clear HB;have HB:=n_;clear n_))
 refine bodyPost_ret (v:=.tuple #[.agg #[.int .i64 0,.int .u64 0,.string (⟨#[]⟩:ByteArray)],.int .i64 50]) (by simp[results,Tryz.results74,go_sem, *]) rfl ⟨rfl,?_⟩
 (repeat (first|exact HB|refine J8 ?_ (by dsimp only;omega) _|refine Jk ?_ (by have hs_:=HB.size;first|(simp;done)|(simp;omega)|omega) _|apply Jv))
theorem Cast_not (vk bits:Int) (tx s s2:ByteArray) (k l k2 l2:Int) (h0:0≤bits) (h1:bits<18446744073709551616) (hr:rightB vk bits tx k l=true) (hc:castsB k l k2 l2=false) (w:World):
 Calls Tryz.prog 74 #[.agg #[.int .i64 vk,.int .u64 bits,.string tx],.agg #[.string s,.int .i64 k,.int .i64 l],.agg #[.string s2,.int .i64 k2,.int .i64 l2]] w fun e w'=>e=.returned (.tuple #[.agg #[.int .i64 0,.int .u64 0,.string (⟨#[]⟩:ByteArray)],.int .i64 51])∧Below w.heap.size w w':=by
 have HB:Below w.heap.size w (((w.alloc (.cells #[.int .i64 vk,.int .u64 bits,.string tx] 71)).alloc (.cells #[.string s,.int .i64 k,.int .i64 l] 68)).alloc (.cells #[.string s2,.int .i64 k2,.int .i64 l2] 68)):=((below_new _).alloc (by simp) _).alloc (by simp;omega) _
 have HR:=J0 hr
 have HC:=J0 hc
 clear hr hc
 go_enter Tryz.func74,Tryz.ntmps74
 go_wp2_with (first
  |(go_at_call 95;refine(Right_is _ _ _ _ _ _ h0 h1 _ HR.out _).mono ?_;rintro e w1 ⟨rfl,hb⟩;obtain⟨hc,hf⟩:=bcell hb;obtain⟨z0,z1,z2,z3⟩:w.heap.size<w1.heap.size∧w.heap.size+1<w1.heap.size∧w.heap.size+1+1<w1.heap.size∧w.heap.size+1+1+1<w1.heap.size:=(by have hz_:=hb.size;(try simp at hz_);omega);have n_:Below w.heap.size w _:=below_seq (by repeat (first|exact HB|refine J8 ?_ (by dsimp only;omega) _|refine Jk ?_ (by have hs_:=HB.size;first|(simp;done)|(simp;omega)|omega) _|apply Jv)) hb;clear HB;have HB:=n_;clear n_)
  |(go_at_call 108;refine(Casts_is _ _ _ _ _ _ _ HC.out _).mono ?_;rintro e w2 ⟨rfl,hb⟩;obtain⟨hc,hf⟩:=bcell hb;obtain⟨z0,z1,z2,z3⟩:w.heap.size<w2.heap.size∧w.heap.size+1<w2.heap.size∧w.heap.size+1+1<w2.heap.size∧w.heap.size+1+1+1<w2.heap.size:=(by have hz_:=hb.size;(try simp at hz_);omega);have n_:Below w.heap.size w _:=below_seq (by repeat (first|exact HB|refine J8 ?_ (by dsimp only;omega) _|refine Jk ?_ (by have hs_:=HB.size;first|(simp;done)|(simp;omega)|omega) _|apply Jv)) hb;clear HB;have HB:=n_;clear n_))
 refine bodyPost_ret (v:=.tuple #[.agg #[.int .i64 0,.int .u64 0,.string (⟨#[]⟩:ByteArray)],.int .i64 51]) (by simp[results,Tryz.results74,go_sem, *]) rfl ⟨rfl,?_⟩
 (repeat (first|exact HB|refine J8 ?_ (by dsimp only;omega) _|refine Jk ?_ (by have hs_:=HB.size;first|(simp;done)|(simp;omega)|omega) _|apply Jv))
theorem Cast_same (vk bits:Int) (tx s s2:ByteArray) (k l k2 l2:Int) (h0:0≤bits) (h1:bits<18446744073709551616) (hr:rightB vk bits tx k l=true) (hc:castsB k l k2 l2=true) (hk:¬k2=12) (hf:k2=10→btw 1 k 4=false∧btw 5 k 8=false) (hi:k2=8→¬k=10) (w:World):
 Calls Tryz.prog 74 #[.agg #[.int .i64 vk,.int .u64 bits,.string tx],.agg #[.string s,.int .i64 k,.int .i64 l],.agg #[.string s2,.int .i64 k2,.int .i64 l2]] w fun e w'=>e=.returned (.tuple #[.agg #[.int .i64 k2,.int .u64 bits,.string (⟨#[]⟩:ByteArray)],.int .i64 0])∧Below w.heap.size w w':=by
 have HB:Below w.heap.size w (((w.alloc (.cells #[.int .i64 vk,.int .u64 bits,.string tx] 71)).alloc (.cells #[.string s,.int .i64 k,.int .i64 l] 68)).alloc (.cells #[.string s2,.int .i64 k2,.int .i64 l2] 68)):=((below_new _).alloc (by simp) _).alloc (by simp;omega) _
 have HR:=J0 hr
 have HC:=J0 hc
 have e12:(k2 == 12)=false:=by simpa using hk
 clear hr hc hk
 by_cases c10:k2=10
 ·subst c10
  obtain⟨p1,p2⟩:=hf rfl
  clear hf hi
  have Q1:=J0 p1
  have Q2:=J0 p2
  clear p1 p2
  go_enter Tryz.func74,Tryz.ntmps74
  go_wp2_with (first
   |(go_at_call 95;refine(Right_is _ _ _ _ _ _ h0 h1 _ HR.out _).mono ?_;rintro e w1 ⟨rfl,hb⟩;obtain⟨hc,hf⟩:=bcell hb;obtain⟨z0,z1,z2,z3⟩:w.heap.size<w1.heap.size∧w.heap.size+1<w1.heap.size∧w.heap.size+1+1<w1.heap.size∧w.heap.size+1+1+1<w1.heap.size:=(by have hz_:=hb.size;(try simp at hz_);omega);have n_:Below w.heap.size w _:=below_seq (by repeat (first|exact HB|refine J8 ?_ (by dsimp only;omega) _|refine Jk ?_ (by have hs_:=HB.size;first|(simp;done)|(simp;omega)|omega) _|apply Jv)) hb;clear HB;have HB:=n_;clear n_)
   |(go_at_call 108;refine(Casts_is _ _ _ _ _ _ _ HC.out _).mono ?_;rintro e w2 ⟨rfl,hb⟩;obtain⟨hc,hf⟩:=bcell hb;obtain⟨z0,z1,z2,z3⟩:w.heap.size<w2.heap.size∧w.heap.size+1<w2.heap.size∧w.heap.size+1+1<w2.heap.size∧w.heap.size+1+1+1<w2.heap.size:=(by have hz_:=hb.size;(try simp at hz_);omega);have n_:Below w.heap.size w _:=below_seq (by repeat (first|exact HB|refine J8 ?_ (by dsimp only;omega) _|refine Jk ?_ (by have hs_:=HB.size;first|(simp;done)|(simp;omega)|omega) _|apply Jv)) hb;clear HB;have HB:=n_;clear n_)
   |(go_at_call 109;refine(plain_is _ _ Q1.out _).mono ?_;rintro e w' ⟨rfl,rfl⟩)
   |(go_at_call 111;refine(signed_is _ _ Q2.out _).mono ?_;rintro e w' ⟨rfl,rfl⟩))
  refine bodyPost_ret (v:=.tuple #[.agg #[.int .i64 10,.int .u64 bits,.string (⟨#[]⟩:ByteArray)],.int .i64 0]) (by simp[results,Tryz.results74,go_sem, *]) rfl ⟨rfl,?_⟩
  (repeat (first|exact HB|refine J8 ?_ (by dsimp only;omega) _|refine Jk ?_ (by have hs_:=HB.size;first|(simp;done)|(simp;omega)|omega) _|apply Jv))
 ·have e10:(k2 == 10)=false:=by simpa using c10
  clear hf
  by_cases c8:k2=8
  ·subst c8
   have ek:(k == 10)=false:=by simpa using hi rfl
   clear hi c10
   go_enter Tryz.func74,Tryz.ntmps74
   go_wp2_with (first
    |(go_at_call 95;refine(Right_is _ _ _ _ _ _ h0 h1 _ HR.out _).mono ?_;rintro e w1 ⟨rfl,hb⟩;obtain⟨hc,hf⟩:=bcell hb;obtain⟨z0,z1,z2,z3⟩:w.heap.size<w1.heap.size∧w.heap.size+1<w1.heap.size∧w.heap.size+1+1<w1.heap.size∧w.heap.size+1+1+1<w1.heap.size:=(by have hz_:=hb.size;(try simp at hz_);omega);have n_:Below w.heap.size w _:=below_seq (by repeat (first|exact HB|refine J8 ?_ (by dsimp only;omega) _|refine Jk ?_ (by have hs_:=HB.size;first|(simp;done)|(simp;omega)|omega) _|apply Jv)) hb;clear HB;have HB:=n_;clear n_)
    |(go_at_call 108;refine(Casts_is _ _ _ _ _ _ _ HC.out _).mono ?_;rintro e w2 ⟨rfl,hb⟩;obtain⟨hc,hf⟩:=bcell hb;obtain⟨z0,z1,z2,z3⟩:w.heap.size<w2.heap.size∧w.heap.size+1<w2.heap.size∧w.heap.size+1+1<w2.heap.size∧w.heap.size+1+1+1<w2.heap.size:=(by have hz_:=hb.size;(try simp at hz_);omega);have n_:Below w.heap.size w _:=below_seq (by repeat (first|exact HB|refine J8 ?_ (by dsimp only;omega) _|refine Jk ?_ (by have hs_:=HB.size;first|(simp;done)|(simp;omega)|omega) _|apply Jv)) hb;clear HB;have HB:=n_;clear n_))
   refine bodyPost_ret (v:=.tuple #[.agg #[.int .i64 8,.int .u64 bits,.string (⟨#[]⟩:ByteArray)],.int .i64 0]) (by simp[results,Tryz.results74,go_sem, *]) rfl ⟨rfl,?_⟩
   (repeat (first|exact HB|refine J8 ?_ (by dsimp only;omega) _|refine Jk ?_ (by have hs_:=HB.size;first|(simp;done)|(simp;omega)|omega) _|apply Jv))
  ·have e8:(k2 == 8)=false:=by simpa using c8
   clear hi c10 c8
   go_enter Tryz.func74,Tryz.ntmps74
   go_wp2_with (first
    |(go_at_call 95;refine(Right_is _ _ _ _ _ _ h0 h1 _ HR.out _).mono ?_;rintro e w1 ⟨rfl,hb⟩;obtain⟨hc,hf⟩:=bcell hb;obtain⟨z0,z1,z2,z3⟩:w.heap.size<w1.heap.size∧w.heap.size+1<w1.heap.size∧w.heap.size+1+1<w1.heap.size∧w.heap.size+1+1+1<w1.heap.size:=(by have hz_:=hb.size;(try simp at hz_);omega);have n_:Below w.heap.size w _:=below_seq (by repeat (first|exact HB|refine J8 ?_ (by dsimp only;omega) _|refine Jk ?_ (by have hs_:=HB.size;first|(simp;done)|(simp;omega)|omega) _|apply Jv)) hb;clear HB;have HB:=n_;clear n_)
    |(go_at_call 108;refine(Casts_is _ _ _ _ _ _ _ HC.out _).mono ?_;rintro e w2 ⟨rfl,hb⟩;obtain⟨hc,hf⟩:=bcell hb;obtain⟨z0,z1,z2,z3⟩:w.heap.size<w2.heap.size∧w.heap.size+1<w2.heap.size∧w.heap.size+1+1<w2.heap.size∧w.heap.size+1+1+1<w2.heap.size:=(by have hz_:=hb.size;(try simp at hz_);omega);have n_:Below w.heap.size w _:=below_seq (by repeat (first|exact HB|refine J8 ?_ (by dsimp only;omega) _|refine Jk ?_ (by have hs_:=HB.size;first|(simp;done)|(simp;omega)|omega) _|apply Jv)) hb;clear HB;have HB:=n_;clear n_))
   refine bodyPost_ret (v:=.tuple #[.agg #[.int .i64 k2,.int .u64 bits,.string (⟨#[]⟩:ByteArray)],.int .i64 0]) (by simp[results,Tryz.results74,go_sem, *]) rfl ⟨rfl,?_⟩
   (repeat (first|exact HB|refine J8 ?_ (by dsimp only;omega) _|refine Jk ?_ (by have hs_:=HB.size;first|(simp;done)|(simp;omega)|omega) _|apply Jv))
theorem floatOf_pos (n:Int) (h0:0≤n) (h1:n<18446744073709551616):floatOfInt .f64 n=fBits false n.toNat:=by
 have e:floatOfInt .f64 n=Ieee.Format.nearest Ieee.double (decide (n<0)) n.natAbs 0:=rfl
 rw[e,show decide (n<0)=false by simpa using h0,show n.natAbs=n.toNat by omega]
 refine nearest_bits _ _ ?_
 by_cases hz:n.toNat=0
 ·rw[hz];decide
 ·have:n.toNat.log2<64:=by rw[Nat.log2_lt hz];omega
  omega
theorem floatOf_neg (n:Int) (h0:n<0) (h1:-18446744073709551616<n):floatOfInt .f64 n=fBits true (-n).toNat:=by
 have e:floatOfInt .f64 n=Ieee.Format.nearest Ieee.double (decide (n<0)) n.natAbs 0:=rfl
 rw[e,show decide (n<0)=true by simpa using h0,show n.natAbs=(-n).toNat by omega]
 refine nearest_bits _ _ ?_
 have hz:(-n).toNat≠0:=by omega
 have:(-n).toNat.log2<64:=by rw[Nat.log2_lt hz];omega
 omega
def castZ (bits k k2:Int):Int:=
 if k2=10∧btw 1 k 4=true then(fBits false bits.toNat:Int)
 else if k2=10∧btw 5 k 8=true then(if 9223372036854775808≤bits then(fBits true (18446744073709551616 - bits).toNat:Int) else(fBits false bits.toNat:Int))
 else if k2=8∧k=10 then wholeZ bits.toNat % 18446744073709551616 else bits
theorem Cast_plain (vk bits:Int) (tx s s2:ByteArray) (k l l2:Int) (h0:0≤bits) (h1:bits<18446744073709551616) (hr:rightB vk bits tx k l=true) (hc:castsB k l 10 l2=true) (hp:btw 1 k 4=true) (w:World):
 Calls Tryz.prog 74 #[.agg #[.int .i64 vk,.int .u64 bits,.string tx],.agg #[.string s,.int .i64 k,.int .i64 l],.agg #[.string s2,.int .i64 10,.int .i64 l2]] w fun e w'=>e=.returned (.tuple #[.agg #[.int .i64 10,.int .u64 (castZ bits k 10),.string (⟨#[]⟩:ByteArray)],.int .i64 0])∧Below w.heap.size w w':=by
 have HB:Below w.heap.size w (((w.alloc (.cells #[.int .i64 vk,.int .u64 bits,.string tx] 71)).alloc (.cells #[.string s,.int .i64 k,.int .i64 l] 68)).alloc (.cells #[.string s2,.int .i64 10,.int .i64 l2] 68)):=((below_new _).alloc (by simp) _).alloc (by simp;omega) _
 have HR:=J0 hr
 have HC:=J0 hc
 clear hr hc
 have e:castZ bits k 10=(floatOfInt .f64 bits:Int):=by rw[castZ,if_pos ⟨rfl,hp⟩,floatOf_pos bits h0 h1]
 rw[e]
 have Q1:=J0 hp
 clear hp e
 have hcf:=bits_run
 go_enter Tryz.func74,Tryz.ntmps74
 go_wp2_with (first
  |(go_at_call 95;refine(Right_is _ _ _ _ _ _ h0 h1 _ HR.out _).mono ?_;rintro e w1 ⟨rfl,hb⟩;obtain⟨hc,hf⟩:=bcell hb;obtain⟨z0,z1,z2,z3⟩:w.heap.size<w1.heap.size∧w.heap.size+1<w1.heap.size∧w.heap.size+1+1<w1.heap.size∧w.heap.size+1+1+1<w1.heap.size:=(by have hz_:=hb.size;(try simp at hz_);omega);have n_:Below w.heap.size w _:=below_seq (by repeat (first|exact HB|refine J8 ?_ (by dsimp only;omega) _|refine Jk ?_ (by have hs_:=HB.size;first|(simp;done)|(simp;omega)|omega) _|apply Jv)) hb;clear HB;have HB:=n_;clear n_)
  |(go_at_call 108;refine(Casts_is _ _ _ _ _ _ _ HC.out _).mono ?_;rintro e w2 ⟨rfl,hb⟩;obtain⟨hc,hf⟩:=bcell hb;obtain⟨z0,z1,z2,z3⟩:w.heap.size<w2.heap.size∧w.heap.size+1<w2.heap.size∧w.heap.size+1+1<w2.heap.size∧w.heap.size+1+1+1<w2.heap.size:=(by have hz_:=hb.size;(try simp at hz_);omega);have n_:Below w.heap.size w _:=below_seq (by repeat (first|exact HB|refine J8 ?_ (by dsimp only;omega) _|refine Jk ?_ (by have hs_:=HB.size;first|(simp;done)|(simp;omega)|omega) _|apply Jv)) hb;clear HB;have HB:=n_;clear n_)
  |(go_at_call 109;refine(plain_is _ _ Q1.out _).mono ?_;rintro e w' ⟨rfl,rfl⟩))
 refine bodyPost_ret (v:=.tuple #[.agg #[.int .i64 10,.int .u64 ((floatOfInt .f64 bits:Int)),.string (⟨#[]⟩:ByteArray)],.int .i64 0]) (by simp[results,Tryz.results74,go_sem, *]) rfl ⟨rfl,?_⟩
 (repeat (first|exact HB|refine J8 ?_ (by dsimp only;omega) _|refine Jk ?_ (by have hs_:=HB.size;first|(simp;done)|(simp;omega)|omega) _|apply Jv))
theorem Cast_signed (vk bits:Int) (tx s s2:ByteArray) (k l l2:Int) (h0:0≤bits) (h1:bits<18446744073709551616) (hr:rightB vk bits tx k l=true) (hc:castsB k l 10 l2=true) (hp:btw 5 k 8=true) (w:World):
 Calls Tryz.prog 74 #[.agg #[.int .i64 vk,.int .u64 bits,.string tx],.agg #[.string s,.int .i64 k,.int .i64 l],.agg #[.string s2,.int .i64 10,.int .i64 l2]] w fun e w'=>e=.returned (.tuple #[.agg #[.int .i64 10,.int .u64 (castZ bits k 10),.string (⟨#[]⟩:ByteArray)],.int .i64 0])∧Below w.heap.size w w':=by
 have HB:Below w.heap.size w (((w.alloc (.cells #[.int .i64 vk,.int .u64 bits,.string tx] 71)).alloc (.cells #[.string s,.int .i64 k,.int .i64 l] 68)).alloc (.cells #[.string s2,.int .i64 10,.int .i64 l2] 68)):=((below_new _).alloc (by simp) _).alloc (by simp;omega) _
 have HR:=J0 hr
 have HC:=J0 hc
 clear hr hc
 have hp1:btw 1 k 4=false:=by have:=btw_iff.1 hp;rw[btw_not];omega
 have e:castZ bits k 10=(floatOfInt .f64 (wrap64 bits):Int):=by
  rw[castZ,if_neg (by rw[hp1];simp),if_pos ⟨rfl,hp⟩]
  by_cases hb:9223372036854775808≤bits
  ·rw[if_pos hb,show wrap64 bits=bits - 18446744073709551616 by unfold wrap64;omega,floatOf_neg _ (by omega) (by omega),show(-(bits - 18446744073709551616)).toNat=(18446744073709551616 - bits).toNat by omega]
  ·rw[if_neg hb,show wrap64 bits=bits by unfold wrap64;omega,floatOf_pos _ h0 h1]
 rw[e]
 have Q1:=J0 hp1
 have Q2:=J0 hp
 clear hp e hp1
 have hcf:=bits_run
 go_enter Tryz.func74,Tryz.ntmps74
 go_wp2_with (first
  |(go_at_call 95;refine(Right_is _ _ _ _ _ _ h0 h1 _ HR.out _).mono ?_;rintro e w1 ⟨rfl,hb⟩;obtain⟨hc,hf⟩:=bcell hb;obtain⟨z0,z1,z2,z3⟩:w.heap.size<w1.heap.size∧w.heap.size+1<w1.heap.size∧w.heap.size+1+1<w1.heap.size∧w.heap.size+1+1+1<w1.heap.size:=(by have hz_:=hb.size;(try simp at hz_);omega);have n_:Below w.heap.size w _:=below_seq (by repeat (first|exact HB|refine J8 ?_ (by dsimp only;omega) _|refine Jk ?_ (by have hs_:=HB.size;first|(simp;done)|(simp;omega)|omega) _|apply Jv)) hb;clear HB;have HB:=n_;clear n_)
  |(go_at_call 108;refine(Casts_is _ _ _ _ _ _ _ HC.out _).mono ?_;rintro e w2 ⟨rfl,hb⟩;obtain⟨hc,hf⟩:=bcell hb;obtain⟨z0,z1,z2,z3⟩:w.heap.size<w2.heap.size∧w.heap.size+1<w2.heap.size∧w.heap.size+1+1<w2.heap.size∧w.heap.size+1+1+1<w2.heap.size:=(by have hz_:=hb.size;(try simp at hz_);omega);have n_:Below w.heap.size w _:=below_seq (by repeat (first|exact HB|refine J8 ?_ (by dsimp only;omega) _|refine Jk ?_ (by have hs_:=HB.size;first|(simp;done)|(simp;omega)|omega) _|apply Jv)) hb;clear HB;have HB:=n_;clear n_)
  |(go_at_call 109;refine(plain_is _ _ Q1.out _).mono ?_;rintro e w' ⟨rfl,rfl⟩)
  |(go_at_call 111;refine(signed_is _ _ Q2.out _).mono ?_;rintro e w' ⟨rfl,rfl⟩))
 refine bodyPost_ret (v:=.tuple #[.agg #[.int .i64 10,.int .u64 ((floatOfInt .f64 (wrap64 bits):Int)),.string (⟨#[]⟩:ByteArray)],.int .i64 0]) (by simp[results,Tryz.results74,go_sem, *]) rfl ⟨rfl,?_⟩
 (repeat (first|exact HB|refine J8 ?_ (by dsimp only;omega) _|refine Jk ?_ (by have hs_:=HB.size;first|(simp;done)|(simp;omega)|omega) _|apply Jv))
theorem Cast_whole (vk bits:Int) (tx s s2:ByteArray) (l l2:Int) (h0:0≤bits) (h1:bits<18446744073709551616) (hr:rightB vk bits tx 10 l=true) (hc:castsB 10 l 8 l2=true) (w:World):
 Calls Tryz.prog 74 #[.agg #[.int .i64 vk,.int .u64 bits,.string tx],.agg #[.string s,.int .i64 10,.int .i64 l],.agg #[.string s2,.int .i64 8,.int .i64 l2]] w fun e w'=>e=.returned (.tuple #[.agg #[.int .i64 8,.int .u64 (castZ bits 10 8),.string (⟨#[]⟩:ByteArray)],.int .i64 0])∧Below w.heap.size w w':=by
 have HB:Below w.heap.size w (((w.alloc (.cells #[.int .i64 vk,.int .u64 bits,.string tx] 71)).alloc (.cells #[.string s,.int .i64 10,.int .i64 l] 68)).alloc (.cells #[.string s2,.int .i64 8,.int .i64 l2] 68)):=((below_new _).alloc (by simp) _).alloc (by simp;omega) _
 have HR:=J0 hr
 have HC:=J0 hc
 clear hr hc
 have e:castZ bits 10 8=wholeZ bits.toNat % 18446744073709551616:=by simp[castZ]
 rw[e]
 clear e
 obtain⟨z,hz⟩:∃z,wholeZ bits.toNat=z:=⟨_,rfl⟩
 rw[hz]
 have HZ:=J0 hz
 clear hz
 have e3:IntKind.u64.wrap z=z % 18446744073709551616:=IntKind.wrap_u64 z
 go_enter Tryz.func74,Tryz.ntmps74
 go_wp2_with (first
  |(go_at_call 95;refine(Right_is _ _ _ _ _ _ h0 h1 _ HR.out _).mono ?_;rintro e w1 ⟨rfl,hb⟩;obtain⟨hc,hf⟩:=bcell hb;obtain⟨z0,z1,z2,z3⟩:w.heap.size<w1.heap.size∧w.heap.size+1<w1.heap.size∧w.heap.size+1+1<w1.heap.size∧w.heap.size+1+1+1<w1.heap.size:=(by have hz_:=hb.size;(try simp at hz_);omega);have n_:Below w.heap.size w _:=below_seq (by repeat (first|exact HB|refine J8 ?_ (by dsimp only;omega) _|refine Jk ?_ (by have hs_:=HB.size;first|(simp;done)|(simp;omega)|omega) _|apply Jv)) hb;clear HB;have HB:=n_;clear n_)
  |(go_at_call 108;refine(Casts_is _ _ _ _ _ _ _ HC.out _).mono ?_;rintro e w2 ⟨rfl,hb⟩;obtain⟨hc,hf⟩:=bcell hb;obtain⟨z0,z1,z2,z3⟩:w.heap.size<w2.heap.size∧w.heap.size+1<w2.heap.size∧w.heap.size+1+1<w2.heap.size∧w.heap.size+1+1+1<w2.heap.size:=(by have hz_:=hb.size;(try simp at hz_);omega);have n_:Below w.heap.size w _:=below_seq (by repeat (first|exact HB|refine J8 ?_ (by dsimp only;omega) _|refine Jk ?_ (by have hs_:=HB.size;first|(simp;done)|(simp;omega)|omega) _|apply Jv)) hb;clear HB;have HB:=n_;clear n_)
  |(go_at_call 112;refine(Whole_calls bits h0 h1 _).mono ?_;rw[HZ.out];rintro e w3 ⟨rfl,hb⟩;obtain⟨hc,hf⟩:=bcell hb;obtain⟨z0,z1,z2,z3⟩:w.heap.size<w3.heap.size∧w.heap.size+1<w3.heap.size∧w.heap.size+1+1<w3.heap.size∧w.heap.size+1+1+1<w3.heap.size:=(by have hz_:=hb.size;(try simp at hz_);omega);obtain y0:w2.heap.size<w3.heap.size:=(by have hz_:=hb.size;(try simp at hz_);omega);have n_:Below w.heap.size w _:=below_seq (by repeat (first|exact HB|refine J8 ?_ (by dsimp only;omega) _|refine Jk ?_ (by have hs_:=HB.size;first|(simp;done)|(simp;omega)|omega) _|apply Jv)) hb;clear HB;have HB:=n_;clear n_))
 refine bodyPost_ret (v:=.tuple #[.agg #[.int .i64 8,.int .u64 (z % 18446744073709551616),.string (⟨#[]⟩:ByteArray)],.int .i64 0]) (by simp[results,Tryz.results74,go_sem, *]) rfl ⟨rfl,?_⟩
 (repeat (first|exact HB|refine J8 ?_ (by dsimp only;omega) _|refine Jk ?_ (by have hs_:=HB.size;first|(simp;done)|(simp;omega)|omega) _|apply Jv))
theorem casts_12 {k l l2:Int} (h:castsB k l 12 l2=true):k=12∧mayB 12 l2=true:=by
 unfold castsB at h
 split at h
 ·cases h
 ·rename_i hz
  have hm:mayB 12 l2=true:=by
   by_cases hm:mayB 12 l2=true
   ·exact hm
   ·exfalso;apply hz;right;simp[longZ,hm]
  refine⟨?_,hm⟩
  simpa[btw] using h
theorem Cast_bytes (vk bits:Int) (tx s s2:ByteArray) (k l:Int) (n:Nat) (h0:0≤bits) (h1:bits<18446744073709551616) (hr:rightB vk bits tx k l=true) (hc:castsB k l 12 n=true) (w:World):
 Calls Tryz.prog 74 #[.agg #[.int .i64 vk,.int .u64 bits,.string tx],.agg #[.string s,.int .i64 k,.int .i64 l],.agg #[.string s2,.int .i64 12,.int .i64 n]] w fun e w'=>e=.returned (.tuple #[.agg #[.int .i64 12,.int .u64 bits,.string (strL (padL (bl tx) n))],.int .i64 0])∧Below w.heap.size w w':=by
 have HB:Below w.heap.size w (((w.alloc (.cells #[.int .i64 vk,.int .u64 bits,.string tx] 71)).alloc (.cells #[.string s,.int .i64 k,.int .i64 l] 68)).alloc (.cells #[.string s2,.int .i64 12,.int .i64 n] 68)):=((below_new _).alloc (by simp) _).alloc (by simp;omega) _
 have hn:n≤64:=by have:=btw_iff.1 (mayB_12▸(casts_12 hc).2);omega
 have HR:=J0 hr
 have HC:=J0 hc
 clear hr hc
 have hmk:=make_bytes n (by omega)
 have hcy:∀(W:World) (o:Obj),(Builtin.copy_ #[44,9] 3 #[.slice (some ⟨W.heap.size+1,0,none⟩) n n,.string tx]).run Tryz.prog ((W.alloc o).alloc (.cells (bytesV (List.replicate n 0)).toArray 5)) =
  .ok (goInt (min tx.size n)) ((W.alloc o).alloc (.cells (bytesV (padL (bl tx) n)).toArray 5)):=fun W o=>by simpa using copy_new 3 tx n (W.alloc o)
 have hcv:∀(W:World) (o:Obj),(convert 44 9 (.slice (some ⟨W.heap.size+1,0,none⟩) n n)).run Tryz.prog ((W.alloc o).alloc (.cells (bytesV (padL (bl tx) n)).toArray 5))=.ok (.string (strL (padL (bl tx) n))) ((W.alloc o).alloc (.cells (bytesV (padL (bl tx) n)).toArray 5)):=fun W o=>by
  have:=conv_str (rd_new (W.alloc o) (bytesV (padL (bl tx) n)) 5) n
  simpa[padL_length] using this
 go_enter Tryz.func74,Tryz.ntmps74
 go_wp2_with (first
  |(go_at_call 95;refine(Right_is _ _ _ _ _ _ h0 h1 _ HR.out _).mono ?_;rintro e w1 ⟨rfl,hb⟩;obtain⟨hc,hf⟩:=bcell hb;obtain⟨z0,z1,z2,z3⟩:w.heap.size<w1.heap.size∧w.heap.size+1<w1.heap.size∧w.heap.size+1+1<w1.heap.size∧w.heap.size+1+1+1<w1.heap.size:=(by have hz_:=hb.size;(try simp at hz_);omega);have n_:Below w.heap.size w _:=below_seq (by repeat (first|exact HB|refine J8 ?_ (by dsimp only;omega) _|refine Jk ?_ (by have hs_:=HB.size;first|(simp;done)|(simp;omega)|omega) _|apply Jv)) hb;clear HB;have HB:=n_;clear n_)
  |(go_at_call 108;refine(Casts_is _ _ _ _ _ _ _ HC.out _).mono ?_;rintro e w2 ⟨rfl,hb⟩;obtain⟨hc,hf⟩:=bcell hb;obtain⟨z0,z1,z2,z3⟩:w.heap.size<w2.heap.size∧w.heap.size+1<w2.heap.size∧w.heap.size+1+1<w2.heap.size∧w.heap.size+1+1+1<w2.heap.size:=(by have hz_:=hb.size;(try simp at hz_);omega);have n_:Below w.heap.size w _:=below_seq (by repeat (first|exact HB|refine J8 ?_ (by dsimp only;omega) _|refine Jk ?_ (by have hs_:=HB.size;first|(simp;done)|(simp;omega)|omega) _|apply Jv)) hb;clear HB;have HB:=n_;clear n_))
 refine bodyPost_ret (v:=.tuple #[.agg #[.int .i64 12,.int .u64 bits,.string (strL (padL (bl tx) n))],.int .i64 0]) (by simp[results,Tryz.results74,go_sem, *]) rfl ⟨rfl,?_⟩
 (repeat (first|exact HB|refine J8 ?_ (by dsimp only;omega) _|refine Jk ?_ (by have hs_:=HB.size;first|(simp;done)|(simp;omega)|omega) _|apply Jv))
def castT (tx:ByteArray) (k2 l2:Int):ByteArray:=if k2=12 then strL (padL (bl tx) l2.toNat) else⟨#[]⟩
def castV (vk bits:Int) (tx:ByteArray) (k l k2 l2:Int):Value:=if rightB vk bits tx k l=true∧castsB k l k2 l2=true then .agg #[.int .i64 k2,.int .u64 (castZ bits k k2),.string (castT tx k2 l2)] else .agg #[.int .i64 0,.int .u64 0,.string ⟨#[]⟩]
def castE (vk bits:Int) (tx:ByteArray) (k l k2 l2:Int):Int:=if rightB vk bits tx k l=true then(if castsB k l k2 l2=true then 0 else 51) else 50
theorem Cast_calls (vk bits:Int) (tx s s2:ByteArray) (k l k2 l2:Int) (h0:0≤bits) (h1:bits<18446744073709551616) (w:World):
 Calls Tryz.prog 74 #[.agg #[.int .i64 vk,.int .u64 bits,.string tx],.agg #[.string s,.int .i64 k,.int .i64 l],.agg #[.string s2,.int .i64 k2,.int .i64 l2]] w fun e w'=>e=.returned (.tuple #[castV vk bits tx k l k2 l2,.int .i64 (castE vk bits tx k l k2 l2)])∧Below w.heap.size w w':=by
 by_cases hr:rightB vk bits tx k l=true
 ·by_cases hc:castsB k l k2 l2=true
  ·rw[castV,if_pos ⟨hr,hc⟩,castE,if_pos hr,if_pos hc]
   by_cases hk:k2=12
   ·subst hk
    have h12:=casts_12 hc
    have hb:=btw_iff.1 (mayB_12▸h12.2)
    obtain⟨n,rfl⟩:∃n:Nat,l2=n:=⟨l2.toNat,by omega⟩
    have e1:castZ bits k 12=bits:=by simp[castZ]
    rw[castT,if_pos rfl,e1]
    exact Cast_bytes vk bits tx s s2 k l n h0 h1 hr hc w
   ·rw[castT,if_neg hk]
    by_cases c1:k2=10∧btw 1 k 4=true
    ·obtain⟨rfl,hp⟩:=c1
     exact Cast_plain vk bits tx s s2 k l l2 h0 h1 hr hc hp w
    ·by_cases c2:k2=10∧btw 5 k 8=true
     ·obtain⟨rfl,hp⟩:=c2
      exact Cast_signed vk bits tx s s2 k l l2 h0 h1 hr hc hp w
     ·by_cases c3:k2=8∧k=10
      ·obtain⟨rfl,rfl⟩:=c3
       exact Cast_whole vk bits tx s s2 l l2 h0 h1 hr hc w
      ·rw[castZ,if_neg c1,if_neg c2,if_neg c3]
       exact Cast_same vk bits tx s s2 k l k2 l2 h0 h1 hr hc hk (fun e=>⟨by rw[←Bool.not_eq_true];exact fun h=>c1 ⟨e,h⟩,by rw[←Bool.not_eq_true];exact fun h=>c2 ⟨e,h⟩⟩) (fun e h=>c3 ⟨e,h⟩) w
  ·rw[castV,if_neg (fun h=>hc h.2),castE,if_pos hr,if_neg hc]
   exact Cast_not vk bits tx s s2 k l k2 l2 h0 h1 hr (by simpa using hc) w
 ·rw[castV,if_neg (fun h=>hr h.1),castE,if_neg hr]
  exact Cast_wrong vk bits tx s s2 k l k2 l2 h0 h1 (by simpa using hr) w
theorem size_pos (k:Int):0<sizeZ k↔0<k∧k<12:=by
 unfold sizeZ
 split <;> (try split) <;> (try split) <;> (try split) <;> omega
theorem rMay_calls (s:ByteArray) (k l:Int) (w:World):Calls Tryz.prog 113 #[.agg #[.string s,.int .i64 k,.int .i64 l]] w fun e w'=>e=.returned (.bool (mayB k l))∧Below w.heap.size w w':=by
 have hp:=J0 (size_pos k)
 go_enter Tryz.func113,Tryz.ntmps113
 go_wp2
 all_goals
  go_ret
  refine⟨ret_bool ?_,below_new _⟩
  have:=hp.out
  try simp only[beq_iff_eq,beq_eq_false_iff_ne,ne_eq] at *
  rw[Qx]
  simp only[mayB,btw,decide_eq_true_eq,decide_eq_false_iff_not,Qy,Bool.decide_and] at *
  grind
theorem rMay_is (s:ByteArray) (k l:Int) (r:Bool) (h:mayB k l=r) (w:World):Calls Tryz.prog 113 #[.agg #[.string s,.int .i64 k,.int .i64 l]] w fun e w'=>e=.returned (.bool r)∧Below w.heap.size w w':=h▸rMay_calls s k l w
theorem rLong_calls (s:ByteArray) (k l:Int) (w:World):Calls Tryz.prog 92 #[.agg #[.string s,.int .i64 k,.int .i64 l]] w fun e w'=>e=.returned (.int .i64 (longZ k l))∧Below w.heap.size w w':=by
 have HB:=Jy w.heap.size w
 obtain⟨r,hr⟩:∃r,mayB k l=r:=⟨_,rfl⟩
 have H:=J0 hr
 clear hr
 cases r
 ·go_enter Tryz.func92,Tryz.ntmps92
  go_wp2_with (first|(go_at_call 113;refine(rMay_is _ _ _ _ H.out _).mono ?_;rintro e w1 ⟨rfl,hb⟩;obtain⟨hc,hf⟩:=bcell hb;have z0:w.heap.size<w1.heap.size:=(by have hz_:=hb.size;(try simp at hz_);omega);have n_:Below w.heap.size w _:=below_seq (by repeat (first|exact HB|refine J8 ?_ (by dsimp only;omega) _|refine Jk ?_ (by have hs_:=HB.size;first|(simp;done)|(simp;omega)|omega) _|apply Jv)) hb;clear HB;have HB:=n_;clear n_))
  go_ret
  exact⟨ret_int (by rw[longZ,H.out];rfl),HB⟩
 ·have hkk:k=12∨¬k=12:=by omega
  rcases hkk with rfl|hk
  ·go_enter Tryz.func92,Tryz.ntmps92
   go_wp2_with (first|(go_at_call 129;refine(rSize_calls _ _).mono ?_;rintro e w' ⟨rfl,rfl⟩)|(go_at_call 113;refine(rMay_is _ _ _ _ H.out _).mono ?_;rintro e w1 ⟨rfl,hb⟩;obtain⟨hc,hf⟩:=bcell hb;have z0:w.heap.size<w1.heap.size:=(by have hz_:=hb.size;(try simp at hz_);omega);have n_:Below w.heap.size w _:=below_seq (by repeat (first|exact HB|refine J8 ?_ (by dsimp only;omega) _|refine Jk ?_ (by have hs_:=HB.size;first|(simp;done)|(simp;omega)|omega) _|apply Jv)) hb;clear HB;have HB:=n_;clear n_))
   go_ret
   exact⟨ret_int (by rw[longZ,H.out];rfl),HB⟩
  ·have hk':(k == 12)=false:=by simpa using hk
   go_enter Tryz.func92,Tryz.ntmps92
   go_wp2_with (first|(go_at_call 129;refine(rSize_calls _ _).mono ?_;rintro e w' ⟨rfl,rfl⟩)|(go_at_call 113;refine(rMay_is _ _ _ _ H.out _).mono ?_;rintro e w1 ⟨rfl,hb⟩;obtain⟨hc,hf⟩:=bcell hb;have z0:w.heap.size<w1.heap.size:=(by have hz_:=hb.size;(try simp at hz_);omega);have n_:Below w.heap.size w _:=below_seq (by repeat (first|exact HB|refine J8 ?_ (by dsimp only;omega) _|refine Jk ?_ (by have hs_:=HB.size;first|(simp;done)|(simp;omega)|omega) _|apply Jv)) hb;clear HB;have HB:=n_;clear n_))
   go_ret
   exact⟨ret_int (by rw[longZ,H.out,if_pos rfl,if_neg hk]),HB⟩
theorem rLong_is (s:ByteArray) (k l:Int) (r:Int) (h:longZ k l=r) (w:World):Calls Tryz.prog 92 #[.agg #[.string s,.int .i64 k,.int .i64 l]] w fun e w'=>e=.returned (.int .i64 r)∧Below w.heap.size w w':=h▸rLong_calls s k l w
theorem rFits_is (n width:Int) (s:Bool) (h0:0≤n) (h1:n<18446744073709551616) (r:Bool) (h:fitsB n width s=r) (w:World):Calls Tryz.prog 160 #[.int .u64 n,.int .i64 width,.bool s] w fun e w'=>e=.returned (.bool r)∧w=w':=h▸rFits_calls n width s h0 h1 w
theorem rRight_calls5 (vk bits:Int) (tx s:ByteArray) (k l:Int) (h0:0≤bits) (h1:bits<18446744073709551616) (w:World):
 Calls Tryz.prog 115 #[.agg #[.int .i64 vk,.int .u64 bits,.string tx],.agg #[.string s,.int .i64 k,.int .i64 l]] w fun e w'=>e=.returned (.bool (rightB vk bits tx k l))∧Below w.heap.size w w':=by
 have HB:=below_new (w:=w) (.cells #[.int .i64 vk,.int .u64 bits,.string tx] 71)
 obtain⟨r,hr⟩:∃r,mayB k l=r:=⟨_,rfl⟩
 have H:=J0 hr
 clear hr
 cases r
 ·go_enter Tryz.func115,Tryz.ntmps115
  go_wp2_with (first|(go_at_call 113;refine(rMay_is _ _ _ _ H.out _).mono ?_;rintro e w1 ⟨rfl,hb⟩;obtain⟨hc,hf⟩:=bcell hb;obtain⟨z0,z1⟩:w.heap.size<w1.heap.size∧w.heap.size+1<w1.heap.size:=(by have hz_:=hb.size;(try simp at hz_);omega);have n_:Below w.heap.size w _:=below_seq (by repeat (first|exact HB|refine J8 ?_ (by dsimp only;omega) _|refine Jk ?_ (by have hs_:=HB.size;first|(simp;done)|(simp;omega)|omega) _|apply Jv)) hb;clear HB;have HB:=n_;clear n_))
  go_ret
  exact⟨ret_bool (by simp[rightB,H.out]),HB⟩
 ·obtain⟨rk,hrk⟩:∃b,decide (9<k)=b:=⟨_,rfl⟩
  have hk9:(rk=true↔9<k):=by rw[←hrk];simp
  by_cases hv:vk=k
  ·subst hv
   by_cases hk:vk=12
   ·subst hk
    clear hrk hk9
    go_enter Tryz.func115,Tryz.ntmps115
    go_wp2_with (first|(go_at_call 113;refine(rMay_is _ _ _ _ H.out _).mono ?_;rintro e w1 ⟨rfl,hb⟩;obtain⟨hc,hf⟩:=bcell hb;obtain⟨z0,z1⟩:w.heap.size<w1.heap.size∧w.heap.size+1<w1.heap.size:=(by have hz_:=hb.size;(try simp at hz_);omega);have n_:Below w.heap.size w _:=below_seq (by repeat (first|exact HB|refine J8 ?_ (by dsimp only;omega) _|refine Jk ?_ (by have hs_:=HB.size;first|(simp;done)|(simp;omega)|omega) _|apply Jv)) hb;clear HB;have HB:=n_;clear n_))
    all_goals
     go_ret
     refine⟨ret_bool ?_,HB⟩
     rw[rightB,H.out]
     simp[fitB, *]
     try grind
   ·have e12:(vk == 12)=false:=by simpa using hk
    by_cases ht:tx.toList=[]
    ·have ht1:(!tx.toList.isEmpty)=false:=by simp[ht]
     have hsz:(tx.size:Int)=0:=by
      rw[←bl_length,bl,←ByteArray.toList_eq,ht];rfl
     have HZ:=J0 hsz
     clear hsz ht
     by_cases hk9':vk=9
     ·subst hk9'
      clear hrk hk9
      go_enter Tryz.func115,Tryz.ntmps115
      go_wp2_with (first|(go_at_call 113;refine(rMay_is _ _ _ _ H.out _).mono ?_;rintro e w1 ⟨rfl,hb⟩;obtain⟨hc,hf⟩:=bcell hb;obtain⟨z0,z1⟩:w.heap.size<w1.heap.size∧w.heap.size+1<w1.heap.size:=(by have hz_:=hb.size;(try simp at hz_);omega);have n_:Below w.heap.size w _:=below_seq (by repeat (first|exact HB|refine J8 ?_ (by dsimp only;omega) _|refine Jk ?_ (by have hs_:=HB.size;first|(simp;done)|(simp;omega)|omega) _|apply Jv)) hb;clear HB;have HB:=n_;clear n_))
      go_ret
      refine⟨ret_bool ?_,HB⟩
      rw[rightB,H.out,HZ.out,Qx]
      simp[fitB]
      omega
     ·have e9:(vk == 9)=false:=by simpa using hk9'
      obtain⟨q,hq⟩:∃q,fitsB bits (longZ vk l) (decide (4<vk))=q:=⟨_,rfl⟩
      have hpos:=(size_pos vk).1 (mayB_of H.out hk).2
      have hfit:fitB bits vk l=(rk || q):=by
       rw[fitB,if_neg hk,if_neg hk9']
       by_cases h9:9<vk
       ·have:rk=true:=hk9.2 h9
        rw[this];simp;omega
       ·have h8:rk=false:=by cases hh:rk;rfl;exact absurd (hk9.1 hh) h9
        have hb:btw 5 vk 8=decide (4<vk):=by rw[Qx];simp[btw];omega
        rw[h8,hb,hq,decide_eq_false (show ¬vk=10 by omega),decide_eq_false (show ¬vk=11 by omega)];simp
      have HF:=J0 hfit
      have HQ:=J0 hq
      have HK:=J0 hk
      clear hfit hq hpos hk9 hk hk9'
      cases rk
      all_goals
       go_enter Tryz.func115,Tryz.ntmps115
       go_wp2_with (first|(go_at_call 113;refine(rMay_is _ _ _ _ H.out _).mono ?_;rintro e w1 ⟨rfl,hb⟩;obtain⟨hc,hf⟩:=bcell hb;obtain⟨z0,z1⟩:w.heap.size<w1.heap.size∧w.heap.size+1<w1.heap.size:=(by have hz_:=hb.size;(try simp at hz_);omega);have n_:Below w.heap.size w _:=below_seq (by repeat (first|exact HB|refine J8 ?_ (by dsimp only;omega) _|refine Jk ?_ (by have hs_:=HB.size;first|(simp;done)|(simp;omega)|omega) _|apply Jv)) hb;clear HB;have HB:=n_;clear n_))
       have g1:FBox w1 (w.heap.size+1) s vk l:=⟨by rw[hc _ _ (by simp)];simp[go_sem],by rw[hc _ _ (by simp)];simp[go_sem],by rw[hc _ _ (by simp)];simp[go_sem]⟩
       have g2:VBox w1 w.heap.size vk bits tx:=⟨by rw[hc _ _ (by simp;omega)];simp[go_sem],by rw[hc _ _ (by simp;omega)];simp[go_sem],by rw[hc _ _ (by simp;omega)];simp[go_sem]⟩
       refine RW.start (fun w'=>Below w.heap.size w w'∧FBox w' (w.heap.size+1) s vk l∧VBox w' w.heap.size vk bits tx) (by kernel_rfl) (by kernel_rfl) ⟨HB.drew,g1,g2⟩ ?_
       clear g1 g2 hc hf hb HB z0 z1
       repeat (first
        |(refine' RW.val (by rfl) ?_ ?_;rotate_left;(focus (intro w' hS;obtain⟨HB,⟨c0,c1,c2⟩,⟨d0,d1,d2⟩⟩:=hS;go_simp;rfl));simp only[Act.put,J1,J3,J2])
        |(refine RW.off (by rfl) ?_;simp only[Act.put,J1,J3,J2])
        |(refine' RW.call (by rfl) ?_ ?_ ?_
          rotate_left 3
          (focus (intro w' hS;obtain⟨HB,⟨c0,c1,c2⟩,⟨d0,d1,d2⟩⟩:=hS;go_simp;exact⟨rfl,rfl⟩))
          (focus
            intro w' hS
            obtain⟨HB,⟨c0,c1,c2⟩,⟨d0,d1,d2⟩⟩:=hS
            first
             |(refine(rLong_calls _ _ _ _).mono ?_;rintro e w1 ⟨rfl,hb⟩;exact⟨rfl,⟨(below_seq HB hb),⟨(cell_below (B:=0) hb c0),(cell_below (B:=0) hb c1),(cell_below (B:=0) hb c2)⟩,⟨(cell_below (B:=0) hb d0),(cell_below (B:=0) hb d1),(cell_below (B:=0) hb d2)⟩⟩⟩)
             |(refine(rFits_is _ _ _ h0 h1 _ HQ.out _).mono ?_;rintro e w1 ⟨rfl,rfl⟩;exact⟨rfl,⟨HB,⟨c0,c1,c2⟩,⟨d0,d1,d2⟩⟩⟩))
          simp only[Act.put,J1,J3,J2]))
       refine RW.done (fun w' hS=>?_)
       obtain⟨HB,⟨c0,c1,c2⟩,⟨d0,d1,d2⟩⟩:=hS
       go_wp2
       go_ret
       exact⟨ret_bool (by rw[rightB,H.out,HZ.out,HF.out,if_neg HK.out];simp),HB⟩
    ·have ht1:(!tx.toList.isEmpty)=true:=by simpa using ht
     have hsz:¬(tx.size:Int)=0:=by
      intro h
      apply ht
      rw[ByteArray.toList_eq]
      exact List.eq_nil_of_length_eq_zero (by have:=bl_length tx;rw[bl] at this;omega)
     have HZ:=J0 hsz
     clear hsz ht hrk hk9
     go_enter Tryz.func115,Tryz.ntmps115
     go_wp2_with (first|(go_at_call 113;refine(rMay_is _ _ _ _ H.out _).mono ?_;rintro e w1 ⟨rfl,hb⟩;obtain⟨hc,hf⟩:=bcell hb;obtain⟨z0,z1⟩:w.heap.size<w1.heap.size∧w.heap.size+1<w1.heap.size:=(by have hz_:=hb.size;(try simp at hz_);omega);have n_:Below w.heap.size w _:=below_seq (by repeat (first|exact HB|refine J8 ?_ (by dsimp only;omega) _|refine Jk ?_ (by have hs_:=HB.size;first|(simp;done)|(simp;omega)|omega) _|apply Jv)) hb;clear HB;have HB:=n_;clear n_))
     go_ret
     refine⟨ret_bool ?_,HB⟩
     rw[rightB,H.out,if_neg hk,decide_eq_false HZ.out]
     simp
  ·have hv':(vk != k)=true:=by simpa using hv
   clear hrk hk9
   go_enter Tryz.func115,Tryz.ntmps115
   go_wp2_with (first|(go_at_call 113;refine(rMay_is _ _ _ _ H.out _).mono ?_;rintro e w1 ⟨rfl,hb⟩;obtain⟨hc,hf⟩:=bcell hb;obtain⟨z0,z1⟩:w.heap.size<w1.heap.size∧w.heap.size+1<w1.heap.size:=(by have hz_:=hb.size;(try simp at hz_);omega);have n_:Below w.heap.size w _:=below_seq (by repeat (first|exact HB|refine J8 ?_ (by dsimp only;omega) _|refine Jk ?_ (by have hs_:=HB.size;first|(simp;done)|(simp;omega)|omega) _|apply Jv)) hb;clear HB;have HB:=n_;clear n_))
   go_ret
   refine⟨ret_bool ?_,HB⟩
   rw[rightB,H.out]
   simp[hv]
end
end Go.Proofs.YteembinfgbapgaaGreat
