/- Merged out of: Ks Kt Ma Mb. -/
import Derived.Test.YteembinfgbapgaaGreatC00
import Derived.Test.YteembinfgbapgaaGreatC11
import Derived.Deep.DeepCutAuto
import Derived.Test.YteembinfgbapgaaGreatC10
set_option linter.unusedSimpArgs false
set_option linter.unusedVariables false
set_option maxRecDepth 100000
set_option maxHeartbeats 8000000
namespace Go.Proofs.YteembinfgbapgaaGreat
section
open Go.RowKit
theorem rFloat_calls (b:Int) (minus:Bool) (h0:0≤b) (h1:b<18446744073709551616) (w:World):Calls Tryz.prog 118 #[.int .u64 b,.bool minus] w fun e w'=>e=.returned (.int .u64 (refF b.toNat minus))∧w=w':=by
 obtain⟨m,rfl⟩:=Int.eq_ofNat_of_zero_le h0
 rw[Int.toNat_natCast]
 by_cases h:m=0
 ·subst h;exact rFloat_zero minus w
 ·have e:refF m minus=(fBits minus m:Int):=by rw[refF,if_neg h]
  rw[e]
  by_cases hL:52<m.log2
  ·exact rFloat_big m h (by omega) hL minus _ rfl w
  ·exact rFloat_small m h (by omega) (by omega) minus _ rfl w
theorem refF_plain (m:Nat):refF m false=(fBits false m:Int):=by
 unfold refF
 split
 ·rename_i h;subst h;rfl
 ·rfl
theorem refF_minus (m:Nat) (h:m≠0):refF m true=(fBits true m:Int):=by rw[refF,if_neg h]
theorem rCasts_is (s s2:ByteArray) (k l k2 l2:Int) (r:Bool) (h:castsB k l k2 l2=r) (w:World):Calls Tryz.prog 116 #[.agg #[.string s,.int .i64 k,.int .i64 l],.agg #[.string s2,.int .i64 k2,.int .i64 l2]] w fun e w'=>e=.returned (.bool r)∧Below w.heap.size w w':=h▸rCasts_calls s s2 k l k2 l2 w
theorem rCast_wrong (vk bits:Int) (tx s s2:ByteArray) (k l k2 l2:Int) (h0:0≤bits) (h1:bits<18446744073709551616) (hr:rightB vk bits tx k l=false) (w:World):
 Calls Tryz.prog 80 #[.agg #[.int .i64 vk,.int .u64 bits,.string tx],.agg #[.string s,.int .i64 k,.int .i64 l],.agg #[.string s2,.int .i64 k2,.int .i64 l2]] w fun e w'=>e=.returned (.tuple #[.agg #[.int .i64 0,.int .u64 0,.string ⟨#[]⟩],.int .i64 50])∧Below w.heap.size w w':=by
 have HB:Below w.heap.size w ((((w.alloc (.cells #[.int .i64 vk,.int .u64 bits,.string tx] 71)).alloc (.cells #[.string s,.int .i64 k,.int .i64 l] 68)).alloc (.cells #[.string s2,.int .i64 k2,.int .i64 l2] 68)).alloc (.cells #[.int .i64 0,.int .u64 0,.string ⟨#[]⟩] 71)):=(((below_new _).alloc (by simp) _).alloc (by simp;omega) _).alloc (by simp;omega) _
 have hss:=setCell_twice
 have HR:=J0 hr
 clear hr
 go_enter Tryz.func80,Tryz.ntmps80
 go_wp2_with (first
  |(go_at_call 115;refine(rRight_is5 _ _ _ _ _ _ h0 h1 _ HR.out _).mono ?_;rintro e w1 ⟨rfl,hb⟩;obtain⟨hc,hf⟩:=bcell hb;obtain⟨z0,z1,z2,z3⟩:w.heap.size<w1.heap.size∧w.heap.size+1<w1.heap.size∧w.heap.size+1+1<w1.heap.size∧w.heap.size+1+1+1<w1.heap.size:=(by have hz_:=hb.size;(try simp at hz_);omega);have n_:Below w.heap.size w _:=below_seq (by repeat (first|exact HB|refine J8 ?_ (by dsimp only;omega) _|refine Jk ?_ (by have hs_:=HB.size;first|(simp;done)|(simp;omega)|omega) _|apply Jv)) hb;clear HB;have HB:=n_;clear n_))
 refine bodyPost_ret (v:=.tuple #[.agg #[.int .i64 0,.int .u64 0,.string (⟨#[]⟩:ByteArray)],.int .i64 50]) (by simp[results,Tryz.results80,go_sem, *]) rfl ⟨rfl,?_⟩
 (repeat (first|exact HB|refine J8 ?_ (by dsimp only;omega) _|refine Jk ?_ (by have hs_:=HB.size;first|(simp;done)|(simp;omega)|omega) _|apply Jv))
theorem rCast_not (vk bits:Int) (tx s s2:ByteArray) (k l k2 l2:Int) (h0:0≤bits) (h1:bits<18446744073709551616) (hr:rightB vk bits tx k l=true) (hc:castsB k l k2 l2=false) (w:World):
 Calls Tryz.prog 80 #[.agg #[.int .i64 vk,.int .u64 bits,.string tx],.agg #[.string s,.int .i64 k,.int .i64 l],.agg #[.string s2,.int .i64 k2,.int .i64 l2]] w fun e w'=>e=.returned (.tuple #[.agg #[.int .i64 0,.int .u64 0,.string ⟨#[]⟩],.int .i64 51])∧Below w.heap.size w w':=by
 have HB:Below w.heap.size w ((((w.alloc (.cells #[.int .i64 vk,.int .u64 bits,.string tx] 71)).alloc (.cells #[.string s,.int .i64 k,.int .i64 l] 68)).alloc (.cells #[.string s2,.int .i64 k2,.int .i64 l2] 68)).alloc (.cells #[.int .i64 0,.int .u64 0,.string ⟨#[]⟩] 71)):=(((below_new _).alloc (by simp) _).alloc (by simp;omega) _).alloc (by simp;omega) _
 have hss:=setCell_twice
 have HR:=J0 hr
 have HC:=J0 hc
 clear hr hc
 go_enter Tryz.func80,Tryz.ntmps80
 go_wp2_with (first
  |(go_at_call 115;refine(rRight_is5 _ _ _ _ _ _ h0 h1 _ HR.out _).mono ?_;rintro e w1 ⟨rfl,hb⟩;obtain⟨hc,hf⟩:=bcell hb;obtain⟨z0,z1,z2,z3⟩:w.heap.size<w1.heap.size∧w.heap.size+1<w1.heap.size∧w.heap.size+1+1<w1.heap.size∧w.heap.size+1+1+1<w1.heap.size:=(by have hz_:=hb.size;(try simp at hz_);omega);have n_:Below w.heap.size w _:=below_seq (by repeat (first|exact HB|refine J8 ?_ (by dsimp only;omega) _|refine Jk ?_ (by have hs_:=HB.size;first|(simp;done)|(simp;omega)|omega) _|apply Jv)) hb;clear HB;have HB:=n_;clear n_)
  |(go_at_call 116;refine(rCasts_is _ _ _ _ _ _ _ HC.out _).mono ?_;rintro e w2 ⟨rfl,hb⟩;obtain⟨hc,hf⟩:=bcell hb;obtain⟨z0,z1,z2,z3⟩:w.heap.size<w2.heap.size∧w.heap.size+1<w2.heap.size∧w.heap.size+1+1<w2.heap.size∧w.heap.size+1+1+1<w2.heap.size:=(by have hz_:=hb.size;(try simp at hz_);omega);have n_:Below w.heap.size w _:=below_seq (by repeat (first|exact HB|refine J8 ?_ (by dsimp only;omega) _|refine Jk ?_ (by have hs_:=HB.size;first|(simp;done)|(simp;omega)|omega) _|apply Jv)) hb;clear HB;have HB:=n_;clear n_))
 refine bodyPost_ret (v:=.tuple #[.agg #[.int .i64 0,.int .u64 0,.string (⟨#[]⟩:ByteArray)],.int .i64 51]) (by simp[results,Tryz.results80,go_sem, *]) rfl ⟨rfl,?_⟩
 (repeat (first|exact HB|refine J8 ?_ (by dsimp only;omega) _|refine Jk ?_ (by have hs_:=HB.size;first|(simp;done)|(simp;omega)|omega) _|apply Jv))
theorem rCast_a (vk bits:Int) (tx s s2:ByteArray) (k l k2 l2:Int) (h0:0≤bits) (h1:bits<18446744073709551616) (hr:rightB vk bits tx k l=true) (hc:castsB k l k2 l2=true) (a12:(k2 == 12)=false) (a10:(k2 == 10)=true) (b4:decide (k≤4)=true) (hb:1≤k) (w:World):
 Calls Tryz.prog 80 #[.agg #[.int .i64 vk,.int .u64 bits,.string tx],.agg #[.string s,.int .i64 k,.int .i64 l],.agg #[.string s2,.int .i64 k2,.int .i64 l2]] w fun e w'=>e=.returned (.tuple #[.agg #[.int .i64 k2,.int .u64 (castZ bits k k2),.string ⟨#[]⟩],.int .i64 0])∧Below w.heap.size w w':=by
 have HB:Below w.heap.size w ((((w.alloc (.cells #[.int .i64 vk,.int .u64 bits,.string tx] 71)).alloc (.cells #[.string s,.int .i64 k,.int .i64 l] 68)).alloc (.cells #[.string s2,.int .i64 k2,.int .i64 l2] 68)).alloc (.cells #[.int .i64 0,.int .u64 0,.string ⟨#[]⟩] 71)):=(((below_new _).alloc (by simp) _).alloc (by simp;omega) _).alloc (by simp;omega) _
 have hss:=setCell_twice
 have HR:=J0 hr
 have HC:=J0 hc
 have e:castZ bits k k2=fBits false bits.toNat:=by rw[castZ,if_pos ⟨by simpa using a10,btw_iff.2 ⟨hb,by simpa using b4⟩⟩]
 obtain⟨z,hz⟩:∃z:Int,(fBits false bits.toNat:Int)=z:=⟨_,rfl⟩
 rw[hz] at e
 rw[e]
 have F1:Hid (refF bits.toNat false=z):=J0 ((refF_plain _).trans hz)
 have a8:(k2 == 8)=false:=by simp at a10 ⊢;omega
 have b5:decide (5≤k)=false:=by simp at b4 ⊢;omega
 clear e hz hb
 clear hr hc
 go_enter Tryz.func80,Tryz.ntmps80
 go_wp2_with (first
  |(go_at_call 115;refine(rRight_is5 _ _ _ _ _ _ h0 h1 _ HR.out _).mono ?_;rintro e w1 ⟨rfl,hb⟩;obtain⟨hc,hf⟩:=bcell hb;obtain⟨z0,z1,z2,z3⟩:w.heap.size<w1.heap.size∧w.heap.size+1<w1.heap.size∧w.heap.size+1+1<w1.heap.size∧w.heap.size+1+1+1<w1.heap.size:=(by have hz_:=hb.size;(try simp at hz_);omega);have n_:Below w.heap.size w _:=below_seq (by repeat (first|exact HB|refine J8 ?_ (by dsimp only;omega) _|refine Jk ?_ (by have hs_:=HB.size;first|(simp;done)|(simp;omega)|omega) _|apply Jv)) hb;clear HB;have HB:=n_;clear n_)
  |(go_at_call 116;refine(rCasts_is _ _ _ _ _ _ _ HC.out _).mono ?_;rintro e w2 ⟨rfl,hb⟩;obtain⟨hc,hf⟩:=bcell hb;obtain⟨z0,z1,z2,z3⟩:w.heap.size<w2.heap.size∧w.heap.size+1<w2.heap.size∧w.heap.size+1+1<w2.heap.size∧w.heap.size+1+1+1<w2.heap.size:=(by have hz_:=hb.size;(try simp at hz_);omega);have n_:Below w.heap.size w _:=below_seq (by repeat (first|exact HB|refine J8 ?_ (by dsimp only;omega) _|refine Jk ?_ (by have hs_:=HB.size;first|(simp;done)|(simp;omega)|omega) _|apply Jv)) hb;clear HB;have HB:=n_;clear n_)
  |(go_at_call 118;refine(rFloat_calls _ _ (by omega) (by omega) _).mono ?_;rintro e w' ⟨rfl,rfl⟩;rw[F1.out]))
 refine bodyPost_ret (v:=.tuple #[.agg #[.int .i64 k2,.int .u64 z,.string (⟨#[]⟩:ByteArray)],.int .i64 0]) (by simp[results,Tryz.results80,go_sem, *]) rfl ⟨rfl,?_⟩
 (repeat (first|exact HB|refine J8 ?_ (by dsimp only;omega) _|refine Jk ?_ (by have hs_:=HB.size;first|(simp;done)|(simp;omega)|omega) _|apply Jv))
theorem rCast_b (vk bits:Int) (tx s s2:ByteArray) (k l k2 l2:Int) (h0:0≤bits) (h1:bits<18446744073709551616) (hr:rightB vk bits tx k l=true) (hc:castsB k l k2 l2=true) (a12:(k2 == 12)=false) (a10:(k2 == 10)=true) (b4:decide (k≤4)=false) (b8:decide (k≤8)=true) (hs:decide (9223372036854775808≤bits)=false) (w:World):
 Calls Tryz.prog 80 #[.agg #[.int .i64 vk,.int .u64 bits,.string tx],.agg #[.string s,.int .i64 k,.int .i64 l],.agg #[.string s2,.int .i64 k2,.int .i64 l2]] w fun e w'=>e=.returned (.tuple #[.agg #[.int .i64 k2,.int .u64 (castZ bits k k2),.string ⟨#[]⟩],.int .i64 0])∧Below w.heap.size w w':=by
 have HB:Below w.heap.size w ((((w.alloc (.cells #[.int .i64 vk,.int .u64 bits,.string tx] 71)).alloc (.cells #[.string s,.int .i64 k,.int .i64 l] 68)).alloc (.cells #[.string s2,.int .i64 k2,.int .i64 l2] 68)).alloc (.cells #[.int .i64 0,.int .u64 0,.string ⟨#[]⟩] 71)):=(((below_new _).alloc (by simp) _).alloc (by simp;omega) _).alloc (by simp;omega) _
 have hss:=setCell_twice
 have HR:=J0 hr
 have HC:=J0 hc
 have e:castZ bits k k2=fBits false bits.toNat:=by
  simp at a10 b4 b8 hs
  rw[castZ,if_neg (by simp[btw];omega),if_pos ⟨a10,btw_iff.2 ⟨by omega,b8⟩⟩,if_neg (by omega)]
 obtain⟨z,hz⟩:∃z:Int,(fBits false bits.toNat:Int)=z:=⟨_,rfl⟩
 rw[hz] at e
 rw[e]
 have F1:Hid (refF bits.toNat false=z):=J0 ((refF_plain _).trans hz)
 have a8:(k2 == 8)=false:=by simp at a10 ⊢;omega
 have b5:decide (5≤k)=true:=by simp at b4 ⊢;omega
 clear e hz
 clear hr hc
 go_enter Tryz.func80,Tryz.ntmps80
 go_wp2_with (first
  |(go_at_call 115;refine(rRight_is5 _ _ _ _ _ _ h0 h1 _ HR.out _).mono ?_;rintro e w1 ⟨rfl,hb⟩;obtain⟨hc,hf⟩:=bcell hb;obtain⟨z0,z1,z2,z3⟩:w.heap.size<w1.heap.size∧w.heap.size+1<w1.heap.size∧w.heap.size+1+1<w1.heap.size∧w.heap.size+1+1+1<w1.heap.size:=(by have hz_:=hb.size;(try simp at hz_);omega);have n_:Below w.heap.size w _:=below_seq (by repeat (first|exact HB|refine J8 ?_ (by dsimp only;omega) _|refine Jk ?_ (by have hs_:=HB.size;first|(simp;done)|(simp;omega)|omega) _|apply Jv)) hb;clear HB;have HB:=n_;clear n_)
  |(go_at_call 116;refine(rCasts_is _ _ _ _ _ _ _ HC.out _).mono ?_;rintro e w2 ⟨rfl,hb⟩;obtain⟨hc,hf⟩:=bcell hb;obtain⟨z0,z1,z2,z3⟩:w.heap.size<w2.heap.size∧w.heap.size+1<w2.heap.size∧w.heap.size+1+1<w2.heap.size∧w.heap.size+1+1+1<w2.heap.size:=(by have hz_:=hb.size;(try simp at hz_);omega);have n_:Below w.heap.size w _:=below_seq (by repeat (first|exact HB|refine J8 ?_ (by dsimp only;omega) _|refine Jk ?_ (by have hs_:=HB.size;first|(simp;done)|(simp;omega)|omega) _|apply Jv)) hb;clear HB;have HB:=n_;clear n_)
  |(go_at_call 118;refine(rFloat_calls _ _ (by omega) (by omega) _).mono ?_;rintro e w' ⟨rfl,rfl⟩;rw[F1.out]))
 refine bodyPost_ret (v:=.tuple #[.agg #[.int .i64 k2,.int .u64 z,.string (⟨#[]⟩:ByteArray)],.int .i64 0]) (by simp[results,Tryz.results80,go_sem, *]) rfl ⟨rfl,?_⟩
 (repeat (first|exact HB|refine J8 ?_ (by dsimp only;omega) _|refine Jk ?_ (by have hs_:=HB.size;first|(simp;done)|(simp;omega)|omega) _|apply Jv))
theorem rCast_c (vk bits:Int) (tx s s2:ByteArray) (k l k2 l2:Int) (h0:0≤bits) (h1:bits<18446744073709551616) (hr:rightB vk bits tx k l=true) (hc:castsB k l k2 l2=true) (a12:(k2 == 12)=false) (a10:(k2 == 10)=true) (b4:decide (k≤4)=false) (b8:decide (k≤8)=true) (hs:decide (9223372036854775808≤bits)=true) (w:World):
 Calls Tryz.prog 80 #[.agg #[.int .i64 vk,.int .u64 bits,.string tx],.agg #[.string s,.int .i64 k,.int .i64 l],.agg #[.string s2,.int .i64 k2,.int .i64 l2]] w fun e w'=>e=.returned (.tuple #[.agg #[.int .i64 k2,.int .u64 (castZ bits k k2),.string ⟨#[]⟩],.int .i64 0])∧Below w.heap.size w w':=by
 have HB:Below w.heap.size w ((((w.alloc (.cells #[.int .i64 vk,.int .u64 bits,.string tx] 71)).alloc (.cells #[.string s,.int .i64 k,.int .i64 l] 68)).alloc (.cells #[.string s2,.int .i64 k2,.int .i64 l2] 68)).alloc (.cells #[.int .i64 0,.int .u64 0,.string ⟨#[]⟩] 71)):=(((below_new _).alloc (by simp) _).alloc (by simp;omega) _).alloc (by simp;omega) _
 have hss:=setCell_twice
 have HR:=J0 hr
 have HC:=J0 hc
 have e:castZ bits k k2=fBits true (18446744073709551616 - bits).toNat:=by
  simp at a10 b4 b8 hs
  rw[castZ,if_neg (by simp[btw];omega),if_pos ⟨a10,btw_iff.2 ⟨by omega,b8⟩⟩,if_pos (by omega)]
 obtain⟨z,hz⟩:∃z:Int,(fBits true (18446744073709551616 - bits).toNat:Int)=z:=⟨_,rfl⟩
 rw[hz] at e
 rw[e]
 have hng:IntKind.wrap .u64 (-bits)=18446744073709551616 - bits:=by simp at hs;simp[IntKind.wrap,IntKind.signed,IntKind.bits];omega
 have hs':9223372036854775808≤bits:=by simpa using hs
 obtain⟨z0,F1⟩:∃z0,Hid (refF bits.toNat false=z0):=⟨_,J0 rfl⟩
 have F2:Hid (refF (18446744073709551616 - bits).toNat true=z):=J0 ((refF_minus _ (by omega)).trans hz)
 have a8:(k2 == 8)=false:=by simp at a10 ⊢;omega
 have b5:decide (5≤k)=true:=by simp at b4 ⊢;omega
 clear e hz
 clear hr hc
 go_enter Tryz.func80,Tryz.ntmps80
 go_wp2_with (first
  |(go_at_call 115;refine(rRight_is5 _ _ _ _ _ _ h0 h1 _ HR.out _).mono ?_;rintro e w1 ⟨rfl,hb⟩;obtain⟨hc,hf⟩:=bcell hb;obtain⟨z0,z1,z2,z3⟩:w.heap.size<w1.heap.size∧w.heap.size+1<w1.heap.size∧w.heap.size+1+1<w1.heap.size∧w.heap.size+1+1+1<w1.heap.size:=(by have hz_:=hb.size;(try simp at hz_);omega);have n_:Below w.heap.size w _:=below_seq (by repeat (first|exact HB|refine J8 ?_ (by dsimp only;omega) _|refine Jk ?_ (by have hs_:=HB.size;first|(simp;done)|(simp;omega)|omega) _|apply Jv)) hb;clear HB;have HB:=n_;clear n_)
  |(go_at_call 116;refine(rCasts_is _ _ _ _ _ _ _ HC.out _).mono ?_;rintro e w2 ⟨rfl,hb⟩;obtain⟨hc,hf⟩:=bcell hb;obtain⟨z0,z1,z2,z3⟩:w.heap.size<w2.heap.size∧w.heap.size+1<w2.heap.size∧w.heap.size+1+1<w2.heap.size∧w.heap.size+1+1+1<w2.heap.size:=(by have hz_:=hb.size;(try simp at hz_);omega);have n_:Below w.heap.size w _:=below_seq (by repeat (first|exact HB|refine J8 ?_ (by dsimp only;omega) _|refine Jk ?_ (by have hs_:=HB.size;first|(simp;done)|(simp;omega)|omega) _|apply Jv)) hb;clear HB;have HB:=n_;clear n_)
  |(go_at_call 118;refine(rFloat_calls _ _ (by omega) (by omega) _).mono ?_;rintro e w' ⟨rfl,rfl⟩;(first|rw[F1.out]|rw[F2.out])))
 refine bodyPost_ret (v:=.tuple #[.agg #[.int .i64 k2,.int .u64 z,.string (⟨#[]⟩:ByteArray)],.int .i64 0]) (by simp[results,Tryz.results80,go_sem, *]) rfl ⟨rfl,?_⟩
 (repeat (first|exact HB|refine J8 ?_ (by dsimp only;omega) _|refine Jk ?_ (by have hs_:=HB.size;first|(simp;done)|(simp;omega)|omega) _|apply Jv))
theorem rCast_d (vk bits:Int) (tx s s2:ByteArray) (k l k2 l2:Int) (h0:0≤bits) (h1:bits<18446744073709551616) (hr:rightB vk bits tx k l=true) (hc:castsB k l k2 l2=true) (a12:(k2 == 12)=false) (a10:(k2 == 10)=true) (b4:decide (k≤4)=false) (b8:decide (k≤8)=false) (w:World):
 Calls Tryz.prog 80 #[.agg #[.int .i64 vk,.int .u64 bits,.string tx],.agg #[.string s,.int .i64 k,.int .i64 l],.agg #[.string s2,.int .i64 k2,.int .i64 l2]] w fun e w'=>e=.returned (.tuple #[.agg #[.int .i64 k2,.int .u64 (castZ bits k k2),.string ⟨#[]⟩],.int .i64 0])∧Below w.heap.size w w':=by
 have HB:Below w.heap.size w ((((w.alloc (.cells #[.int .i64 vk,.int .u64 bits,.string tx] 71)).alloc (.cells #[.string s,.int .i64 k,.int .i64 l] 68)).alloc (.cells #[.string s2,.int .i64 k2,.int .i64 l2] 68)).alloc (.cells #[.int .i64 0,.int .u64 0,.string ⟨#[]⟩] 71)):=(((below_new _).alloc (by simp) _).alloc (by simp;omega) _).alloc (by simp;omega) _
 have hss:=setCell_twice
 have HR:=J0 hr
 have HC:=J0 hc
 have e:castZ bits k k2=bits:=by
  simp at a10 b4 b8
  rw[castZ,if_neg (by simp[btw];omega),if_neg (by simp[btw];omega),if_neg (by omega)]
 rw[e]
 have a8:(k2 == 8)=false:=by simp at a10 ⊢;omega
 have b5:decide (5≤k)=true:=by simp at b4 ⊢;omega
 clear e
 clear hr hc
 go_enter Tryz.func80,Tryz.ntmps80
 go_wp2_with (first
  |(go_at_call 115;refine(rRight_is5 _ _ _ _ _ _ h0 h1 _ HR.out _).mono ?_;rintro e w1 ⟨rfl,hb⟩;obtain⟨hc,hf⟩:=bcell hb;obtain⟨z0,z1,z2,z3⟩:w.heap.size<w1.heap.size∧w.heap.size+1<w1.heap.size∧w.heap.size+1+1<w1.heap.size∧w.heap.size+1+1+1<w1.heap.size:=(by have hz_:=hb.size;(try simp at hz_);omega);have n_:Below w.heap.size w _:=below_seq (by repeat (first|exact HB|refine J8 ?_ (by dsimp only;omega) _|refine Jk ?_ (by have hs_:=HB.size;first|(simp;done)|(simp;omega)|omega) _|apply Jv)) hb;clear HB;have HB:=n_;clear n_)
  |(go_at_call 116;refine(rCasts_is _ _ _ _ _ _ _ HC.out _).mono ?_;rintro e w2 ⟨rfl,hb⟩;obtain⟨hc,hf⟩:=bcell hb;obtain⟨z0,z1,z2,z3⟩:w.heap.size<w2.heap.size∧w.heap.size+1<w2.heap.size∧w.heap.size+1+1<w2.heap.size∧w.heap.size+1+1+1<w2.heap.size:=(by have hz_:=hb.size;(try simp at hz_);omega);have n_:Below w.heap.size w _:=below_seq (by repeat (first|exact HB|refine J8 ?_ (by dsimp only;omega) _|refine Jk ?_ (by have hs_:=HB.size;first|(simp;done)|(simp;omega)|omega) _|apply Jv)) hb;clear HB;have HB:=n_;clear n_))
 refine bodyPost_ret (v:=.tuple #[.agg #[.int .i64 k2,.int .u64 bits,.string (⟨#[]⟩:ByteArray)],.int .i64 0]) (by simp[results,Tryz.results80,go_sem, *]) rfl ⟨rfl,?_⟩
 (repeat (first|exact HB|refine J8 ?_ (by dsimp only;omega) _|refine Jk ?_ (by have hs_:=HB.size;first|(simp;done)|(simp;omega)|omega) _|apply Jv))
theorem rCast_e (vk bits:Int) (tx s s2:ByteArray) (k l k2 l2:Int) (h0:0≤bits) (h1:bits<18446744073709551616) (hr:rightB vk bits tx k l=true) (hc:castsB k l k2 l2=true) (a12:(k2 == 12)=false) (a10:(k2 == 10)=false) (a8:(k2 == 8)=true) (b10:(k == 10)=true) (w:World):
 Calls Tryz.prog 80 #[.agg #[.int .i64 vk,.int .u64 bits,.string tx],.agg #[.string s,.int .i64 k,.int .i64 l],.agg #[.string s2,.int .i64 k2,.int .i64 l2]] w fun e w'=>e=.returned (.tuple #[.agg #[.int .i64 k2,.int .u64 (castZ bits k k2),.string ⟨#[]⟩],.int .i64 0])∧Below w.heap.size w w':=by
 have HB:Below w.heap.size w ((((w.alloc (.cells #[.int .i64 vk,.int .u64 bits,.string tx] 71)).alloc (.cells #[.string s,.int .i64 k,.int .i64 l] 68)).alloc (.cells #[.string s2,.int .i64 k2,.int .i64 l2] 68)).alloc (.cells #[.int .i64 0,.int .u64 0,.string ⟨#[]⟩] 71)):=(((below_new _).alloc (by simp) _).alloc (by simp;omega) _).alloc (by simp;omega) _
 have hss:=setCell_twice
 have HR:=J0 hr
 have HC:=J0 hc
 have e:castZ bits k k2=wholeZ bits.toNat % 18446744073709551616:=by
  simp at a10 a8 b10
  rw[castZ,if_neg (by omega),if_neg (by omega),if_pos ⟨a8,b10⟩]
 obtain⟨z,hz⟩:∃z:Int,wholeZ bits.toNat=z:=⟨_,rfl⟩
 rw[hz] at e
 rw[e]
 have HW:=J0 hz
 have hwr:IntKind.wrap .u64 z=z % 18446744073709551616:=by simp[IntKind.wrap,IntKind.signed,go_sem]
 clear e hz
 clear hr hc
 go_enter Tryz.func80,Tryz.ntmps80
 go_wp2_with (first
  |(go_at_call 115;refine(rRight_is5 _ _ _ _ _ _ h0 h1 _ HR.out _).mono ?_;rintro e w1 ⟨rfl,hb⟩;obtain⟨hc,hf⟩:=bcell hb;obtain⟨z0,z1,z2,z3⟩:w.heap.size<w1.heap.size∧w.heap.size+1<w1.heap.size∧w.heap.size+1+1<w1.heap.size∧w.heap.size+1+1+1<w1.heap.size:=(by have hz_:=hb.size;(try simp at hz_);omega);have n_:Below w.heap.size w _:=below_seq (by repeat (first|exact HB|refine J8 ?_ (by dsimp only;omega) _|refine Jk ?_ (by have hs_:=HB.size;first|(simp;done)|(simp;omega)|omega) _|apply Jv)) hb;clear HB;have HB:=n_;clear n_)
  |(go_at_call 116;refine(rCasts_is _ _ _ _ _ _ _ HC.out _).mono ?_;rintro e w2 ⟨rfl,hb⟩;obtain⟨hc,hf⟩:=bcell hb;obtain⟨z0,z1,z2,z3⟩:w.heap.size<w2.heap.size∧w.heap.size+1<w2.heap.size∧w.heap.size+1+1<w2.heap.size∧w.heap.size+1+1+1<w2.heap.size:=(by have hz_:=hb.size;(try simp at hz_);omega);have n_:Below w.heap.size w _:=below_seq (by repeat (first|exact HB|refine J8 ?_ (by dsimp only;omega) _|refine Jk ?_ (by have hs_:=HB.size;first|(simp;done)|(simp;omega)|omega) _|apply Jv)) hb;clear HB;have HB:=n_;clear n_)
  |(go_at_call 119;refine(rWhole_calls _ (by omega) (by omega) _).mono ?_;rintro e w' ⟨rfl,rfl⟩;rw[HW.out]))
 refine bodyPost_ret (v:=.tuple #[.agg #[.int .i64 k2,.int .u64 (z % 18446744073709551616),.string (⟨#[]⟩:ByteArray)],.int .i64 0]) (by simp[results,Tryz.results80,go_sem, *]) rfl ⟨rfl,?_⟩
 (repeat (first|exact HB|refine J8 ?_ (by dsimp only;omega) _|refine Jk ?_ (by have hs_:=HB.size;first|(simp;done)|(simp;omega)|omega) _|apply Jv))
theorem rCast_f (vk bits:Int) (tx s s2:ByteArray) (k l k2 l2:Int) (h0:0≤bits) (h1:bits<18446744073709551616) (hr:rightB vk bits tx k l=true) (hc:castsB k l k2 l2=true) (a12:(k2 == 12)=false) (a10:(k2 == 10)=false) (a8:(k2 == 8)=true) (b10:(k == 10)=false) (w:World):
 Calls Tryz.prog 80 #[.agg #[.int .i64 vk,.int .u64 bits,.string tx],.agg #[.string s,.int .i64 k,.int .i64 l],.agg #[.string s2,.int .i64 k2,.int .i64 l2]] w fun e w'=>e=.returned (.tuple #[.agg #[.int .i64 k2,.int .u64 (castZ bits k k2),.string ⟨#[]⟩],.int .i64 0])∧Below w.heap.size w w':=by
 have HB:Below w.heap.size w ((((w.alloc (.cells #[.int .i64 vk,.int .u64 bits,.string tx] 71)).alloc (.cells #[.string s,.int .i64 k,.int .i64 l] 68)).alloc (.cells #[.string s2,.int .i64 k2,.int .i64 l2] 68)).alloc (.cells #[.int .i64 0,.int .u64 0,.string ⟨#[]⟩] 71)):=(((below_new _).alloc (by simp) _).alloc (by simp;omega) _).alloc (by simp;omega) _
 have hss:=setCell_twice
 have HR:=J0 hr
 have HC:=J0 hc
 have e:castZ bits k k2=bits:=by
  simp at a10 a8 b10
  rw[castZ,if_neg (by omega),if_neg (by omega),if_neg (by omega)]
 rw[e]
 clear e
 clear hr hc
 go_enter Tryz.func80,Tryz.ntmps80
 go_wp2_with (first
  |(go_at_call 115;refine(rRight_is5 _ _ _ _ _ _ h0 h1 _ HR.out _).mono ?_;rintro e w1 ⟨rfl,hb⟩;obtain⟨hc,hf⟩:=bcell hb;obtain⟨z0,z1,z2,z3⟩:w.heap.size<w1.heap.size∧w.heap.size+1<w1.heap.size∧w.heap.size+1+1<w1.heap.size∧w.heap.size+1+1+1<w1.heap.size:=(by have hz_:=hb.size;(try simp at hz_);omega);have n_:Below w.heap.size w _:=below_seq (by repeat (first|exact HB|refine J8 ?_ (by dsimp only;omega) _|refine Jk ?_ (by have hs_:=HB.size;first|(simp;done)|(simp;omega)|omega) _|apply Jv)) hb;clear HB;have HB:=n_;clear n_)
  |(go_at_call 116;refine(rCasts_is _ _ _ _ _ _ _ HC.out _).mono ?_;rintro e w2 ⟨rfl,hb⟩;obtain⟨hc,hf⟩:=bcell hb;obtain⟨z0,z1,z2,z3⟩:w.heap.size<w2.heap.size∧w.heap.size+1<w2.heap.size∧w.heap.size+1+1<w2.heap.size∧w.heap.size+1+1+1<w2.heap.size:=(by have hz_:=hb.size;(try simp at hz_);omega);have n_:Below w.heap.size w _:=below_seq (by repeat (first|exact HB|refine J8 ?_ (by dsimp only;omega) _|refine Jk ?_ (by have hs_:=HB.size;first|(simp;done)|(simp;omega)|omega) _|apply Jv)) hb;clear HB;have HB:=n_;clear n_))
 refine bodyPost_ret (v:=.tuple #[.agg #[.int .i64 k2,.int .u64 bits,.string (⟨#[]⟩:ByteArray)],.int .i64 0]) (by simp[results,Tryz.results80,go_sem, *]) rfl ⟨rfl,?_⟩
 (repeat (first|exact HB|refine J8 ?_ (by dsimp only;omega) _|refine Jk ?_ (by have hs_:=HB.size;first|(simp;done)|(simp;omega)|omega) _|apply Jv))
theorem rCast_g (vk bits:Int) (tx s s2:ByteArray) (k l k2 l2:Int) (h0:0≤bits) (h1:bits<18446744073709551616) (hr:rightB vk bits tx k l=true) (hc:castsB k l k2 l2=true) (a12:(k2 == 12)=false) (a10:(k2 == 10)=false) (a8:(k2 == 8)=false) (w:World):
 Calls Tryz.prog 80 #[.agg #[.int .i64 vk,.int .u64 bits,.string tx],.agg #[.string s,.int .i64 k,.int .i64 l],.agg #[.string s2,.int .i64 k2,.int .i64 l2]] w fun e w'=>e=.returned (.tuple #[.agg #[.int .i64 k2,.int .u64 (castZ bits k k2),.string ⟨#[]⟩],.int .i64 0])∧Below w.heap.size w w':=by
 have HB:Below w.heap.size w ((((w.alloc (.cells #[.int .i64 vk,.int .u64 bits,.string tx] 71)).alloc (.cells #[.string s,.int .i64 k,.int .i64 l] 68)).alloc (.cells #[.string s2,.int .i64 k2,.int .i64 l2] 68)).alloc (.cells #[.int .i64 0,.int .u64 0,.string ⟨#[]⟩] 71)):=(((below_new _).alloc (by simp) _).alloc (by simp;omega) _).alloc (by simp;omega) _
 have hss:=setCell_twice
 have HR:=J0 hr
 have HC:=J0 hc
 have e:castZ bits k k2=bits:=by
  simp at a10 a8
  rw[castZ,if_neg (by omega),if_neg (by omega),if_neg (by omega)]
 rw[e]
 clear e
 clear hr hc
 go_enter Tryz.func80,Tryz.ntmps80
 go_wp2_with (first
  |(go_at_call 115;refine(rRight_is5 _ _ _ _ _ _ h0 h1 _ HR.out _).mono ?_;rintro e w1 ⟨rfl,hb⟩;obtain⟨hc,hf⟩:=bcell hb;obtain⟨z0,z1,z2,z3⟩:w.heap.size<w1.heap.size∧w.heap.size+1<w1.heap.size∧w.heap.size+1+1<w1.heap.size∧w.heap.size+1+1+1<w1.heap.size:=(by have hz_:=hb.size;(try simp at hz_);omega);have n_:Below w.heap.size w _:=below_seq (by repeat (first|exact HB|refine J8 ?_ (by dsimp only;omega) _|refine Jk ?_ (by have hs_:=HB.size;first|(simp;done)|(simp;omega)|omega) _|apply Jv)) hb;clear HB;have HB:=n_;clear n_)
  |(go_at_call 116;refine(rCasts_is _ _ _ _ _ _ _ HC.out _).mono ?_;rintro e w2 ⟨rfl,hb⟩;obtain⟨hc,hf⟩:=bcell hb;obtain⟨z0,z1,z2,z3⟩:w.heap.size<w2.heap.size∧w.heap.size+1<w2.heap.size∧w.heap.size+1+1<w2.heap.size∧w.heap.size+1+1+1<w2.heap.size:=(by have hz_:=hb.size;(try simp at hz_);omega);have n_:Below w.heap.size w _:=below_seq (by repeat (first|exact HB|refine J8 ?_ (by dsimp only;omega) _|refine Jk ?_ (by have hs_:=HB.size;first|(simp;done)|(simp;omega)|omega) _|apply Jv)) hb;clear HB;have HB:=n_;clear n_))
 refine bodyPost_ret (v:=.tuple #[.agg #[.int .i64 k2,.int .u64 bits,.string (⟨#[]⟩:ByteArray)],.int .i64 0]) (by simp[results,Tryz.results80,go_sem, *]) rfl ⟨rfl,?_⟩
 (repeat (first|exact HB|refine J8 ?_ (by dsimp only;omega) _|refine Jk ?_ (by have hs_:=HB.size;first|(simp;done)|(simp;omega)|omega) _|apply Jv))
theorem rZero_v (s:ByteArray) (k l:Int) (v:Value) (h:zeroV k l=v) (w:World):Calls Tryz.prog 117 #[.agg #[.string s,.int .i64 k,.int .i64 l]] w fun e w'=>e=.returned v∧Below w.heap.size w w':=h▸rZero_calls s k l w
structure CS (w0 w:World) (q:Nat) (bits:Int) (tx s s2:ByteArray) (l n:Int):Prop where
 v:VBox w w0.heap.size 12 bits tx
 t:FBox w (w0.heap.size+1+1) s2 12 n
 r:VBox w (w0.heap.size+1+1+1) 0 0 ⟨#[]⟩
 o:VBox w q 12 bits ⟨#[]⟩
 fr:∀i,w.frozen? ⟨w0.heap.size+1+1+1,i,none⟩=false
 fo:∀i,w.frozen? ⟨q,i,none⟩=false
 hq:q<w.heap.size
theorem CS.below {w0 w w1:World} {q:Nat} {bits:Int} {tx s s2:ByteArray} {l n:Int} (h:CS w0 w q bits tx s s2 l n) (hb:Below w.heap.size w w1):CS w0 w1 q bits tx s s2 l n:=by
 have hr:=World.block_lt_of_cell? w _ h.r.1
 exact⟨h.v.below hb,h.t.below hb,h.r.below hb,h.o.below hb,fun i=>((bcell hb).2 _ i hr).trans (h.fr i),fun i=>((bcell hb).2 _ i h.hq).trans (h.fo i),by have:=hb.size;have:=h.hq;omega⟩
theorem pad_is (tx:ByteArray) (n:Nat):(tx++strL (List.replicate n 0)).extract 0 n=strL (padL (bl tx) n):=by
 have e:tx=strL (bl tx):=(strL_bl tx).symm
 rw[e,strL_append,strL_extract,bl_strL]
 congr 1
 unfold padL
 rw[List.take_append,List.take_replicate]
 congr 2
 omega
theorem rCast_12 (vk bits:Int) (tx s s2:ByteArray) (k l:Int) (n:Nat) (h0:0≤bits) (h1:bits<18446744073709551616) (hr:rightB vk bits tx k l=true) (hc:castsB k l 12 n=true) (w:World):
 Calls Tryz.prog 80 #[.agg #[.int .i64 vk,.int .u64 bits,.string tx],.agg #[.string s,.int .i64 k,.int .i64 l],.agg #[.string s2,.int .i64 12,.int .i64 n]] w fun e w'=>e=.returned (.tuple #[.agg #[.int .i64 12,.int .u64 bits,.string (strL (padL (bl tx) n))],.int .i64 0])∧Below w.heap.size w w':=by
 have hm2:=(casts_12 hc).2
 have hn:n≤64∧1≤n:=by have:=btw_iff.1 (mayB_12▸hm2);omega
 obtain⟨hm,hvk,hsz,-⟩:=right_may hr
 obtain rfl:=(casts_12 hc).1
 subst hvk
 have htl:tx.size≤64:=by
  have:=btw_iff.1 (mayB_12▸hm)
  rw[if_pos rfl] at hsz;omega
 have k2:(12:Int)=12:=rfl
 have HB:Below w.heap.size w ((((w.alloc (.cells #[.int .i64 12,.int .u64 bits,.string tx] 71)).alloc (.cells #[.string s,.int .i64 12,.int .i64 l] 68)).alloc (.cells #[.string s2,.int .i64 12,.int .i64 n] 68)).alloc (.cells #[.int .i64 0,.int .u64 0,.string ⟨#[]⟩] 71)):=(((below_new _).alloc (by simp) _).alloc (by simp;omega) _).alloc (by simp;omega) _
 have hss:=setCell_twice
 have hz:zeroV 12 n=.agg #[.int .i64 12,.int .u64 0,.string (strL (List.replicate n 0))]:=by rw[zeroV,if_pos hm2,zeroL,if_pos rfl];simp
 have HZ:=J0 hz
 have HR:=J0 hr
 have HC:=J0 hc
 have hpad:=pad_is tx n
 have hsz2:(tx++strL (List.replicate n 0)).size=tx.size+n:=by rw[ByteArray.size_append,strL_size,List.length_replicate]
 have hzs:(strL (List.replicate n 0)).size=n:=by rw[strL_size,List.length_replicate]
 generalize strL (padL (bl tx) n)=out at *
 generalize strL (List.replicate n 0)=zs at *
 have hov:¬9223372036854775807<tx.size+zs.size:=by omega
 have hov2:¬9223372036854775807<tx.size+n:=by omega
 have i2:((n:Int)≤((tx.size+n:Nat):Int)):=by omega
 have i3:((n:Int)≤(tx.size:Int)+n):=by omega
 obtain⟨n64,n1⟩:=hn
 have hap:(tx++zs).size=tx.size+zs.size:=by rw[hzs];exact hsz2
 have i1:((n:Int)≤((tx++zs).size:Int)):=by rw[hsz2];omega
 clear hr hc hz hm hm2 hsz
 go_enter Tryz.func80,Tryz.ntmps80
 go_upto_region 7 with (first
  |(go_at_call 115;refine(rRight_is5 _ _ _ _ _ _ h0 h1 _ HR.out _).mono ?_;rintro e w1 ⟨rfl,hb⟩;obtain⟨hc,hf⟩:=bcell hb;obtain⟨z0,z1,z2,z3⟩:w.heap.size<w1.heap.size∧w.heap.size+1<w1.heap.size∧w.heap.size+1+1<w1.heap.size∧w.heap.size+1+1+1<w1.heap.size:=(by have hz_:=hb.size;(try simp at hz_);omega);have n_:Below w.heap.size w _:=below_seq (by repeat (first|exact HB|refine J8 ?_ (by dsimp only;omega) _|refine Jk ?_ (by have hs_:=HB.size;first|(simp;done)|(simp;omega)|omega) _|apply Jv)) hb;clear HB;have HB:=n_;clear n_)
  |(go_at_call 116;refine(rCasts_is _ _ _ _ _ _ _ HC.out _).mono ?_;rintro e w2 ⟨rfl,hb⟩;obtain⟨hc,hf⟩:=bcell hb;obtain⟨z0,z1,z2,z3⟩:w.heap.size<w2.heap.size∧w.heap.size+1<w2.heap.size∧w.heap.size+1+1<w2.heap.size∧w.heap.size+1+1+1<w2.heap.size:=(by have hz_:=hb.size;(try simp at hz_);omega);have n_:Below w.heap.size w _:=below_seq (by repeat (first|exact HB|refine J8 ?_ (by dsimp only;omega) _|refine Jk ?_ (by have hs_:=HB.size;first|(simp;done)|(simp;omega)|omega) _|apply Jv)) hb;clear HB;have HB:=n_;clear n_))
 have g1:CS w (w2.alloc (.cells #[.int .i64 12,.int .u64 bits,.string ⟨#[]⟩] 71)) w2.heap.size bits tx s s2 l n:=
  ⟨⟨by go_simp,by go_simp,by go_simp⟩,⟨by go_simp,by go_simp,by go_simp⟩,⟨by go_simp,by go_simp,by go_simp⟩,⟨by go_simp,by go_simp,by go_simp⟩,fun i=>by go_simp,fun i=>by go_simp,by simp⟩
 have hB0:Below w.heap.size w (w2.alloc (.cells #[.int .i64 12,.int .u64 bits,.string ⟨#[]⟩] 71)):=HB.alloc (by have:=HB.size;omega) _
 have hqn:w.heap.size+1+1+1<w2.heap.size:=by omega
 generalize w2.heap.size=q at *
 refine RW.start (fun w'=>Below w.heap.size w w'∧CS w w' q bits tx s s2 l n) (by kernel_rfl) (by kernel_rfl) ⟨hB0.drew,g1.below (Jy _ _).drew⟩ ?_
 clear g1 hB0 HB hc hf hb
 repeat (first
  |(refine' RW.val (by rfl) ?_ ?_;rotate_left;(focus (intro w' hS;obtain⟨HB,hs⟩:=hS;obtain⟨⟨c0,c1,c2⟩,⟨d0,d1,d2⟩,⟨e0,e1,e2⟩,⟨f0,f1,f2⟩,fr,fo,hq⟩:=id hs;go_simp;rfl));simp only[Act.put,J1,J3,J2])
  |(refine RW.off (by rfl) ?_;simp only[Act.put,J1,J3,J2])
  |(refine' RW.call (by rfl) ?_ ?_ ?_
    rotate_left 3
    (focus (intro w' hS;obtain⟨HB,hs⟩:=hS;obtain⟨⟨c0,c1,c2⟩,⟨d0,d1,d2⟩,⟨e0,e1,e2⟩,⟨f0,f1,f2⟩,fr,fo,hq⟩:=id hs;go_simp;exact⟨rfl,rfl⟩))
    (focus
      intro w' hS
      obtain⟨HB,hs⟩:=hS;obtain⟨⟨c0,c1,c2⟩,⟨d0,d1,d2⟩,⟨e0,e1,e2⟩,⟨f0,f1,f2⟩,fr,fo,hq⟩:=id hs
      first
       |(refine(rZero_v _ _ _ _ HZ.out _).mono ?_;rintro e w1 ⟨rfl,hb⟩;exact⟨rfl,⟨(below_seq HB hb),(hs.below hb)⟩⟩))
    simp only[Act.put,J1,J3,J2]))
 refine RW.done (fun w' hS=>?_)
 obtain⟨HB,hs⟩:=hS;obtain⟨⟨c0,c1,c2⟩,⟨d0,d1,d2⟩,⟨e0,e1,e2⟩,⟨f0,f1,f2⟩,fr,fo,hq⟩:=id hs
 go_wp2_with fail
 refine bodyPost_ret (v:=.tuple #[.agg #[.int .i64 12,.int .u64 bits,.string out],.int .i64 0]) (by simp[results,Tryz.results80,go_sem, *]) rfl ⟨rfl,?_⟩
 (repeat (first|exact HB|refine J8 ?_ (by dsimp only;omega) _|refine Jk ?_ (by have hs_:=HB.size;first|(simp;done)|(simp;omega)|omega) _|apply Jv))
theorem rCast_calls (vk bits:Int) (tx s s2:ByteArray) (k l k2 l2:Int) (h0:0≤bits) (h1:bits<18446744073709551616) (w:World):
 Calls Tryz.prog 80 #[.agg #[.int .i64 vk,.int .u64 bits,.string tx],.agg #[.string s,.int .i64 k,.int .i64 l],.agg #[.string s2,.int .i64 k2,.int .i64 l2]] w fun e w'=>e=.returned (.tuple #[castV vk bits tx k l k2 l2,.int .i64 (castE vk bits tx k l k2 l2)])∧Below w.heap.size w w':=by
 by_cases hr:rightB vk bits tx k l=true
 ·by_cases hc:castsB k l k2 l2=true
  ·rw[castV,if_pos ⟨hr,hc⟩,castE,if_pos hr,if_pos hc]
   by_cases hk:k2=12
   ·subst hk
    obtain⟨rfl,hm2⟩:=casts_12 hc
    have hb:=btw_iff.1 (mayB_12▸hm2)
    obtain⟨n,rfl⟩:∃n:Nat,l2=n:=⟨l2.toNat,by omega⟩
    have e:castZ bits 12 12=bits:=by simp[castZ]
    rw[e,castT,if_pos rfl,Int.toNat_natCast]
    exact rCast_12 vk bits tx s s2 12 l n h0 h1 hr hc w
   ·rw[castT,if_neg hk]
    have a12:(k2 == 12)=false:=by simpa using hk
    have hk1:=(may_kind (right_may hr).1).1
    by_cases c10:k2=10
    ·have a10:(k2 == 10)=true:=by simpa using c10
     by_cases c4:k≤4
     ·exact rCast_a vk bits tx s s2 k l k2 l2 h0 h1 hr hc a12 a10 (decide_eq_true c4) hk1 w
     ·have b4:decide (k≤4)=false:=decide_eq_false c4
      by_cases c8:k≤8
      ·by_cases cs:9223372036854775808≤bits
       ·exact rCast_c vk bits tx s s2 k l k2 l2 h0 h1 hr hc a12 a10 b4 (decide_eq_true c8) (decide_eq_true cs) w
       ·exact rCast_b vk bits tx s s2 k l k2 l2 h0 h1 hr hc a12 a10 b4 (decide_eq_true c8) (decide_eq_false cs) w
      ·exact rCast_d vk bits tx s s2 k l k2 l2 h0 h1 hr hc a12 a10 b4 (decide_eq_false c8) w
    ·have a10:(k2 == 10)=false:=by simpa using c10
     by_cases c8:k2=8
     ·have a8:(k2 == 8)=true:=by simpa using c8
      by_cases d10:k=10
      ·exact rCast_e vk bits tx s s2 k l k2 l2 h0 h1 hr hc a12 a10 a8 (by simpa using d10) w
      ·exact rCast_f vk bits tx s s2 k l k2 l2 h0 h1 hr hc a12 a10 a8 (by simpa using d10) w
     ·exact rCast_g vk bits tx s s2 k l k2 l2 h0 h1 hr hc a12 a10 (by simpa using c8) w
  ·have hc':castsB k l k2 l2=false:=by simpa using hc
   rw[castV,if_neg (fun h=>hc h.2),castE,if_pos hr,if_neg hc]
   exact rCast_not vk bits tx s s2 k l k2 l2 h0 h1 hr hc' w
 ·have hr':rightB vk bits tx k l=false:=by simpa using hr
  rw[castV,if_neg (fun h=>hr h.1),castE,if_neg hr]
  exact rCast_wrong vk bits tx s s2 k l k2 l2 h0 h1 hr' w
structure Mv where
 f:Int
 d:Vl
structure Tb where
 o:List Fd
 n:List Fd
 m:List Mv
instance:DecidableEq Vl:=fun a b=>decidable_of_iff (a.k=b.k∧a.b=b.b∧a.t=b.t) (by cases a;cases b;simp)
instance:DecidableEq Mv:=fun a b=>decidable_of_iff (a.f=b.f∧a.d=b.d) (by cases a;cases b;simp)
def cellsM (ms:List Mv):List Value:=ms.flatMap fun m=>[.int .i64 m.f,.int .i64 m.d.k,.int .u64 m.d.b,.string m.d.t]
theorem cellsM_append (a b:List Mv):cellsM (a++b)=cellsM a++cellsM b:=by simp[cellsM]
theorem cellsM_get {ms:List Mv} {i:Nat} {m:Mv} (h:ms[i]?=some m):(cellsM ms)[i * 4]?=some (.int .i64 m.f)∧(cellsM ms)[i * 4+1]?=some (.int .i64 m.d.k)∧(cellsM ms)[i * 4+2]?=some (.int .u64 m.d.b)∧(cellsM ms)[i * 4+3]?=some (.string m.d.t):=by
 induction ms generalizing i with
 |nil=>simp at h
 |cons g r ih=>
  cases i with
  |zero=>simp at h;subst h;exact⟨rfl,rfl,rfl,rfl⟩
  |succ i=>
   have:=ih (i:=i) (by simpa using h)
   rw[cellsM,List.flatMap_cons]
   refine⟨?_,?_,?_,?_⟩
   ·rw[show (i+1) * 4=i * 4+4 by omega,Q8 (by simp)];simpa[cellsM] using this.1
   ·rw[show (i+1) * 4+1=i * 4+1+4 by omega,Q8 (by simp)];simpa[cellsM] using this.2.1
   ·rw[show (i+1) * 4+2=i * 4+2+4 by omega,Q8 (by simp)];simpa[cellsM] using this.2.2.1
   ·rw[show (i+1) * 4+3=i * 4+3+4 by omega,Q8 (by simp)];simpa[cellsM] using this.2.2.2
theorem Rd.mv {w:World} {A:Option Addr} {ms:List Mv} (h:Rd w A (cellsM ms)) {k:Nat} {m:Mv} (hm:ms[k]?=some m):∃ad,A=some ad∧w.cell? (ad.add (k * 4))=some (.int .i64 m.f)∧w.cell? ⟨(ad.add (k * 4)).block,(ad.add (k * 4)).off+(0+1),none⟩=some (.int .i64 m.d.k)∧
 w.cell? ⟨(ad.add (k * 4)).block,(ad.add (k * 4)).off+(1+1),none⟩=some (.int .u64 m.d.b)∧w.cell? ⟨(ad.add (k * 4)).block,(ad.add (k * 4)).off+(2+1),none⟩=some (.string m.d.t):=by
 obtain⟨g0,g1,g2,g3⟩:=cellsM_get hm
 obtain⟨ad,rfl,h0⟩:=h.at g0
 obtain⟨_,e1,h1⟩:=h.at g1
 obtain⟨_,e2,h2⟩:=h.at g2
 obtain⟨_,e3,h3⟩:=h.at g3
 cases e1;cases e2;cases e3
 rw[add_part _ _ 0] at h1
 rw[add_part _ _ 1] at h2
 rw[add_part _ _ 2] at h3
 exact⟨ad,rfl,h0,h1,h2,h3⟩
def okMv (o:List Fd) (g:Fd) (m:Mv):Bool:=
 if m.f=-1 then rightB m.d.k m.d.b m.d.t g.k g.l && (decide (g.k≠11) || decide (m.d.b=0))
 else decide (0≤m.f) && (match o[m.f.toNat]? with|none=>false|some f=>decide (m.d=Vl.z) && castsB f.k f.l g.k g.l)
def okAt (t:Tb) (k:Nat):Bool:=match t.m[k]?,t.n[k]? with|some m,some g=>okMv t.o g m|_,_=>false
def rightT (t:Tb):Bool:=rightF t.o && rightF t.n && decide (t.m.length=t.n.length) && decide (∀k,k<t.m.length→okAt t k=true)
def keepT (l:List Fd):Tb:=if rightF l=true then⟨l,l,(List.range l.length).map fun k:Nat=>⟨(k:Int),Vl.z⟩⟩ else⟨[],[],[]⟩
def MvW (ms:List Mv):Prop:=∀m∈ms,0≤m.d.b∧m.d.b<18446744073709551616
def TV (w:World) (v:Value) (t:Tb):Prop:=∃A c B d C e,v=.agg #[.slice A t.o.length c,.slice B t.n.length d,.slice C t.m.length e]∧Rd w A (cellsF t.o)∧Rd w B (cellsF t.n)∧Rd w C (cellsM t.m)
theorem TV.below {w w1:World} {v:Value} {t:Tb} (h:TV w v t) (hb:Below w.heap.size w w1):TV w1 v t:=by
 obtain⟨A,c,B,d,C,e,hv,h0,h1,h2⟩:=h
 exact⟨A,c,B,d,C,e,hv,h0.below hb,h1.below hb,h2.below hb⟩
def TBox (w:World) (b:Nat) (x y z:Value):Prop:=w.cell? ⟨b,0,none⟩=some x∧w.cell? ⟨b,1,none⟩=some y∧w.cell? ⟨b,2,none⟩=some z
theorem TBox.below {w w1:World} {b:Nat} {x y z:Value} (h:TBox w b x y z) (hb:Below w.heap.size w w1):TBox w1 b x y z:=⟨cell_below (B:=0) hb h.1,cell_below (B:=0) hb h.2.1,cell_below (B:=0) hb h.2.2⟩
theorem TBox.new (w:World) (x y z:Value) (T:TypeId):TBox (w.alloc (.cells #[x,y,z] T)) w.heap.size x y z:=⟨cell_new _ _ _ _ _ rfl,cell_new _ _ _ _ _ rfl,cell_new _ _ _ _ _ rfl⟩
end
end Go.Proofs.YteembinfgbapgaaGreat
