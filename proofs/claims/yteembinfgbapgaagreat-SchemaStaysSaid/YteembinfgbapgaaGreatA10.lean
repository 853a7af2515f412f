/- Merged out of: Kr Ks. -/
import Derived.Test.YteembinfgbapgaaGreatA09
import Derived.Deep.DeepCutAuto
set_option linter.unusedSimpArgs false
set_option linter.unusedVariables false
set_option maxRecDepth 100000
set_option maxHeartbeats 8000000
namespace Go.Proofs.YteembinfgbapgaaGreat
section
open Go.RowKit
def hlB (m:Nat):Nat→Bool
 |0=>false
 |k+1=>(((m / 2 ^ k:Nat):Int) % 2 == 1)
def ltB (m:Nat):Nat→Bool
 |0=>false
 |k+1=>!(decide (m % 2 ^ k=0))
theorem lo_step (m k:Nat):ltB m (k+1)=(ltB m k || hlB m k):=by
 cases k with
 |zero=>simp[ltB,hlB,Nat.mod_one]
 |succ j=>
  have hp:=Nat.two_pow_pos j
  simp only[ltB,hlB]
  rw[Nat.mod_pow_succ]
  have h2:m / 2 ^ j % 2=0∨m / 2 ^ j % 2=1:=by omega
  rw[Bool.eq_iff_iff]
  simp only[Bool.not_eq_true',decide_eq_false_iff_not,Bool.or_eq_true,beq_iff_eq]
  generalize 2 ^ j=P at *
  generalize m / P=Q at *
  rcases h2 with h|h
  ·rw[h];omega
  ·rw[h];omega
theorem rup_is (m:Nat) (h:52<m.log2):rup m=(hlB m (m.log2 - 52) && (ltB m (m.log2 - 52) || ((sgn m:Int) % 2 == 1))):=by
 have hs:sgn m=m / 2 ^ (m.log2 - 52):=by rw[sgn,if_neg (by omega)]
 rw[hs,rup,decide_eq_true h,Bool.true_and]
 obtain⟨j,hj⟩:∃j,m.log2 - 52=j+1:=⟨m.log2 - 53,by omega⟩
 rw[hj]
 simp only[ltB,hlB]
 have e:=Nat.mod_pow_succ (x:=m) (b:=2) (k:=j)
 rw[e]
 clear e
 have hp:=Nat.two_pow_pos j
 have h2:m / 2 ^ j % 2=0∨m / 2 ^ j % 2=1:=by omega
 have hlt:=Nat.mod_lt m hp
 rw[Nat.pow_succ]
 generalize m / (2 ^ j * 2)=R at *
 generalize 2 ^ j=P at *
 generalize m % P=S at *
 generalize m / P=Q at *
 rw[Bool.eq_iff_iff]
 simp only[Bool.or_eq_true,Bool.and_eq_true,decide_eq_true_eq,beq_iff_eq,Bool.not_eq_true',decide_eq_false_iff_not]
 rcases h2 with h|h
 ·rw[h];omega
 ·rw[h];omega
theorem div_big {m k:Nat} (h0:m≠0) (h:k<m.log2 - 52):9007199254740992≤m / 2 ^ k:=by
 have h1:=Nat.log2_self_le h0
 rw[Nat.le_div_iff_mul_le (Nat.two_pow_pos k)]
 calc 9007199254740992 * 2 ^ k=2 ^ (53+k):=by rw[Nat.pow_add]
  _≤2 ^ m.log2:=Nat.pow_le_pow_right (by decide) (by omega)
  _≤m:=h1
theorem mul_small {m k:Nat} (h0:m≠0) (h:k<52 - m.log2):m * 2 ^ k<4503599627370496:=by
 have h1:m<2 ^ (m.log2+1):=Nat.lt_log2_self
 calc m * 2 ^ k<2 ^ (m.log2+1) * 2 ^ k:=Nat.mul_lt_mul_of_pos_right h1 (Nat.two_pow_pos k)
  _=2 ^ (m.log2+1+k):=by rw[←Nat.pow_add]
  _≤2 ^ 52:=Nat.pow_le_pow_right (by decide) (by omega)
def refF (m:Nat) (minus:Bool):Int:=if m=0 then 0 else(fBits minus m:Int)
theorem rFloat_zero (minus:Bool) (w:World):Calls Tryz.prog 118 #[.int .u64 0,.bool minus] w fun e w'=>e=.returned (.int .u64 0)∧w=w':=by
 go_enter Tryz.func118,Tryz.ntmps118
 go_wp2
 go_ret
 exact⟨rfl,rfl⟩
theorem rFloat_big (m:Nat) (h0:m≠0) (h1:m<18446744073709551616) (hL:52<m.log2) (minus:Bool) (r:Int) (hr:(fBits minus m:Int)=r) (w:World):Calls Tryz.prog 118 #[.int .u64 m,.bool minus] w fun e w'=>e=.returned (.int .u64 r)∧w=w':=by
 have hl64:m.log2<64:=by rw[Nat.log2_lt h0];omega
 have t0:((m:Int) == 0)=false:=by simpa using h0
 have hsg:=sgn_bd m h0
 have hrp:=rup_is m hL
 have hsd:m / 2 ^ (m.log2 - 52)=sgn m:=by rw[sgn,if_neg (by omega)]
 rw[fBits,if_neg h0] at hr
 have hbig:=fun k=>div_big (m:=m) (k:=k) h0
 obtain⟨K,hK⟩:∃K,m.log2 - 52=K:=⟨_,rfl⟩
 rw[hK] at hrp hsd hbig
 have hKL:m.log2=K+52:=by omega
 rw[hKL] at hr
 go_enter Tryz.func118,Tryz.ntmps118
 go_wp2
 go_loop [0,5,6,7] (fun x p lo hf=>∃k:Nat,k≤K∧x=.int .u64 ((m / 2 ^ k:Nat):Int)∧p=.int .i64 (1075+k)∧lo=.bool (ltB m k)∧hf=.bool (hlB m k)) (fun _ p _ _=>K+1075 - (intOf p).toNat)
 case atStart=>exact⟨0,by omega,by simp,by simp,rfl,rfl⟩
 case round=>
  obtain⟨k,hk,rfl,rfl,rfl,rfl⟩:=hrel
  by_cases hlt:k<K
  ·have hb:=hbig k hlt
   have hle:m / 2 ^ k≤m:=Nat.div_le_self _ _
   have hst:=lo_step m k
   have hh:hlB m (k+1)=(((m / 2 ^ k:Nat):Int) % 2 == 1):=rfl
   have hd:m / 2 ^ (k+1)=m / 2 ^ k / 2:=by rw[Nat.pow_succ,Nat.div_div_eq_div_mul]
   generalize hx:m / 2 ^ k=x at *
   have g1:decide (9007199254740992≤(x:Int))=true:=by simp;omega
   generalize ltB m k=a at *
   generalize hlB m k=b at *
   clear hrp hsd hsg hr
   cases a
   all_goals
    go_wp2
    go_round
    case rel=>exact⟨k+1,by omega,by rw[hd];go_num,by go_num,by rw[hst];rfl,by rw[hh]⟩
    case measure=>simp[intOf];omega
  ·obtain rfl:k=K:=by omega
   rw[hsd]
   generalize sgn m=g at *
   generalize ltB m k=a at *
   generalize hlB m k=b at *
   generalize rup m=u at *
   have hkk:k≤11:=by omega
   clear hbig hsd hK hKL h0 h1 hL t0 hl64 hk hlt
   obtain⟨g0,g1⟩:=hsg
   have z1:decide (9007199254740992≤(g:Int))=false:=by simp;omega
   have z2:decide ((g:Int)<4503599627370496)=false:=by simp;omega
   obtain⟨c,hc⟩:∃c,((g:Int) % 2 == 1)=c:=⟨_,rfl⟩
   rw[hc] at hrp
   go_wp2
   go_loop [0,5] (fun x p=>x=.int .u64 (g:Int)∧p=.int .i64 (1075+k)) (fun _ _=>0)
   case atStart=>exact⟨rfl,rfl⟩
   case round=>
    obtain⟨rfl,rfl⟩:=hrel
    cases b <;> cases a <;> cases c <;> cases minus
    all_goals
     simp only[Bool.and_false,Bool.false_and,Bool.and_true,Bool.true_and,Bool.or_true,Bool.true_or,Bool.or_false,Bool.false_or] at hrp
     subst hrp
     simp only[Bool.toNat_false,Bool.toNat_true,Bool.false_eq_true,if_true,if_false] at hr
     go_wp2
     go_ret
     exact⟨ret_int (by omega),rfl⟩
theorem rFloat_small (m:Nat) (h0:m≠0) (h1:m<18446744073709551616) (hL:m.log2≤52) (minus:Bool) (r:Int) (hr:(fBits minus m:Int)=r) (w:World):Calls Tryz.prog 118 #[.int .u64 m,.bool minus] w fun e w'=>e=.returned (.int .u64 r)∧w=w':=by
 have t0:((m:Int) == 0)=false:=by simpa using h0
 have hsg:=sgn_bd m h0
 have hrp:rup m=false:=by rw[rup,decide_eq_false (by omega)];rfl
 have hsd:m * 2 ^ (52 - m.log2)=sgn m:=by rw[sgn,if_pos hL]
 have hm:m<9007199254740992:=by
  have:=(Nat.log2_lt (n:=m) (k:=53) h0).1 (by omega)
  omega
 rw[fBits,if_neg h0,hrp] at hr
 have hbig:=fun k=>mul_small (m:=m) (k:=k) h0
 obtain⟨K,hK⟩:∃K,52 - m.log2=K:=⟨_,rfl⟩
 rw[hK] at hsd hbig
 obtain⟨L,hKL⟩:∃L,m.log2=L:=⟨_,rfl⟩
 rw[hKL] at hr
 have hLK:L+K=52:=by omega
 have z1:decide (9007199254740992≤(m:Int))=false:=by simp;omega
 go_enter Tryz.func118,Tryz.ntmps118
 go_wp2
 go_loop [0,5,6,7] (fun x p lo hf=>x=.int .u64 (m:Int)∧p=.int .i64 1075∧lo=.bool false∧hf=.bool false) (fun _ _ _ _=>0)
 case atStart=>exact⟨rfl,rfl,rfl,rfl⟩
 case round=>
  obtain⟨rfl,rfl,rfl,rfl⟩:=hrel
  go_wp2
  go_loop [0,5] (fun x p=>∃k:Nat,k≤K∧x=.int .u64 ((m * 2 ^ k:Nat):Int)∧p=.int .i64 (1075 - (k:Int))) (fun _ p=>((intOf p) - 1023).toNat)
  case atStart=>exact⟨0,by omega,by simp,by simp⟩
  case round=>
   obtain⟨k,hk,rfl,rfl⟩:=hrel
   by_cases hlt:k<K
   ·have hb:=hbig k hlt
    have hd:m * 2 ^ (k+1)=m * 2 ^ k * 2:=by rw[Nat.pow_succ,Nat.mul_assoc]
    generalize hx:m * 2 ^ k=x at *
    have g1:decide ((x:Int)<4503599627370496)=true:=by simp;omega
    clear hrp hsd hsg hr hbig
    go_wp2
    go_round
    case rel=>exact⟨k+1,by omega,by rw[hd];(first|rfl|(simp;done)|(simp;omega)),by rw[show (1075 - (k:Int) - 1)=1075 - ((k+1:Nat):Int) by omega]⟩
    case measure=>simp[intOf];omega
   ·obtain rfl:k=K:=by omega
    rw[hsd]
    generalize sgn m=g at *
    clear hbig hsd hK h0 hL t0 hk hlt hrp hKL z1
    obtain⟨g0,g1⟩:=hsg
    have z2:decide ((g:Int)<4503599627370496)=false:=by simp;omega
    cases minus
    all_goals
     simp only[Bool.toNat_false,Bool.toNat_true,Bool.false_eq_true,if_true,if_false] at hr
     go_wp2
     go_ret
     exact⟨ret_int (by omega),rfl⟩
theorem rFloat_calls (b:Int) (minus:Bool) (h0:0≤b) (h1:b<18446744073709551616) (w:World):Calls Tryz.prog 118 #[.int .u64 b,.bool minus] w fun e w'=>e=.returned (.int .u64 (refF b.toNat minus))∧w=w':=by
 obtain⟨m,rfl⟩:=Int.eq_ofNat_of_zero_le h0
 rw[Int.toNat_natCast]
 by_cases h:m=0
 ·subst h;exact rFloat_zero minus w
 ·have e:refF m minus=(fBits minus m:Int):=by rw[refF,if_neg h]
  rw[e]
  by_cases hL:52<m.log2
  ·exact rFloat_big m h (by omega) hL minus _ rfl w
  ·exact rFloat_small m h (by omega) (by omega) minus _ rfl w
theorem refF_plain (m:Nat):refF m false=(fBits false m:Int):=by
 unfold refF
 split
 ·rename_i h;subst h;rfl
 ·rfl
theorem refF_minus (m:Nat) (h:m≠0):refF m true=(fBits true m:Int):=by rw[refF,if_neg h]
theorem rCasts_is (s s2:ByteArray) (k l k2 l2:Int) (r:Bool) (h:castsB k l k2 l2=r) (w:World):Calls Tryz.prog 116 #[.agg #[.string s,.int .i64 k,.int .i64 l],.agg #[.string s2,.int .i64 k2,.int .i64 l2]] w fun e w'=>e=.returned (.bool r)∧Below w.heap.size w w':=h▸rCasts_calls s s2 k l k2 l2 w
theorem rCast_wrong (vk bits:Int) (tx s s2:ByteArray) (k l k2 l2:Int) (h0:0≤bits) (h1:bits<18446744073709551616) (hr:rightB vk bits tx k l=false) (w:World):
 Calls Tryz.prog 80 #[.agg #[.int .i64 vk,.int .u64 bits,.string tx],.agg #[.string s,.int .i64 k,.int .i64 l],.agg #[.string s2,.int .i64 k2,.int .i64 l2]] w fun e w'=>e=.returned (.tuple #[.agg #[.int .i64 0,.int .u64 0,.string ⟨#[]⟩],.int .i64 50])∧Below w.heap.size w w':=by
 have HB:Below w.heap.size w ((((w.alloc (.cells #[.int .i64 vk,.int .u64 bits,.string tx] 71)).alloc (.cells #[.string s,.int .i64 k,.int .i64 l] 68)).alloc (.cells #[.string s2,.int .i64 k2,.int .i64 l2] 68)).alloc (.cells #[.int .i64 0,.int .u64 0,.string ⟨#[]⟩] 71)):=(((below_new _).alloc (by simp) _).alloc (by simp;omega) _).alloc (by simp;omega) _
 have hss:=setCell_twice
 have HR:=Lib.hid hr
 clear hr
 go_enter Tryz.func80,Tryz.ntmps80
 go_wp2_with (first
  |(go_at_call 115;refine(rRight_is5 _ _ _ _ _ _ h0 h1 _ HR.out _).mono ?_;rintro e w1 ⟨rfl,hb⟩;obtain⟨hc,hf⟩:=bcell hb;obtain⟨z0,z1,z2,z3⟩:w.heap.size<w1.heap.size∧w.heap.size+1<w1.heap.size∧w.heap.size+1+1<w1.heap.size∧w.heap.size+1+1+1<w1.heap.size:=(by have hz_:=hb.size;(try simp at hz_);omega);have n_:Below w.heap.size w _:=below_seq (by repeat (first|exact HB|refine Below.setCell ?_ (by dsimp only;omega) _|refine Below.alloc ?_ (by have hs_:=HB.size;first|(simp;done)|(simp;omega)|omega) _|apply Below.drew)) hb;clear HB;have HB:=n_;clear n_))
 refine bodyPost_ret (v:=.tuple #[.agg #[.int .i64 0,.int .u64 0,.string (⟨#[]⟩:ByteArray)],.int .i64 50]) (by simp[results,Tryz.results80,go_sem, *]) rfl ⟨rfl,?_⟩
 (repeat (first|exact HB|refine Below.setCell ?_ (by dsimp only;omega) _|refine Below.alloc ?_ (by have hs_:=HB.size;first|(simp;done)|(simp;omega)|omega) _|apply Below.drew))
theorem rCast_not (vk bits:Int) (tx s s2:ByteArray) (k l k2 l2:Int) (h0:0≤bits) (h1:bits<18446744073709551616) (hr:rightB vk bits tx k l=true) (hc:castsB k l k2 l2=false) (w:World):
 Calls Tryz.prog 80 #[.agg #[.int .i64 vk,.int .u64 bits,.string tx],.agg #[.string s,.int .i64 k,.int .i64 l],.agg #[.string s2,.int .i64 k2,.int .i64 l2]] w fun e w'=>e=.returned (.tuple #[.agg #[.int .i64 0,.int .u64 0,.string ⟨#[]⟩],.int .i64 51])∧Below w.heap.size w w':=by
 have HB:Below w.heap.size w ((((w.alloc (.cells #[.int .i64 vk,.int .u64 bits,.string tx] 71)).alloc (.cells #[.string s,.int .i64 k,.int .i64 l] 68)).alloc (.cells #[.string s2,.int .i64 k2,.int .i64 l2] 68)).alloc (.cells #[.int .i64 0,.int .u64 0,.string ⟨#[]⟩] 71)):=(((below_new _).alloc (by simp) _).alloc (by simp;omega) _).alloc (by simp;omega) _
 have hss:=setCell_twice
 have HR:=Lib.hid hr
 have HC:=Lib.hid hc
 clear hr hc
 go_enter Tryz.func80,Tryz.ntmps80
 go_wp2_with (first
  |(go_at_call 115;refine(rRight_is5 _ _ _ _ _ _ h0 h1 _ HR.out _).mono ?_;rintro e w1 ⟨rfl,hb⟩;obtain⟨hc,hf⟩:=bcell hb;obtain⟨z0,z1,z2,z3⟩:w.heap.size<w1.heap.size∧w.heap.size+1<w1.heap.size∧w.heap.size+1+1<w1.heap.size∧w.heap.size+1+1+1<w1.heap.size:=(by have hz_:=hb.size;(try simp at hz_);omega);have n_:Below w.heap.size w _:=below_seq (by repeat (first|exact HB|refine Below.setCell ?_ (by dsimp only;omega) _|refine Below.alloc ?_ (by have hs_:=HB.size;first|(simp;done)|(simp;omega)|omega) _|apply Below.drew)) hb;clear HB;have HB:=n_;clear n_)
  |(go_at_call 116;refine(rCasts_is _ _ _ _ _ _ _ HC.out _).mono ?_;rintro e w2 ⟨rfl,hb⟩;obtain⟨hc,hf⟩:=bcell hb;obtain⟨z0,z1,z2,z3⟩:w.heap.size<w2.heap.size∧w.heap.size+1<w2.heap.size∧w.heap.size+1+1<w2.heap.size∧w.heap.size+1+1+1<w2.heap.size:=(by have hz_:=hb.size;(try simp at hz_);omega);have n_:Below w.heap.size w _:=below_seq (by repeat (first|exact HB|refine Below.setCell ?_ (by dsimp only;omega) _|refine Below.alloc ?_ (by have hs_:=HB.size;first|(simp;done)|(simp;omega)|omega) _|apply Below.drew)) hb;clear HB;have HB:=n_;clear n_))
 refine bodyPost_ret (v:=.tuple #[.agg #[.int .i64 0,.int .u64 0,.string (⟨#[]⟩:ByteArray)],.int .i64 51]) (by simp[results,Tryz.results80,go_sem, *]) rfl ⟨rfl,?_⟩
 (repeat (first|exact HB|refine Below.setCell ?_ (by dsimp only;omega) _|refine Below.alloc ?_ (by have hs_:=HB.size;first|(simp;done)|(simp;omega)|omega) _|apply Below.drew))
theorem rCast_a (vk bits:Int) (tx s s2:ByteArray) (k l k2 l2:Int) (h0:0≤bits) (h1:bits<18446744073709551616) (hr:rightB vk bits tx k l=true) (hc:castsB k l k2 l2=true) (a12:(k2 == 12)=false) (a10:(k2 == 10)=true) (b4:decide (k≤4)=true) (hb:1≤k) (w:World):
 Calls Tryz.prog 80 #[.agg #[.int .i64 vk,.int .u64 bits,.string tx],.agg #[.string s,.int .i64 k,.int .i64 l],.agg #[.string s2,.int .i64 k2,.int .i64 l2]] w fun e w'=>e=.returned (.tuple #[.agg #[.int .i64 k2,.int .u64 (castZ bits k k2),.string ⟨#[]⟩],.int .i64 0])∧Below w.heap.size w w':=by
 have HB:Below w.heap.size w ((((w.alloc (.cells #[.int .i64 vk,.int .u64 bits,.string tx] 71)).alloc (.cells #[.string s,.int .i64 k,.int .i64 l] 68)).alloc (.cells #[.string s2,.int .i64 k2,.int .i64 l2] 68)).alloc (.cells #[.int .i64 0,.int .u64 0,.string ⟨#[]⟩] 71)):=(((below_new _).alloc (by simp) _).alloc (by simp;omega) _).alloc (by simp;omega) _
 have hss:=setCell_twice
 have HR:=Lib.hid hr
 have HC:=Lib.hid hc
 have e:castZ bits k k2=fBits false bits.toNat:=by rw[castZ,if_pos ⟨by simpa using a10,btw_iff.2 ⟨hb,by simpa using b4⟩⟩]
 obtain⟨z,hz⟩:∃z:Int,(fBits false bits.toNat:Int)=z:=⟨_,rfl⟩
 rw[hz] at e
 rw[e]
 have F1:Hid (refF bits.toNat false=z):=Lib.hid ((refF_plain _).trans hz)
 have a8:(k2 == 8)=false:=by simp at a10 ⊢;omega
 have b5:decide (5≤k)=false:=by simp at b4 ⊢;omega
 clear e hz hb
 clear hr hc
 go_enter Tryz.func80,Tryz.ntmps80
 go_wp2_with (first
  |(go_at_call 115;refine(rRight_is5 _ _ _ _ _ _ h0 h1 _ HR.out _).mono ?_;rintro e w1 ⟨rfl,hb⟩;obtain⟨hc,hf⟩:=bcell hb;obtain⟨z0,z1,z2,z3⟩:w.heap.size<w1.heap.size∧w.heap.size+1<w1.heap.size∧w.heap.size+1+1<w1.heap.size∧w.heap.size+1+1+1<w1.heap.size:=(by have hz_:=hb.size;(try simp at hz_);omega);have n_:Below w.heap.size w _:=below_seq (by repeat (first|exact HB|refine Below.setCell ?_ (by dsimp only;omega) _|refine Below.alloc ?_ (by have hs_:=HB.size;first|(simp;done)|(simp;omega)|omega) _|apply Below.drew)) hb;clear HB;have HB:=n_;clear n_)
  |(go_at_call 116;refine(rCasts_is _ _ _ _ _ _ _ HC.out _).mono ?_;rintro e w2 ⟨rfl,hb⟩;obtain⟨hc,hf⟩:=bcell hb;obtain⟨z0,z1,z2,z3⟩:w.heap.size<w2.heap.size∧w.heap.size+1<w2.heap.size∧w.heap.size+1+1<w2.heap.size∧w.heap.size+1+1+1<w2.heap.size:=(by have hz_:=hb.size;(try simp at hz_);omega);have n_:Below w.heap.size w _:=below_seq (by repeat (first|exact HB|refine Below.setCell ?_ (by dsimp only;omega) _|refine Below.alloc ?_ (by have hs_:=HB.size;first|(simp;done)|(simp;omega)|omega) _|apply Below.drew)) hb;clear HB;have HB:=n_;clear n_)
  |(go_at_call 118;refine(rFloat_calls _ _ (by omega) (by omega) _).mono ?_;rintro e w' ⟨rfl,rfl⟩;rw[F1.out]))
 refine bodyPost_ret (v:=.tuple #[.agg #[.int .i64 k2,.int .u64 z,.string (⟨#[]⟩:ByteArray)],.int .i64 0]) (by simp[results,Tryz.results80,go_sem, *]) rfl ⟨rfl,?_⟩
 (repeat (first|exact HB|refine Below.setCell ?_ (by dsimp only;omega) _|refine Below.alloc ?_ (by have hs_:=HB.size;first|(simp;done)|(simp;omega)|omega) _|apply Below.drew))
theorem rCast_b (vk bits:Int) (tx s s2:ByteArray) (k l k2 l2:Int) (h0:0≤bits) (h1:bits<18446744073709551616) (hr:rightB vk bits tx k l=true) (hc:castsB k l k2 l2=true) (a12:(k2 == 12)=false) (a10:(k2 == 10)=true) (b4:decide (k≤4)=false) (b8:decide (k≤8)=true) (hs:decide (9223372036854775808≤bits)=false) (w:World):
 Calls Tryz.prog 80 #[.agg #[.int .i64 vk,.int .u64 bits,.string tx],.agg #[.string s,.int .i64 k,.int .i64 l],.agg #[.string s2,.int .i64 k2,.int .i64 l2]] w fun e w'=>e=.returned (.tuple #[.agg #[.int .i64 k2,.int .u64 (castZ bits k k2),.string ⟨#[]⟩],.int .i64 0])∧Below w.heap.size w w':=by
 have HB:Below w.heap.size w ((((w.alloc (.cells #[.int .i64 vk,.int .u64 bits,.string tx] 71)).alloc (.cells #[.string s,.int .i64 k,.int .i64 l] 68)).alloc (.cells #[.string s2,.int .i64 k2,.int .i64 l2] 68)).alloc (.cells #[.int .i64 0,.int .u64 0,.string ⟨#[]⟩] 71)):=(((below_new _).alloc (by simp) _).alloc (by simp;omega) _).alloc (by simp;omega) _
 have hss:=setCell_twice
 have HR:=Lib.hid hr
 have HC:=Lib.hid hc
 have e:castZ bits k k2=fBits false bits.toNat:=by
  simp at a10 b4 b8 hs
  rw[castZ,if_neg (by simp[btw];omega),if_pos ⟨a10,btw_iff.2 ⟨by omega,b8⟩⟩,if_neg (by omega)]
 obtain⟨z,hz⟩:∃z:Int,(fBits false bits.toNat:Int)=z:=⟨_,rfl⟩
 rw[hz] at e
 rw[e]
 have F1:Hid (refF bits.toNat false=z):=Lib.hid ((refF_plain _).trans hz)
 have a8:(k2 == 8)=false:=by simp at a10 ⊢;omega
 have b5:decide (5≤k)=true:=by simp at b4 ⊢;omega
 clear e hz
 clear hr hc
 go_enter Tryz.func80,Tryz.ntmps80
 go_wp2_with (first
  |(go_at_call 115;refine(rRight_is5 _ _ _ _ _ _ h0 h1 _ HR.out _).mono ?_;rintro e w1 ⟨rfl,hb⟩;obtain⟨hc,hf⟩:=bcell hb;obtain⟨z0,z1,z2,z3⟩:w.heap.size<w1.heap.size∧w.heap.size+1<w1.heap.size∧w.heap.size+1+1<w1.heap.size∧w.heap.size+1+1+1<w1.heap.size:=(by have hz_:=hb.size;(try simp at hz_);omega);have n_:Below w.heap.size w _:=below_seq (by repeat (first|exact HB|refine Below.setCell ?_ (by dsimp only;omega) _|refine Below.alloc ?_ (by have hs_:=HB.size;first|(simp;done)|(simp;omega)|omega) _|apply Below.drew)) hb;clear HB;have HB:=n_;clear n_)
  |(go_at_call 116;refine(rCasts_is _ _ _ _ _ _ _ HC.out _).mono ?_;rintro e w2 ⟨rfl,hb⟩;obtain⟨hc,hf⟩:=bcell hb;obtain⟨z0,z1,z2,z3⟩:w.heap.size<w2.heap.size∧w.heap.size+1<w2.heap.size∧w.heap.size+1+1<w2.heap.size∧w.heap.size+1+1+1<w2.heap.size:=(by have hz_:=hb.size;(try simp at hz_);omega);have n_:Below w.heap.size w _:=below_seq (by repeat (first|exact HB|refine Below.setCell ?_ (by dsimp only;omega) _|refine Below.alloc ?_ (by have hs_:=HB.size;first|(simp;done)|(simp;omega)|omega) _|apply Below.drew)) hb;clear HB;have HB:=n_;clear n_)
  |(go_at_call 118;refine(rFloat_calls _ _ (by omega) (by omega) _).mono ?_;rintro e w' ⟨rfl,rfl⟩;rw[F1.out]))
 refine bodyPost_ret (v:=.tuple #[.agg #[.int .i64 k2,.int .u64 z,.string (⟨#[]⟩:ByteArray)],.int .i64 0]) (by simp[results,Tryz.results80,go_sem, *]) rfl ⟨rfl,?_⟩
 (repeat (first|exact HB|refine Below.setCell ?_ (by dsimp only;omega) _|refine Below.alloc ?_ (by have hs_:=HB.size;first|(simp;done)|(simp;omega)|omega) _|apply Below.drew))
theorem rCast_c (vk bits:Int) (tx s s2:ByteArray) (k l k2 l2:Int) (h0:0≤bits) (h1:bits<18446744073709551616) (hr:rightB vk bits tx k l=true) (hc:castsB k l k2 l2=true) (a12:(k2 == 12)=false) (a10:(k2 == 10)=true) (b4:decide (k≤4)=false) (b8:decide (k≤8)=true) (hs:decide (9223372036854775808≤bits)=true) (w:World):
 Calls Tryz.prog 80 #[.agg #[.int .i64 vk,.int .u64 bits,.string tx],.agg #[.string s,.int .i64 k,.int .i64 l],.agg #[.string s2,.int .i64 k2,.int .i64 l2]] w fun e w'=>e=.returned (.tuple #[.agg #[.int .i64 k2,.int .u64 (castZ bits k k2),.string ⟨#[]⟩],.int .i64 0])∧Below w.heap.size w w':=by
 have HB:Below w.heap.size w ((((w.alloc (.cells #[.int .i64 vk,.int .u64 bits,.string tx] 71)).alloc (.cells #[.string s,.int .i64 k,.int .i64 l] 68)).alloc (.cells #[.string s2,.int .i64 k2,.int .i64 l2] 68)).alloc (.cells #[.int .i64 0,.int .u64 0,.string ⟨#[]⟩] 71)):=(((below_new _).alloc (by simp) _).alloc (by simp;omega) _).alloc (by simp;omega) _
 have hss:=setCell_twice
 have HR:=Lib.hid hr
 have HC:=Lib.hid hc
 have e:castZ bits k k2=fBits true (18446744073709551616 - bits).toNat:=by
  simp at a10 b4 b8 hs
  rw[castZ,if_neg (by simp[btw];omega),if_pos ⟨a10,btw_iff.2 ⟨by omega,b8⟩⟩,if_pos (by omega)]
 obtain⟨z,hz⟩:∃z:Int,(fBits true (18446744073709551616 - bits).toNat:Int)=z:=⟨_,rfl⟩
 rw[hz] at e
 rw[e]
 have hng:IntKind.wrap .u64 (-bits)=18446744073709551616 - bits:=by simp at hs;simp[IntKind.wrap,IntKind.signed,IntKind.bits];omega
 have hs':9223372036854775808≤bits:=by simpa using hs
 obtain⟨z0,F1⟩:∃z0,Hid (refF bits.toNat false=z0):=⟨_,Lib.hid rfl⟩
 have F2:Hid (refF (18446744073709551616 - bits).toNat true=z):=Lib.hid ((refF_minus _ (by omega)).trans hz)
 have a8:(k2 == 8)=false:=by simp at a10 ⊢;omega
 have b5:decide (5≤k)=true:=by simp at b4 ⊢;omega
 clear e hz
 clear hr hc
 go_enter Tryz.func80,Tryz.ntmps80
 go_wp2_with (first
  |(go_at_call 115;refine(rRight_is5 _ _ _ _ _ _ h0 h1 _ HR.out _).mono ?_;rintro e w1 ⟨rfl,hb⟩;obtain⟨hc,hf⟩:=bcell hb;obtain⟨z0,z1,z2,z3⟩:w.heap.size<w1.heap.size∧w.heap.size+1<w1.heap.size∧w.heap.size+1+1<w1.heap.size∧w.heap.size+1+1+1<w1.heap.size:=(by have hz_:=hb.size;(try simp at hz_);omega);have n_:Below w.heap.size w _:=below_seq (by repeat (first|exact HB|refine Below.setCell ?_ (by dsimp only;omega) _|refine Below.alloc ?_ (by have hs_:=HB.size;first|(simp;done)|(simp;omega)|omega) _|apply Below.drew)) hb;clear HB;have HB:=n_;clear n_)
  |(go_at_call 116;refine(rCasts_is _ _ _ _ _ _ _ HC.out _).mono ?_;rintro e w2 ⟨rfl,hb⟩;obtain⟨hc,hf⟩:=bcell hb;obtain⟨z0,z1,z2,z3⟩:w.heap.size<w2.heap.size∧w.heap.size+1<w2.heap.size∧w.heap.size+1+1<w2.heap.size∧w.heap.size+1+1+1<w2.heap.size:=(by have hz_:=hb.size;(try simp at hz_);omega);have n_:Below w.heap.size w _:=below_seq (by repeat (first|exact HB|refine Below.setCell ?_ (by dsimp only;omega) _|refine Below.alloc ?_ (by have hs_:=HB.size;first|(simp;done)|(simp;omega)|omega) _|apply Below.drew)) hb;clear HB;have HB:=n_;clear n_)
  |(go_at_call 118;refine(rFloat_calls _ _ (by omega) (by omega) _).mono ?_;rintro e w' ⟨rfl,rfl⟩;(first|rw[F1.out]|rw[F2.out])))
 refine bodyPost_ret (v:=.tuple #[.agg #[.int .i64 k2,.int .u64 z,.string (⟨#[]⟩:ByteArray)],.int .i64 0]) (by simp[results,Tryz.results80,go_sem, *]) rfl ⟨rfl,?_⟩
 (repeat (first|exact HB|refine Below.setCell ?_ (by dsimp only;omega) _|refine Below.alloc ?_ (by have hs_:=HB.size;first|(simp;done)|(simp;omega)|omega) _|apply Below.drew))
theorem rCast_d (vk bits:Int) (tx s s2:ByteArray) (k l k2 l2:Int) (h0:0≤bits) (h1:bits<18446744073709551616) (hr:rightB vk bits tx k l=true) (hc:castsB k l k2 l2=true) (a12:(k2 == 12)=false) (a10:(k2 == 10)=true) (b4:decide (k≤4)=false) (b8:decide (k≤8)=false) (w:World):
 Calls Tryz.prog 80 #[.agg #[.int .i64 vk,.int .u64 bits,.string tx],.agg #[.string s,.int .i64 k,.int .i64 l],.agg #[.string s2,.int .i64 k2,.int .i64 l2]] w fun e w'=>e=.returned (.tuple #[.agg #[.int .i64 k2,.int .u64 (castZ bits k k2),.string ⟨#[]⟩],.int .i64 0])∧Below w.heap.size w w':=by
 have HB:Below w.heap.size w ((((w.alloc (.cells #[.int .i64 vk,.int .u64 bits,.string tx] 71)).alloc (.cells #[.string s,.int .i64 k,.int .i64 l] 68)).alloc (.cells #[.string s2,.int .i64 k2,.int .i64 l2] 68)).alloc (.cells #[.int .i64 0,.int .u64 0,.string ⟨#[]⟩] 71)):=(((below_new _).alloc (by simp) _).alloc (by simp;omega) _).alloc (by simp;omega) _
 have hss:=setCell_twice
 have HR:=Lib.hid hr
 have HC:=Lib.hid hc
 have e:castZ bits k k2=bits:=by
  simp at a10 b4 b8
  rw[castZ,if_neg (by simp[btw];omega),if_neg (by simp[btw];omega),if_neg (by omega)]
 rw[e]
 have a8:(k2 == 8)=false:=by simp at a10 ⊢;omega
 have b5:decide (5≤k)=true:=by simp at b4 ⊢;omega
 clear e
 clear hr hc
 go_enter Tryz.func80,Tryz.ntmps80
 go_wp2_with (first
  |(go_at_call 115;refine(rRight_is5 _ _ _ _ _ _ h0 h1 _ HR.out _).mono ?_;rintro e w1 ⟨rfl,hb⟩;obtain⟨hc,hf⟩:=bcell hb;obtain⟨z0,z1,z2,z3⟩:w.heap.size<w1.heap.size∧w.heap.size+1<w1.heap.size∧w.heap.size+1+1<w1.heap.size∧w.heap.size+1+1+1<w1.heap.size:=(by have hz_:=hb.size;(try simp at hz_);omega);have n_:Below w.heap.size w _:=below_seq (by repeat (first|exact HB|refine Below.setCell ?_ (by dsimp only;omega) _|refine Below.alloc ?_ (by have hs_:=HB.size;first|(simp;done)|(simp;omega)|omega) _|apply Below.drew)) hb;clear HB;have HB:=n_;clear n_)
  |(go_at_call 116;refine(rCasts_is _ _ _ _ _ _ _ HC.out _).mono ?_;rintro e w2 ⟨rfl,hb⟩;obtain⟨hc,hf⟩:=bcell hb;obtain⟨z0,z1,z2,z3⟩:w.heap.size<w2.heap.size∧w.heap.size+1<w2.heap.size∧w.heap.size+1+1<w2.heap.size∧w.heap.size+1+1+1<w2.heap.size:=(by have hz_:=hb.size;(try simp at hz_);omega);have n_:Below w.heap.size w _:=below_seq (by repeat (first|exact HB|refine Below.setCell ?_ (by dsimp only;omega) _|refine Below.alloc ?_ (by have hs_:=HB.size;first|(simp;done)|(simp;omega)|omega) _|apply Below.drew)) hb;clear HB;have HB:=n_;clear n_))
 refine bodyPost_ret (v:=.tuple #[.agg #[.int .i64 k2,.int .u64 bits,.string (⟨#[]⟩:ByteArray)],.int .i64 0]) (by simp[results,Tryz.results80,go_sem, *]) rfl ⟨rfl,?_⟩
 (repeat (first|exact HB|refine Below.setCell ?_ (by dsimp only;omega) _|refine Below.alloc ?_ (by have hs_:=HB.size;first|(simp;done)|(simp;omega)|omega) _|apply Below.drew))
theorem rCast_e (vk bits:Int) (tx s s2:ByteArray) (k l k2 l2:Int) (h0:0≤bits) (h1:bits<18446744073709551616) (hr:rightB vk bits tx k l=true) (hc:castsB k l k2 l2=true) (a12:(k2 == 12)=false) (a10:(k2 == 10)=false) (a8:(k2 == 8)=true) (b10:(k == 10)=true) (w:World):
 Calls Tryz.prog 80 #[.agg #[.int .i64 vk,.int .u64 bits,.string tx],.agg #[.string s,.int .i64 k,.int .i64 l],.agg #[.string s2,.int .i64 k2,.int .i64 l2]] w fun e w'=>e=.returned (.tuple #[.agg #[.int .i64 k2,.int .u64 (castZ bits k k2),.string ⟨#[]⟩],.int .i64 0])∧Below w.heap.size w w':=by
 have HB:Below w.heap.size w ((((w.alloc (.cells #[.int .i64 vk,.int .u64 bits,.string tx] 71)).alloc (.cells #[.string s,.int .i64 k,.int .i64 l] 68)).alloc (.cells #[.string s2,.int .i64 k2,.int .i64 l2] 68)).alloc (.cells #[.int .i64 0,.int .u64 0,.string ⟨#[]⟩] 71)):=(((below_new _).alloc (by simp) _).alloc (by simp;omega) _).alloc (by simp;omega) _
 have hss:=setCell_twice
 have HR:=Lib.hid hr
 have HC:=Lib.hid hc
 have e:castZ bits k k2=wholeZ bits.toNat % 18446744073709551616:=by
  simp at a10 a8 b10
  rw[castZ,if_neg (by omega),if_neg (by omega),if_pos ⟨a8,b10⟩]
 obtain⟨z,hz⟩:∃z:Int,wholeZ bits.toNat=z:=⟨_,rfl⟩
 rw[hz] at e
 rw[e]
 have HW:=Lib.hid hz
 have hwr:IntKind.wrap .u64 z=z % 18446744073709551616:=by simp[IntKind.wrap,IntKind.signed,go_sem]
 clear e hz
 clear hr hc
 go_enter Tryz.func80,Tryz.ntmps80
 go_wp2_with (first
  |(go_at_call 115;refine(rRight_is5 _ _ _ _ _ _ h0 h1 _ HR.out _).mono ?_;rintro e w1 ⟨rfl,hb⟩;obtain⟨hc,hf⟩:=bcell hb;obtain⟨z0,z1,z2,z3⟩:w.heap.size<w1.heap.size∧w.heap.size+1<w1.heap.size∧w.heap.size+1+1<w1.heap.size∧w.heap.size+1+1+1<w1.heap.size:=(by have hz_:=hb.size;(try simp at hz_);omega);have n_:Below w.heap.size w _:=below_seq (by repeat (first|exact HB|refine Below.setCell ?_ (by dsimp only;omega) _|refine Below.alloc ?_ (by have hs_:=HB.size;first|(simp;done)|(simp;omega)|omega) _|apply Below.drew)) hb;clear HB;have HB:=n_;clear n_)
  |(go_at_call 116;refine(rCasts_is _ _ _ _ _ _ _ HC.out _).mono ?_;rintro e w2 ⟨rfl,hb⟩;obtain⟨hc,hf⟩:=bcell hb;obtain⟨z0,z1,z2,z3⟩:w.heap.size<w2.heap.size∧w.heap.size+1<w2.heap.size∧w.heap.size+1+1<w2.heap.size∧w.heap.size+1+1+1<w2.heap.size:=(by have hz_:=hb.size;(try simp at hz_);omega);have n_:Below w.heap.size w _:=below_seq (by repeat (first|exact HB|refine Below.setCell ?_ (by dsimp only;omega) _|refine Below.alloc ?_ (by have hs_:=HB.size;first|(simp;done)|(simp;omega)|omega) _|apply Below.drew)) hb;clear HB;have HB:=n_;clear n_)
  |(go_at_call 119;refine(rWhole_calls _ (by omega) (by omega) _).mono ?_;rintro e w' ⟨rfl,rfl⟩;rw[HW.out]))
 refine bodyPost_ret (v:=.tuple #[.agg #[.int .i64 k2,.int .u64 (z % 18446744073709551616),.string (⟨#[]⟩:ByteArray)],.int .i64 0]) (by simp[results,Tryz.results80,go_sem, *]) rfl ⟨rfl,?_⟩
 (repeat (first|exact HB|refine Below.setCell ?_ (by dsimp only;omega) _|refine Below.alloc ?_ (by have hs_:=HB.size;first|(simp;done)|(simp;omega)|omega) _|apply Below.drew))
theorem rCast_f (vk bits:Int) (tx s s2:ByteArray) (k l k2 l2:Int) (h0:0≤bits) (h1:bits<18446744073709551616) (hr:rightB vk bits tx k l=true) (hc:castsB k l k2 l2=true) (a12:(k2 == 12)=false) (a10:(k2 == 10)=false) (a8:(k2 == 8)=true) (b10:(k == 10)=false) (w:World):
 Calls Tryz.prog 80 #[.agg #[.int .i64 vk,.int .u64 bits,.string tx],.agg #[.string s,.int .i64 k,.int .i64 l],.agg #[.string s2,.int .i64 k2,.int .i64 l2]] w fun e w'=>e=.returned (.tuple #[.agg #[.int .i64 k2,.int .u64 (castZ bits k k2),.string ⟨#[]⟩],.int .i64 0])∧Below w.heap.size w w':=by
 have HB:Below w.heap.size w ((((w.alloc (.cells #[.int .i64 vk,.int .u64 bits,.string tx] 71)).alloc (.cells #[.string s,.int .i64 k,.int .i64 l] 68)).alloc (.cells #[.string s2,.int .i64 k2,.int .i64 l2] 68)).alloc (.cells #[.int .i64 0,.int .u64 0,.string ⟨#[]⟩] 71)):=(((below_new _).alloc (by simp) _).alloc (by simp;omega) _).alloc (by simp;omega) _
 have hss:=setCell_twice
 have HR:=Lib.hid hr
 have HC:=Lib.hid hc
 have e:castZ bits k k2=bits:=by
  simp at a10 a8 b10
  rw[castZ,if_neg (by omega),if_neg (by omega),if_neg (by omega)]
 rw[e]
 clear e
 clear hr hc
 go_enter Tryz.func80,Tryz.ntmps80
 go_wp2_with (first
  |(go_at_call 115;refine(rRight_is5 _ _ _ _ _ _ h0 h1 _ HR.out _).mono ?_;rintro e w1 ⟨rfl,hb⟩;obtain⟨hc,hf⟩:=bcell hb;obtain⟨z0,z1,z2,z3⟩:w.heap.size<w1.heap.size∧w.heap.size+1<w1.heap.size∧w.heap.size+1+1<w1.heap.size∧w.heap.size+1+1+1<w1.heap.size:=(by have hz_:=hb.size;(try simp at hz_);omega);have n_:Below w.heap.size w _:=below_seq (by repeat (first|exact HB|refine Below.setCell ?_ (by dsimp only;omega) _|refine Below.alloc ?_ (by have hs_:=HB.size;first|(simp;done)|(simp;omega)|omega) _|apply Below.drew)) hb;clear HB;have HB:=n_;clear n_)
  |(go_at_call 116;refine(rCasts_is _ _ _ _ _ _ _ HC.out _).mono ?_;rintro e w2 ⟨rfl,hb⟩;obtain⟨hc,hf⟩:=bcell hb;obtain⟨z0,z1,z2,z3⟩:w.heap.size<w2.heap.size∧w.heap.size+1<w2.heap.size∧w.heap.size+1+1<w2.heap.size∧w.heap.size+1+1+1<w2.heap.size:=(by have hz_:=hb.size;(try simp at hz_);omega);have n_:Below w.heap.size w _:=below_seq (by repeat (first|exact HB|refine Below.setCell ?_ (by dsimp only;omega) _|refine Below.alloc ?_ (by have hs_:=HB.size;first|(simp;done)|(simp;omega)|omega) _|apply Below.drew)) hb;clear HB;have HB:=n_;clear n_))
 refine bodyPost_ret (v:=.tuple #[.agg #[.int .i64 k2,.int .u64 bits,.string (⟨#[]⟩:ByteArray)],.int .i64 0]) (by simp[results,Tryz.results80,go_sem, *]) rfl ⟨rfl,?_⟩
 (repeat (first|exact HB|refine Below.setCell ?_ (by dsimp only;omega) _|refine Below.alloc ?_ (by have hs_:=HB.size;first|(simp;done)|(simp;omega)|omega) _|apply Below.drew))
theorem rCast_g (vk bits:Int) (tx s s2:ByteArray) (k l k2 l2:Int) (h0:0≤bits) (h1:bits<18446744073709551616) (hr:rightB vk bits tx k l=true) (hc:castsB k l k2 l2=true) (a12:(k2 == 12)=false) (a10:(k2 == 10)=false) (a8:(k2 == 8)=false) (w:World):
 Calls Tryz.prog 80 #[.agg #[.int .i64 vk,.int .u64 bits,.string tx],.agg #[.string s,.int .i64 k,.int .i64 l],.agg #[.string s2,.int .i64 k2,.int .i64 l2]] w fun e w'=>e=.returned (.tuple #[.agg #[.int .i64 k2,.int .u64 (castZ bits k k2),.string ⟨#[]⟩],.int .i64 0])∧Below w.heap.size w w':=by
 have HB:Below w.heap.size w ((((w.alloc (.cells #[.int .i64 vk,.int .u64 bits,.string tx] 71)).alloc (.cells #[.string s,.int .i64 k,.int .i64 l] 68)).alloc (.cells #[.string s2,.int .i64 k2,.int .i64 l2] 68)).alloc (.cells #[.int .i64 0,.int .u64 0,.string ⟨#[]⟩] 71)):=(((below_new _).alloc (by simp) _).alloc (by simp;omega) _).alloc (by simp;omega) _
 have hss:=setCell_twice
 have HR:=Lib.hid hr
 have HC:=Lib.hid hc
 have e:castZ bits k k2=bits:=by
  simp at a10 a8
  rw[castZ,if_neg (by omega),if_neg (by omega),if_neg (by omega)]
 rw[e]
 clear e
 clear hr hc
 go_enter Tryz.func80,Tryz.ntmps80
 go_wp2_with (first
  |(go_at_call 115;refine(rRight_is5 _ _ _ _ _ _ h0 h1 _ HR.out _).mono ?_;rintro e w1 ⟨rfl,hb⟩;obtain⟨hc,hf⟩:=bcell hb;obtain⟨z0,z1,z2,z3⟩:w.heap.size<w1.heap.size∧w.heap.size+1<w1.heap.size∧w.heap.size+1+1<w1.heap.size∧w.heap.size+1+1+1<w1.heap.size:=(by have hz_:=hb.size;(try simp at hz_);omega);have n_:Below w.heap.size w _:=below_seq (by repeat (first|exact HB|refine Below.setCell ?_ (by dsimp only;omega) _|refine Below.alloc ?_ (by have hs_:=HB.size;first|(simp;done)|(simp;omega)|omega) _|apply Below.drew)) hb;clear HB;have HB:=n_;clear n_)
  |(go_at_call 116;refine(rCasts_is _ _ _ _ _ _ _ HC.out _).mono ?_;rintro e w2 ⟨rfl,hb⟩;obtain⟨hc,hf⟩:=bcell hb;obtain⟨z0,z1,z2,z3⟩:w.heap.size<w2.heap.size∧w.heap.size+1<w2.heap.size∧w.heap.size+1+1<w2.heap.size∧w.heap.size+1+1+1<w2.heap.size:=(by have hz_:=hb.size;(try simp at hz_);omega);have n_:Below w.heap.size w _:=below_seq (by repeat (first|exact HB|refine Below.setCell ?_ (by dsimp only;omega) _|refine Below.alloc ?_ (by have hs_:=HB.size;first|(simp;done)|(simp;omega)|omega) _|apply Below.drew)) hb;clear HB;have HB:=n_;clear n_))
 refine bodyPost_ret (v:=.tuple #[.agg #[.int .i64 k2,.int .u64 bits,.string (⟨#[]⟩:ByteArray)],.int .i64 0]) (by simp[results,Tryz.results80,go_sem, *]) rfl ⟨rfl,?_⟩
 (repeat (first|exact HB|refine Below.setCell ?_ (by dsimp only;omega) _|refine Below.alloc ?_ (by have hs_:=HB.size;first|(simp;done)|(simp;omega)|omega) _|apply Below.drew))
end
end Go.Proofs.YteembinfgbapgaaGreat
