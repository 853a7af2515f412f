/- Merged out of: Kp Kq Kr. -/
import Derived.Test.YteembinfgbapgaaGreatC00
import Derived.Test.YteembinfgbapgaaGreatC10
import Derived.Deep.DeepCutAuto
set_option linter.unusedSimpArgs false
set_option linter.unusedVariables false
set_option maxRecDepth 100000
set_option maxHeartbeats 8000000
namespace Go.Proofs.YteembinfgbapgaaGreat
section
open Go.RowKit
theorem whole_parts (b:Int) (h0:0≤b) (e q:Int) (he:b / 4503599627370496 % 2048 - 1075=e) (hq:b % 4503599627370496=q):wholeZ b.toNat=if e=972∧q≠0 then 0 else if 11≤e then(if 9223372036854775808≤b then -9223372036854775808 else 9223372036854775807) else if 9223372036854775808≤b then -(cutN (4503599627370496+q.toNat) e:Int) else(cutN (4503599627370496+q.toNat) e:Int):=by
 have h1:(fld b.toNat:Int)=e+1075:=by unfold fld;omega
 have h2:frc b.toNat=q.toNat:=by unfold frc;omega
 have h3:(ngB b.toNat=true)↔9223372036854775808≤b:=by simp[ngB];omega
 unfold wholeZ
 rw[h2,show(fld b.toNat:Int) - 1075=e by omega]
 have c1:(fld b.toNat=2047∧q.toNat≠0)↔(e=972∧q≠0):=by omega
 have c2:(1086≤fld b.toNat)↔11≤e:=by omega
 simp only[c1,c2,h3]
theorem cut_up (d:Nat) (k:Nat):cutN d (k:Int)=d * 2 ^ k:=by
 unfold cutN
 rw[show (-(k:Int)).toNat=0 by omega,Int.toNat_natCast];simp
theorem cut_down (d:Nat) (k:Nat):cutN d (-(k:Int))=d / 2 ^ k:=by
 unfold cutN
 rw[show (-(k:Int)).toNat=0 by omega,show(-(-(k:Int))).toNat=k by omega];simp
theorem pow_small {d k:Nat} (hd:d<9007199254740992) (hk:k≤10):d * 2 ^ k<9223372036854775808:=by
 have:2 ^ k≤2 ^ 10:=Nat.pow_le_pow_right (by decide) hk
 calc d * 2 ^ k≤d * 2 ^ 10:=Nat.mul_le_mul_left _ this
  _<_:=by omega
theorem rWhole_calls (b:Int) (h0:0≤b) (h1:b<18446744073709551616) (w:World):
 Calls Tryz.prog 119 #[.int .u64 b] w fun e w'=>e=.returned (.int .i64 (wholeZ b.toNat))∧w=w':=by
 obtain⟨r,hr⟩:∃r,wholeZ b.toNat=r:=⟨_,rfl⟩
 rw[hr]
 go_enter Tryz.func119,Tryz.ntmps119
 go_upto_region 4 with fail
 have hp:=whole_parts b h0 _ _ rfl rfl
 have he0:-1075≤b / 4503599627370496 % 2048 - 1075∧b / 4503599627370496 % 2048 - 1075≤972:=by omega
 generalize b / 4503599627370496 % 2048 - 1075=e at *
 rw[hr] at hp
 clear hr
 obtain⟨e0,e1⟩:=he0
 obtain⟨ng,hng⟩:∃ng,decide (9223372036854775808≤b)=ng:=⟨_,rfl⟩
 have hng':(9223372036854775808≤b)↔ng=true:=by rw[←hng];simp
 simp only[hng'] at hp
 clear hng'
 rw[hng]
 clear hng
 by_cases c1:e=972∧b % 4503599627370496≠0
 ·rw[if_pos c1] at hp
  obtain⟨rfl,c2⟩:=c1
  have t1:(b % 4503599627370496 != 0)=true:=by simpa using c2
  subst hp
  go_wp2
  go_ret
  exact⟨rfl,rfl⟩
 ·rw[if_neg c1] at hp
  have t1:(e == 972)=false∨(e=972∧(b % 4503599627370496 != 0)=false):=by
   by_cases h:e=972
   ·exact .inr ⟨h,by simpa[h] using c1⟩
   ·exact .inl (by simpa using h)
  clear c1
  by_cases c2:11≤e
  ·rw[if_pos c2] at hp
   rcases t1 with t1|⟨rfl,t1⟩ <;> cases ng
   all_goals
    simp only[Bool.false_eq_true,if_true,if_false] at hp
    subst hp
    go_wp2
    go_ret
    exact⟨rfl,rfl⟩
  ·rw[if_neg c2] at hp
   have t1:(e == 972)=false:=by simp;omega
   have t2:decide (11≤e)=false:=by simpa using c2
   by_cases c3:e< -52
   ·have hz:cutN (4503599627370496+(b % 4503599627370496).toNat) e=0:=by
     obtain⟨J,hJ⟩:∃J:Nat,e=-(J:Int):=⟨(-e).toNat,by omega⟩
     rw[hJ,cut_down]
     exact Nat.div_eq_of_lt (Nat.lt_of_lt_of_le (show _<2 ^ 53 by omega) (Nat.pow_le_pow_right (by decide) (by omega)))
    rw[hz] at hp
    obtain rfl:r=0:=by rw[hp];cases ng <;> rfl
    have t3:decide (e< -52)=true:=by simpa using c3
    clear hp
    go_wp2
    go_ret
    exact⟨rfl,rfl⟩
   ·have t3:decide (e< -52)=false:=by simpa using c3
    obtain⟨D,hD⟩:∃D:Nat,b % 4503599627370496+4503599627370496=D:=⟨(b % 4503599627370496+4503599627370496).toNat,by omega⟩
    have hD1:D<9007199254740992:=by omega
    rw[show 4503599627370496+(b % 4503599627370496).toNat=D by omega] at hp
    go_upto_region 13 with fail
    try rw[hD]
    by_cases c4:0≤e
    ·obtain⟨n,rfl⟩:∃n:Nat,e=n:=⟨e.toNat,by omega⟩
     rw[cut_up] at hp
     have hn:n≤10:=by omega
     go_loop [4,6] (fun a m=>∃k:Nat,k≤n∧a=.int .i64 ((n:Int) - k)∧m=.int .i64 ((D * 2 ^ k:Nat):Int)) (fun a _=>(intOf a).toNat)
     case atStart=>exact⟨0,by omega,by simp,by simp⟩
     case round=>
      obtain⟨k,hk,rfl,rfl⟩:=hrel
      by_cases hlt:k<n
      ·have g1:decide (0<(n:Int) - k)=true:=by simp;omega
       have g2:=pow_small hD1 (show k+1≤10 by omega)
       rw[Nat.pow_succ,←Nat.mul_assoc] at g2
       generalize hm:D * 2 ^ k=m at *
       go_wp2
       go_round
       case rel=>exact⟨k+1,by omega,by go_num,by rw[Nat.pow_succ,←Nat.mul_assoc,hm];go_num⟩
       case measure=>simp[intOf];omega
      ·obtain rfl:k=n:=by omega
       have g1:decide (0<(k:Int) - k)=false:=by simp
       have g2:=pow_small hD1 hn
       generalize D * 2 ^ k=m at *
       simp only[Int.sub_self] at g1 ⊢
       go_wp2
       go_loop [4,6] (fun a m'=>a=.int .i64 0∧m'=.int .i64 (m:Int)) (fun _ _=>0)
       case atStart=>exact⟨rfl,rfl⟩
       case round=>
        obtain⟨rfl,rfl⟩:=hrel
        cases ng
        all_goals
         simp only[Bool.false_eq_true,if_true,if_false] at hp
         subst hp
         go_wp2
         go_ret
         exact⟨rfl,rfl⟩
    ·obtain⟨n,rfl⟩:∃n:Nat,e=-(n:Int):=⟨(-e).toNat,by omega⟩
     rw[cut_down] at hp
     have hn:n≤52:=by omega
     have hn0:0<n:=by omega
     go_loop [4,6] (fun a m'=>a=.int .i64 (-(n:Int))∧m'=.int .i64 (D:Int)) (fun _ _=>0)
     case atStart=>exact⟨rfl,rfl⟩
     case round=>
      obtain⟨rfl,rfl⟩:=hrel
      have g1:decide (0< -(n:Int))=false:=decide_eq_false (by omega)
      go_wp2
      go_loop [4,6] (fun a m=>∃k:Nat,k≤n∧a=.int .i64 (-(n:Int)+k)∧m=.int .i64 ((D / 2 ^ k:Nat):Int)) (fun a _=>(-(intOf a)).toNat)
      case atStart=>exact⟨0,by omega,by simp,by simp⟩
      case round=>
       obtain⟨k,hk,rfl,rfl⟩:=hrel
       have hm2:D / 2 ^ k≤D:=Nat.div_le_self _ _
       by_cases hlt:k<n
       ·have g1:decide (-(n:Int)+k<0)=true:=by simp;omega
        have hs:D / 2 ^ (k+1)=D / 2 ^ k / 2:=by rw[Nat.pow_succ,Nat.div_div_eq_div_mul]
        generalize hm:D / 2 ^ k=m at *
        go_wp2
        go_round
        case rel=>exact⟨k+1,by omega,by go_num,by rw[hs];go_num⟩
        case measure=>simp[intOf];omega
       ·obtain rfl:k=n:=by omega
        have g1:decide (-(k:Int)+k<0)=false:=decide_eq_false (by omega)
        generalize D / 2 ^ k=m at *
        cases ng
        all_goals
         simp only[Bool.false_eq_true,if_true,if_false] at hp
         subst hp
         go_wp2
         go_ret
         exact⟨rfl,rfl⟩
def refB (k k2:Int) (more:Bool):Bool:=
 if k=k2 then true else if k≤4∧k2≤8 then more else if k=9∧k2≤8 then more || decide (k2=1) else if 5≤k∧k≤8∧5≤k2∧k2≤8 then more else if k≤8∧k2=10 then true else decide (k=10) && decide (k2=8)
theorem may_kind {k l:Int} (h:mayB k l=true):1≤k∧k≤12:=by
 by_cases hk:k=12
 ·omega
 ·have:=mayB_of h hk
  have:=(size_pos k).1 this.2
  omega
theorem casts_ref {k l k2 l2:Int} (h:mayB k l=true) (h2:mayB k2 l2=true):castsB k l k2 l2=refB k k2 (decide (longZ k l<longZ k2 l2)):=by
 have b1:=may_kind h
 have b2:=may_kind h2
 have hz:∀{k l:Int},mayB k l=true→longZ k l≠0:=fun {k l} h=>by
  by_cases hk:k=12
  ·subst hk
   have:=btw_iff.1 (mayB_12▸h)
   rw[long_12 h];omega
  ·have:=long_cases h hk;omega
 have n1:=hz h
 have n2:=hz h2
 have e9:k=9→longZ k l=1:=fun e=>by subst e;rw[longZ,if_pos h];rfl
 have e2:k2=2→longZ k2 l2=2:=fun e=>by subst e;rw[longZ,if_pos h2];rfl
 have e3:k2=3→longZ k2 l2=4:=fun e=>by subst e;rw[longZ,if_pos h2];rfl
 have e4:k2=4→longZ k2 l2=8:=fun e=>by subst e;rw[longZ,if_pos h2];rfl
 unfold castsB refB
 generalize longZ k l=x at *
 generalize longZ k2 l2=y at *
 clear hz h h2
 rw[Qx]
 simp only[btw,decide_eq_true_eq]
 rcases(by omega:k≤4∨(5≤k∧k≤8)∨k=9∨10≤k) with c|c|c|c
 all_goals grind (splits:=30)
theorem rCasts_calls (s s2:ByteArray) (k l k2 l2:Int) (w:World):Calls Tryz.prog 116 #[.agg #[.string s,.int .i64 k,.int .i64 l],.agg #[.string s2,.int .i64 k2,.int .i64 l2]] w fun e w'=>e=.returned (.bool (castsB k l k2 l2))∧Below w.heap.size w w':=by
 have HB:Below w.heap.size w ((w.alloc (.cells #[.string s,.int .i64 k,.int .i64 l] 68)).alloc (.cells #[.string s2,.int .i64 k2,.int .i64 l2] 68)):=(below_new _).alloc (by simp) _
 obtain⟨m1,hm1⟩:∃r,mayB k l=r:=⟨_,rfl⟩
 obtain⟨m2,hm2⟩:∃r,mayB k2 l2=r:=⟨_,rfl⟩
 have H1:=J0 hm1;have H2:=J0 hm2
 by_cases hb:m1=true∧m2=true
 ·obtain⟨rfl,rfl⟩:=hb
  rw[casts_ref hm1 hm2]
  obtain⟨b1,b2⟩:=may_kind hm1
  obtain⟨b3,b4⟩:=may_kind hm2
  clear hm1 hm2
  go_enter Tryz.func116,Tryz.ntmps116
  go_wp2_with (first
   |(go_at_call 113;refine(rMay_calls _ _ _ _).mono ?_;rintro e w1 ⟨rfl,hb⟩;obtain⟨hc,hf⟩:=bcell hb;obtain⟨z0,z1⟩:w.heap.size<w1.heap.size∧w.heap.size+1<w1.heap.size:=(by have hz_:=hb.size;(try simp at hz_);omega);(first|rw[H1.out]|rw[H2.out]);have n_:Below w.heap.size w _:=below_seq (by repeat (first|exact HB|refine J8 ?_ (by dsimp only;omega) _|refine Jk ?_ (by have hs_:=HB.size;first|(simp;done)|(simp;omega)|omega) _|apply Jv)) hb;clear HB;have HB:=n_;clear n_))
  have g1:FBox w1 w.heap.size s k l:=⟨by go_simp,by go_simp,by go_simp⟩
  have g2:FBox w1 (w.heap.size+1) s2 k2 l2:=⟨by go_simp,by go_simp,by go_simp⟩
  refine RW.start (fun w'=>Below w.heap.size w w'∧FBox w' w.heap.size s k l∧FBox w' (w.heap.size+1) s2 k2 l2) (by kernel_rfl) (by kernel_rfl) ⟨HB.drew,g1,g2⟩ ?_
  clear g1 g2 hc hf hb HB z0 z1
  repeat (first
   |(refine' RW.val (by rfl) ?_ ?_;rotate_left;(focus (intro w' hS;obtain⟨HB,⟨c0,c1,c2⟩,⟨d0,d1,d2⟩⟩:=hS;go_simp;rfl));simp only[Act.put,J1,J3,J2])
   |(refine RW.off (by rfl) ?_;simp only[Act.put,J1,J3,J2])
   |(refine' RW.call (by rfl) ?_ ?_ ?_
     rotate_left 3
     (focus (intro w' hS;obtain⟨HB,⟨c0,c1,c2⟩,⟨d0,d1,d2⟩⟩:=hS;go_simp;exact⟨rfl,rfl⟩))
     (focus
       intro w' hS
       obtain⟨HB,⟨c0,c1,c2⟩,⟨d0,d1,d2⟩⟩:=hS
       first
        |(refine(rLong_calls _ _ _ _).mono ?_;rintro e w1 ⟨rfl,hb⟩;exact⟨rfl,⟨(below_seq HB hb),⟨(cell_below (B:=0) hb c0),(cell_below (B:=0) hb c1),(cell_below (B:=0) hb c2)⟩,⟨(cell_below (B:=0) hb d0),(cell_below (B:=0) hb d1),(cell_below (B:=0) hb d2)⟩⟩⟩))
     simp only[Act.put,J1,J3,J2]))
  refine RW.done (fun w' hS=>?_)
  obtain⟨HB,⟨c0,c1,c2⟩,⟨d0,d1,d2⟩⟩:=hS
  go_wp2_with fail
  all_goals
   go_ret
   refine⟨ret_bool ?_,HB⟩
   clear HB c0 c1 c2 d0 d1 d2
   try simp only[beq_iff_eq,beq_eq_false_iff_ne,ne_eq] at *
   unfold refB
   generalize longZ k l=x at *
   generalize longZ k2 l2=y at *
   clear H1 H2
   grind (splits:=30)
 ·have hcf:castsB k l k2 l2=false:=by
   rw[castsB,if_pos]
   by_cases h1:m1=true
   ·have h2:m2=false:=by cases m2 <;> simp_all
    exact .inr (by rw[longZ,hm2,h2];rfl)
   ·have h1:m1=false:=by simpa using h1
    exact .inl (by rw[longZ,hm1,h1];rfl)
  rw[hcf]
  have hb':m1=false∨(m1=true∧m2=false):=by cases m1 <;> cases m2 <;> simp_all
  clear hm1 hm2 hcf hb
  rcases hb' with rfl|⟨rfl,rfl⟩
  all_goals
   go_enter Tryz.func116,Tryz.ntmps116
   go_wp2_with (first
    |(go_at_call 113;refine(rMay_calls _ _ _ _).mono ?_;rintro e w1 ⟨rfl,hb⟩;obtain⟨hc,hf⟩:=bcell hb;obtain⟨z0,z1⟩:w.heap.size<w1.heap.size∧w.heap.size+1<w1.heap.size:=(by have hz_:=hb.size;(try simp at hz_);omega);(first|rw[H1.out]|rw[H2.out]);have n_:Below w.heap.size w _:=below_seq (by repeat (first|exact HB|refine J8 ?_ (by dsimp only;omega) _|refine Jk ?_ (by have hs_:=HB.size;first|(simp;done)|(simp;omega)|omega) _|apply Jv)) hb;clear HB;have HB:=n_;clear n_))
   go_ret
   exact⟨ret_bool rfl,HB⟩
def hlB (m:Nat):Nat→Bool
 |0=>false
 |k+1=>(((m / 2 ^ k:Nat):Int) % 2 == 1)
def ltB (m:Nat):Nat→Bool
 |0=>false
 |k+1=>!(decide (m % 2 ^ k=0))
theorem lo_step (m k:Nat):ltB m (k+1)=(ltB m k || hlB m k):=by
 cases k with
 |zero=>simp[ltB,hlB,Nat.mod_one]
 |succ j=>
  have hp:=Nat.two_pow_pos j
  simp only[ltB,hlB]
  rw[Nat.mod_pow_succ]
  have h2:m / 2 ^ j % 2=0∨m / 2 ^ j % 2=1:=by omega
  rw[Qx]
  simp only[Bool.not_eq_true',decide_eq_false_iff_not,Bool.or_eq_true,beq_iff_eq]
  generalize 2 ^ j=P at *
  generalize m / P=Q at *
  rcases h2 with h|h
  ·rw[h];omega
  ·rw[h];omega
theorem rup_is (m:Nat) (h:52<m.log2):rup m=(hlB m (m.log2 - 52) && (ltB m (m.log2 - 52) || ((sgn m:Int) % 2 == 1))):=by
 have hs:sgn m=m / 2 ^ (m.log2 - 52):=by rw[sgn,if_neg (by omega)]
 rw[hs,rup,decide_eq_true h,Bool.true_and]
 obtain⟨j,hj⟩:∃j,m.log2 - 52=j+1:=⟨m.log2 - 53,by omega⟩
 rw[hj]
 simp only[ltB,hlB]
 have e:=Nat.mod_pow_succ (x:=m) (b:=2) (k:=j)
 rw[e]
 clear e
 have hp:=Nat.two_pow_pos j
 have h2:m / 2 ^ j % 2=0∨m / 2 ^ j % 2=1:=by omega
 have hlt:=Nat.mod_lt m hp
 rw[Nat.pow_succ]
 generalize m / (2 ^ j * 2)=R at *
 generalize 2 ^ j=P at *
 generalize m % P=S at *
 generalize m / P=Q at *
 rw[Qx]
 simp only[Bool.or_eq_true,Qy,decide_eq_true_eq,beq_iff_eq,Bool.not_eq_true',decide_eq_false_iff_not]
 rcases h2 with h|h
 ·rw[h];omega
 ·rw[h];omega
theorem div_big {m k:Nat} (h0:m≠0) (h:k<m.log2 - 52):9007199254740992≤m / 2 ^ k:=by
 have h1:=Nat.log2_self_le h0
 rw[Nat.le_div_iff_mul_le (Nat.two_pow_pos k)]
 calc 9007199254740992 * 2 ^ k=2 ^ (53+k):=by rw[Nat.pow_add]
  _≤2 ^ m.log2:=Nat.pow_le_pow_right (by decide) (by omega)
  _≤m:=h1
theorem mul_small {m k:Nat} (h0:m≠0) (h:k<52 - m.log2):m * 2 ^ k<4503599627370496:=by
 have h1:m<2 ^ (m.log2+1):=Nat.lt_log2_self
 calc m * 2 ^ k<2 ^ (m.log2+1) * 2 ^ k:=Nat.mul_lt_mul_of_pos_right h1 (Nat.two_pow_pos k)
  _=2 ^ (m.log2+1+k):=by rw[←Nat.pow_add]
  _≤2 ^ 52:=Nat.pow_le_pow_right (by decide) (by omega)
def refF (m:Nat) (minus:Bool):Int:=if m=0 then 0 else(fBits minus m:Int)
theorem rFloat_zero (minus:Bool) (w:World):Calls Tryz.prog 118 #[.int .u64 0,.bool minus] w fun e w'=>e=.returned (.int .u64 0)∧w=w':=by
 go_enter Tryz.func118,Tryz.ntmps118
 go_wp2
 go_ret
 exact⟨rfl,rfl⟩
theorem rFloat_big (m:Nat) (h0:m≠0) (h1:m<18446744073709551616) (hL:52<m.log2) (minus:Bool) (r:Int) (hr:(fBits minus m:Int)=r) (w:World):Calls Tryz.prog 118 #[.int .u64 m,.bool minus] w fun e w'=>e=.returned (.int .u64 r)∧w=w':=by
 have hl64:m.log2<64:=by rw[Nat.log2_lt h0];omega
 have t0:((m:Int) == 0)=false:=by simpa using h0
 have hsg:=sgn_bd m h0
 have hrp:=rup_is m hL
 have hsd:m / 2 ^ (m.log2 - 52)=sgn m:=by rw[sgn,if_neg (by omega)]
 rw[fBits,if_neg h0] at hr
 have hbig:=fun k=>div_big (m:=m) (k:=k) h0
 obtain⟨K,hK⟩:∃K,m.log2 - 52=K:=⟨_,rfl⟩
 rw[hK] at hrp hsd hbig
 have hKL:m.log2=K+52:=by omega
 rw[hKL] at hr
 go_enter Tryz.func118,Tryz.ntmps118
 go_wp2
 go_loop [0,5,6,7] (fun x p lo hf=>∃k:Nat,k≤K∧x=.int .u64 ((m / 2 ^ k:Nat):Int)∧p=.int .i64 (1075+k)∧lo=.bool (ltB m k)∧hf=.bool (hlB m k)) (fun _ p _ _=>K+1075 - (intOf p).toNat)
 case atStart=>exact⟨0,by omega,by simp,by simp,rfl,rfl⟩
 case round=>
  obtain⟨k,hk,rfl,rfl,rfl,rfl⟩:=hrel
  by_cases hlt:k<K
  ·have hb:=hbig k hlt
   have hle:m / 2 ^ k≤m:=Nat.div_le_self _ _
   have hst:=lo_step m k
   have hh:hlB m (k+1)=(((m / 2 ^ k:Nat):Int) % 2 == 1):=rfl
   have hd:m / 2 ^ (k+1)=m / 2 ^ k / 2:=by rw[Nat.pow_succ,Nat.div_div_eq_div_mul]
   generalize hx:m / 2 ^ k=x at *
   have g1:decide (9007199254740992≤(x:Int))=true:=by simp;omega
   generalize ltB m k=a at *
   generalize hlB m k=b at *
   clear hrp hsd hsg hr
   cases a
   all_goals
    go_wp2
    go_round
    case rel=>exact⟨k+1,by omega,by rw[hd];go_num,by go_num,by rw[hst];rfl,by rw[hh]⟩
    case measure=>simp[intOf];omega
  ·obtain rfl:k=K:=by omega
   rw[hsd]
   generalize sgn m=g at *
   generalize ltB m k=a at *
   generalize hlB m k=b at *
   generalize rup m=u at *
   have hkk:k≤11:=by omega
   clear hbig hsd hK hKL h0 h1 hL t0 hl64 hk hlt
   obtain⟨g0,g1⟩:=hsg
   have z1:decide (9007199254740992≤(g:Int))=false:=by simp;omega
   have z2:decide ((g:Int)<4503599627370496)=false:=by simp;omega
   obtain⟨c,hc⟩:∃c,((g:Int) % 2 == 1)=c:=⟨_,rfl⟩
   rw[hc] at hrp
   go_wp2
   go_loop [0,5] (fun x p=>x=.int .u64 (g:Int)∧p=.int .i64 (1075+k)) (fun _ _=>0)
   case atStart=>exact⟨rfl,rfl⟩
   case round=>
    obtain⟨rfl,rfl⟩:=hrel
    cases b <;> cases a <;> cases c <;> cases minus
    all_goals
     simp only[Bool.and_false,Bool.false_and,Bool.and_true,Bool.true_and,Bool.or_true,Bool.true_or,Bool.or_false,Bool.false_or] at hrp
     subst hrp
     simp only[Bool.toNat_false,Bool.toNat_true,Bool.false_eq_true,if_true,if_false] at hr
     go_wp2
     go_ret
     exact⟨ret_int (by omega),rfl⟩
theorem rFloat_small (m:Nat) (h0:m≠0) (h1:m<18446744073709551616) (hL:m.log2≤52) (minus:Bool) (r:Int) (hr:(fBits minus m:Int)=r) (w:World):Calls Tryz.prog 118 #[.int .u64 m,.bool minus] w fun e w'=>e=.returned (.int .u64 r)∧w=w':=by
 have t0:((m:Int) == 0)=false:=by simpa using h0
 have hsg:=sgn_bd m h0
 have hrp:rup m=false:=by rw[rup,decide_eq_false (by omega)];rfl
 have hsd:m * 2 ^ (52 - m.log2)=sgn m:=by rw[sgn,if_pos hL]
 have hm:m<9007199254740992:=by
  have:=(Nat.log2_lt (n:=m) (k:=53) h0).1 (by omega)
  omega
 rw[fBits,if_neg h0,hrp] at hr
 have hbig:=fun k=>mul_small (m:=m) (k:=k) h0
 obtain⟨K,hK⟩:∃K,52 - m.log2=K:=⟨_,rfl⟩
 rw[hK] at hsd hbig
 obtain⟨L,hKL⟩:∃L,m.log2=L:=⟨_,rfl⟩
 rw[hKL] at hr
 have hLK:L+K=52:=by omega
 have z1:decide (9007199254740992≤(m:Int))=false:=by simp;omega
 go_enter Tryz.func118,Tryz.ntmps118
 go_wp2
 go_loop [0,5,6,7] (fun x p lo hf=>x=.int .u64 (m:Int)∧p=.int .i64 1075∧lo=.bool false∧hf=.bool false) (fun _ _ _ _=>0)
 case atStart=>exact⟨rfl,rfl,rfl,rfl⟩
 case round=>
  obtain⟨rfl,rfl,rfl,rfl⟩:=hrel
  go_wp2
  go_loop [0,5] (fun x p=>∃k:Nat,k≤K∧x=.int .u64 ((m * 2 ^ k:Nat):Int)∧p=.int .i64 (1075 - (k:Int))) (fun _ p=>((intOf p) - 1023).toNat)
  case atStart=>exact⟨0,by omega,by simp,by simp⟩
  case round=>
   obtain⟨k,hk,rfl,rfl⟩:=hrel
   by_cases hlt:k<K
   ·have hb:=hbig k hlt
    have hd:m * 2 ^ (k+1)=m * 2 ^ k * 2:=by rw[Nat.pow_succ,Nat.mul_assoc]
    generalize hx:m * 2 ^ k=x at *
    have g1:decide ((x:Int)<4503599627370496)=true:=by simp;omega
    clear hrp hsd hsg hr hbig
    go_wp2
    go_round
    case rel=>exact⟨k+1,by omega,by rw[hd];(first|rfl|(simp;done)|(simp;omega)),by rw[show (1075 - (k:Int) - 1)=1075 - ((k+1:Nat):Int) by omega]⟩
    case measure=>simp[intOf];omega
   ·obtain rfl:k=K:=by omega
    rw[hsd]
    generalize sgn m=g at *
    clear hbig hsd hK h0 hL t0 hk hlt hrp hKL z1
    obtain⟨g0,g1⟩:=hsg
    have z2:decide ((g:Int)<4503599627370496)=false:=by simp;omega
    cases minus
    all_goals
     simp only[Bool.toNat_false,Bool.toNat_true,Bool.false_eq_true,if_true,if_false] at hr
     go_wp2
     go_ret
     exact⟨ret_int (by omega),rfl⟩
end
end Go.Proofs.YteembinfgbapgaaGreat
