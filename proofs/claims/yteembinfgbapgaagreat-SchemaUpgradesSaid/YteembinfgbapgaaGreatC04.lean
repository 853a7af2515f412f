/- Merged out of: Fl Kh. -/
import Derived.Test.YteembinfgbapgaaGreatC00
import Derived.Laws.FloatArith
import GoSem.Extern.MathFloor
import Derived.WalkKit
import Derived.Deep.Draws
import Derived.Test.YteembinfgbapgaaGreatC03
import Derived.Laws.Externs
import Derived.Deep.DeepCutAuto
set_option linter.unusedSimpArgs false
set_option linter.unusedVariables false
set_option maxRecDepth 100000
set_option maxHeartbeats 8000000
namespace Go.Proofs.YteembinfgbapgaaGreat
section
open Ieee
def fld (B:Nat):Nat:=B / 4503599627370496 % 2048
def frc (B:Nat):Nat:=B % 4503599627370496
def ngB (B:Nat):Bool:=decide (9223372036854775808≤B)
theorem read_eq (B:Nat) (h:B<18446744073709551616):Format.read double B =
 if fld B=0 then .number (ngB B) (frc B) (-1074) else if fld B<2047 then .number (ngB B) (4503599627370496+frc B) ((fld B:Int) - 1075) else if frc B=0 then .infinity (ngB B) else .nan (ngB B) (frc B):=by
 have e1:double.signWeight=9223372036854775808:=rfl
 have e2:double.binade=4503599627370496:=rfl
 have e3:double.infRung=9218868437227405312:=rfl
 have e4:double.leastPlace=-1074:=rfl
 unfold Format.read
 simp only[e1,e2,e3,e4]
 have hn:(B / 9223372036854775808 % 2 == 1)=ngB B:=by
  rw[Qx];simp[ngB];omega
 rw[hn]
 unfold fld frc
 by_cases c1:B % 9223372036854775808<4503599627370496
 ·have f0:B / 4503599627370496 % 2048=0:=by omega
  rw[if_pos c1,if_pos f0]
  congr 1;omega
 ·have f0:¬B / 4503599627370496 % 2048=0:=by omega
  rw[if_neg c1,if_neg f0]
  by_cases c2:B % 9223372036854775808<9218868437227405312
  ·have f1:B / 4503599627370496 % 2048<2047:=by omega
   rw[if_pos c2,if_pos f1]
   congr 1 <;> omega
  ·have f1:¬B / 4503599627370496 % 2048<2047:=by omega
   rw[if_neg c2,if_neg f1]
   by_cases c3:B % 9223372036854775808=9218868437227405312
   ·have f2:B % 4503599627370496=0:=by omega
    rw[if_pos c3,if_pos f2]
   ·have f2:¬B % 4503599627370496=0:=by omega
    rw[if_neg c3,if_neg f2,show B % 9223372036854775808 - 9218868437227405312=B % 4503599627370496 by omega]
def sgn (n:Nat):Nat:=if n.log2≤52 then n * 2 ^ (52 - n.log2) else n / 2 ^ (n.log2 - 52)
theorem sgn_bd (n:Nat) (h:n≠0):4503599627370496≤sgn n∧sgn n<9007199254740992:=by
 have a:=Nat.log2_self_le h
 have b:=@Nat.lt_log2_self n
 unfold sgn
 split
 ·rename_i hl
  have e1:2 ^ n.log2 * 2 ^ (52 - n.log2)=4503599627370496:=by rw[←Nat.pow_add,show n.log2+(52 - n.log2)=52 by omega]
  have e2:2 ^ (n.log2+1) * 2 ^ (52 - n.log2)=9007199254740992:=by rw[←Nat.pow_add,show n.log2+1+(52 - n.log2)=53 by omega]
  constructor
  ·rw[←e1];exact Nat.mul_le_mul_right _ a
  ·rw[←e2];exact Nat.mul_lt_mul_of_pos_right b (Nat.two_pow_pos _)
 ·rename_i hl
  have e1:2 ^ n.log2=4503599627370496 * 2 ^ (n.log2 - 52):=by rw[show (4503599627370496:Nat)=2 ^ 52 from rfl,←Nat.pow_add,show 52+(n.log2 - 52)=n.log2 by omega]
  have e2:2 ^ (n.log2+1)=9007199254740992 * 2 ^ (n.log2 - 52):=by rw[show (9007199254740992:Nat)=2 ^ 53 from rfl,←Nat.pow_add,show 53+(n.log2 - 52)=n.log2+1 by omega]
  constructor
  ·rw[Nat.le_div_iff_mul_le (Nat.two_pow_pos _),←e1];exact a
  ·rw[Nat.div_lt_iff_lt_mul (Nat.two_pow_pos _),←e2];exact b
def rup (n:Nat):Bool:=decide (52<n.log2) && (decide (2 ^ (n.log2 - 52)<2 * (n % 2 ^ (n.log2 - 52))) || (2 ^ (n.log2 - 52) == 2 * (n % 2 ^ (n.log2 - 52)) && n / 2 ^ (n.log2 - 52) % 2 == 1))
theorem nearest_eq (s:Bool) (n:Nat) (h:n≠0) (hL:n.log2≤1023):Format.nearest double s n 0=double.word s ((n.log2+1022) * 4503599627370496+(sgn n+(rup n).toNat)):=by
 have e2:double.binade=4503599627370496:=rfl
 have e3:double.infRung=9218868437227405312:=rfl
 have e4:double.leastPlace=-1074:=rfl
 have e5:double.fractionBits=52:=rfl
 have hb:=sgn_bd n h
 unfold Format.nearest
 rw[if_neg h]
 dsimp only
 rw[e2,e3,e4,e5]
 have el:max ((0:Int)+(n.log2:Nat) - (52:Nat)) (-1074)=(n.log2:Int) - 52:=by omega
 rw[el]
 have ek:Toward.even.cut s (n <<< (0 - ((n.log2:Int) - 52)).toNat) (((n.log2:Int) - 52) - 0).toNat=sgn n+(rup n).toNat:=by
  unfold Toward.cut
  by_cases hl:n.log2≤52
  ·have z1:(0 - ((n.log2:Int) - 52)).toNat=52 - n.log2:=by omega
   have z2:(((n.log2:Int) - 52) - 0).toNat=0:=by omega
   rw[z1,z2]
   simp[sgn,hl,rup,Nat.shiftLeft_eq,show ¬52<n.log2 by omega]
   omega
  ·have z1:(0 - ((n.log2:Int) - 52)).toNat=0:=by omega
   have z2:(((n.log2:Int) - 52) - 0).toNat=n.log2 - 52:=by omega
   rw[z1,z2]
   have zm:min (n.log2 - 52) ((n <<< 0).log2+2)=n.log2 - 52:=by simp;omega
   rw[zm]
   simp only[Nat.shiftLeft_zero,Nat.one_shiftLeft]
   simp[sgn,hl,rup,show 52<n.log2 by omega]
 rw[ek]
 have er:((((n.log2:Int) - 52) - -1074).toNat)=n.log2+1022:=by omega
 rw[er]
 congr 1
 have:(rup n).toNat≤1:=by cases rup n <;> simp
 apply Nat.min_eq_left
 omega
def fBits (s:Bool) (n:Nat):Nat:=(if s then 9223372036854775808 else 0)+if n=0 then 0 else(n.log2+1022) * 4503599627370496+(sgn n+(rup n).toNat)
theorem nearest_bits (s:Bool) (n:Nat) (hL:n.log2≤1023):Format.nearest double s n 0=fBits s n:=by
 unfold fBits
 by_cases h:n=0
 ·subst h;cases s <;> rfl
 ·rw[nearest_eq s n h hL,if_neg h]
  unfold Format.word
  have:double.signWeight=9223372036854775808:=rfl
  rw[this]
  cases s <;> simp
theorem sgn_le (n:Nat):sgn n+(rup n).toNat≤9007199254740992:=by
 by_cases h:n=0
 ·subst h;decide
 ·have:=sgn_bd n h
  have:(rup n).toNat≤1:=by cases rup n <;> simp
  omega
theorem fBits_lt (s:Bool) (n:Nat) (hL:n.log2≤1023):fBits s n<18446744073709551616:=by
 have:=sgn_le n
 unfold fBits
 split <;> split <;> omega
def exact53 (n:Nat):Prop:=n % 2 ^ (n.log2 - 52)=0
theorem rup_exact {n:Nat} (h:exact53 n):rup n=false:=by
 unfold rup
 unfold exact53 at h
 rw[h]
 have:=Nat.two_pow_pos (n.log2 - 52)
 simp
theorem read_exact (s:Bool) (n:Nat) (h:n≠0) (hL:n.log2≤1023) (he:exact53 n):Format.read double (fBits s n)=.number s (sgn n) ((n.log2:Int) - 52):=by
 have hb:=sgn_bd n h
 rw[read_eq _ (fBits_lt s n hL)]
 have e:fBits s n=(if s then 9223372036854775808 else 0)+((n.log2+1022) * 4503599627370496+sgn n):=by
  unfold fBits;rw[if_neg h,rup_exact he];simp
 have hf:fld (fBits s n)=n.log2+1023:=by rw[e];unfold fld;split <;> omega
 have hr:frc (fBits s n)=sgn n - 4503599627370496:=by rw[e];unfold frc;split <;> omega
 have hn:ngB (fBits s n)=s:=by rw[e];unfold ngB;cases s <;> simp <;> omega
 rw[hf,hr,hn,if_neg (by omega),if_pos (by omega),show 4503599627370496+(sgn n - 4503599627370496)=sgn n by omega,show((n.log2+1023:Nat):Int) - 1075=(n.log2:Int) - 52 by omega]
def cutN (m:Nat) (e:Int):Nat:=m * 2 ^ e.toNat / 2 ^ (-e).toNat
theorem integral_eq (s:Bool) (m:Nat) (e:Int):(Datum.number s m e).integral .zero=.number s (cutN m e) 0:=by
 unfold Datum.integral Toward.cut cutN
 simp only[Nat.shiftLeft_eq,Nat.one_mul]
 congr 1
 simp only[Bool.toNat_false,Nat.add_zero]
 generalize m * 2 ^ e.toNat=a
 generalize (-e).toNat=d
 rcases Nat.le_total d (a.log2+2) with hd|hd
 ·rw[Nat.min_eq_left hd]
 ·rw[Nat.min_eq_right hd]
  have h1:=@Nat.lt_log2_self a
  have h2:a<2 ^ (a.log2+2):=Nat.lt_of_lt_of_le h1 (Nat.pow_le_pow_right (by decide) (by omega))
  rw[Nat.div_eq_of_lt h2,Nat.div_eq_of_lt (Nat.lt_of_lt_of_le h2 (Nat.pow_le_pow_right (by decide) hd))]
theorem cut_exact (n:Nat) (he:exact53 n):cutN (sgn n) ((n.log2:Int) - 52)=n:=by
 unfold cutN sgn
 by_cases hl:n.log2≤52
 ·rw[if_pos hl,show((n.log2:Int) - 52).toNat=0 by omega,show(-((n.log2:Int) - 52)).toNat=52 - n.log2 by omega,Nat.pow_zero,Nat.mul_one,Nat.mul_div_cancel _ (Nat.two_pow_pos _)]
 ·rw[if_neg hl,show((n.log2:Int) - 52).toNat=n.log2 - 52 by omega,show(-((n.log2:Int) - 52)).toNat=0 by omega,Nat.pow_zero,Nat.div_one]
  exact Nat.div_mul_cancel (Nat.dvd_of_mod_eq_zero he)
theorem cutN_exact (m:Nat) (e:Int) (hm:m<9007199254740992):exact53 (cutN m e):=by
 unfold exact53
 rcases Int.le_total 0 e with h|h
 ·have e1:cutN m e=m * 2 ^ e.toNat:=by unfold cutN;rw[show (-e).toNat=0 by omega,Nat.pow_zero,Nat.div_one]
  rw[e1]
  by_cases h0:m=0
  ·subst h0;simp
  have hne:m * 2 ^ e.toNat≠0:=Nat.mul_ne_zero h0 (Nat.ne_of_gt (Nat.two_pow_pos _))
  have hlt:(m * 2 ^ e.toNat).log2<53+e.toNat:=by
   rw[Nat.log2_lt hne,Nat.pow_add]
   exact Nat.mul_lt_mul_of_pos_right hm (Nat.two_pow_pos _)
  obtain⟨d,hd⟩:∃d,e.toNat=((m * 2 ^ e.toNat).log2 - 52)+d:=⟨e.toNat - ((m * 2 ^ e.toNat).log2 - 52),by omega⟩
  generalize (m * 2 ^ e.toNat).log2 - 52=q at hd ⊢
  rw[hd,Nat.pow_add,Nat.mul_comm m,Nat.mul_assoc]
  exact Nat.mul_mod_right _ _
 ·have e1:cutN m e=m / 2 ^ (-e).toNat:=by unfold cutN;rw[show e.toNat=0 by omega,Nat.pow_zero,Nat.mul_one]
  have hle:cutN m e<9007199254740992:=by rw[e1];exact Nat.lt_of_le_of_lt (Nat.div_le_self _ _) hm
  by_cases h0:cutN m e=0
  ·rw[h0];simp
  have:(cutN m e).log2<53:=by rw[Nat.log2_lt h0];exact hle
  rw[show (cutN m e).log2 - 52=0 by omega,Nat.pow_zero,Nat.mod_one]
theorem cutN_log (m:Nat) (e:Int) (hm:m<9007199254740992) (he:e≤971):(cutN m e).log2≤1023:=by
 by_cases h0:cutN m e=0
 ·rw[h0];decide
 ·obtain⟨J,hJ⟩:∃J,J=971:=⟨_,rfl⟩
  have:(cutN m e).log2<53+J:=by
   rw[Nat.log2_lt h0]
   unfold cutN
   refine Nat.lt_of_le_of_lt (Nat.div_le_self _ _) ?_
   rw[Nat.pow_add]
   exact Nat.mul_lt_mul_of_lt_of_le hm (Nat.pow_le_pow_right (by decide) (by omega)) (Nat.two_pow_pos _)
  omega
theorem cmp_lt {a b:Int} (h:a<b):compare a b=.lt:=by simp[compare,compareOfLessAndEq,h]
theorem cmp_eq {a b:Int} (h:a=b):compare a b=.eq:=by subst h;simp[compare,compareOfLessAndEq]
theorem cmp_gt {a b:Int} (h:b<a):compare a b=.gt:=by
 simp only[compare,compareOfLessAndEq]
 rw[if_neg (by omega),if_neg (by omega)]
theorem sg_pos (m k:Nat):signed false m k=((m * 2 ^ k:Nat):Int):=by simp[signed,Nat.shiftLeft_eq]
theorem sg_neg (m k:Nat):signed true m k=-((m * 2 ^ k:Nat):Int):=by simp[signed,Nat.shiftLeft_eq]
theorem big_scaled (n:Nat) (h:n≠0) (hL:63≤n.log2):(n.log2=63∧sgn n * 2 ^ (n.log2 - 63)=sgn n)∨(n.log2≠63∧9007199254740992≤sgn n * 2 ^ (n.log2 - 63)):=by
 have hb:=sgn_bd n h
 by_cases he:n.log2=63
 ·exact .inl ⟨he,by rw[he];simp⟩
 ·refine .inr ⟨he,?_⟩
  have h2:2≤2 ^ (n.log2 - 63):=by
   have:=Nat.pow_le_pow_right (show 0<2 by decide) (show 1≤n.log2 - 63 by omega)
   simpa using this
  have h3:4503599627370496 * 2≤sgn n * 2 ^ (n.log2 - 63):=Nat.mul_le_mul hb.1 h2
  omega
theorem small_scaled (n:Nat) (hL:¬63≤n.log2):9007199254740992≤4503599627370496 * 2 ^ (63 - n.log2):=by
 have h2:2≤2 ^ (63 - n.log2):=by
  have:=Nat.pow_le_pow_right (show 0<2 by decide) (show 1≤63 - n.log2 by omega)
  simpa using this
 have h3:4503599627370496 * 2≤4503599627370496 * 2 ^ (63 - n.log2):=Nat.mul_le_mul (J9 _) h2
 omega
theorem order_hi (s:Bool) (n:Nat) (h:n≠0):(Datum.number s (sgn n) ((n.log2:Int) - 52)).order (.number false 4503599627370496 11)=some (if s=false∧63≤n.log2 then(if n.log2=63∧sgn n=4503599627370496 then .eq else .gt) else .lt):=by
 have hb:=sgn_bd n h
 unfold Datum.order
 dsimp only
 congr 1
 by_cases hL:63≤n.log2
 ·rw[show min ((n.log2:Int) - 52) 11=11 by omega,show(((n.log2:Int) - 52) - 11).toNat=n.log2 - 63 by omega,sg_pos]
  have hs:=big_scaled n h hL
  cases s
  ·rw[sg_pos,if_pos ⟨rfl,hL⟩]
   rcases hs with ⟨e1,e2⟩|⟨e1,e2⟩
   ·rw[e2]
    by_cases hq:sgn n=4503599627370496
    ·rw[if_pos ⟨e1,hq⟩];exact cmp_eq (by rw[hq];rfl)
    ·rw[if_neg (fun c=>hq c.2)];exact cmp_gt (by rw[show ((11:Int) - 11).toNat=0 from rfl];omega)
   ·rw[if_neg (fun c=>e1 c.1)];exact cmp_gt (by rw[show ((11:Int) - 11).toNat=0 from rfl];generalize sgn n * 2 ^ (n.log2 - 63)=q at *;omega)
  ·rw[sg_neg,if_neg (fun c=>by cases c.1)]
   exact cmp_lt (by rw[show ((11:Int) - 11).toNat=0 from rfl];generalize sgn n * 2 ^ (n.log2 - 63)=q;omega)
 ·rw[show min ((n.log2:Int) - 52) 11=(n.log2:Int) - 52 by omega,show(((n.log2:Int) - 52) - ((n.log2:Int) - 52)).toNat=0 by omega,show((11:Int) - ((n.log2:Int) - 52)).toNat=63 - n.log2 by omega,sg_pos,if_neg (fun c=>hL c.2)]
  have hs:=small_scaled n hL
  cases s
  ·rw[sg_pos];exact cmp_lt (by generalize 4503599627370496 * 2 ^ (63 - n.log2)=q at *;rw[Nat.pow_zero,Nat.mul_one];omega)
  ·rw[sg_neg];exact cmp_lt (by generalize 4503599627370496 * 2 ^ (63 - n.log2)=q at *;rw[Nat.pow_zero,Nat.mul_one];omega)
theorem order_lo (s:Bool) (n:Nat) (h:n≠0):(Datum.number s (sgn n) ((n.log2:Int) - 52)).order (.number true 4503599627370496 11)=some (if s=true∧63≤n.log2 then(if n.log2=63∧sgn n=4503599627370496 then .eq else .lt) else .gt):=by
 have hb:=sgn_bd n h
 unfold Datum.order
 dsimp only
 congr 1
 by_cases hL:63≤n.log2
 ·rw[show min ((n.log2:Int) - 52) 11=11 by omega,show(((n.log2:Int) - 52) - 11).toNat=n.log2 - 63 by omega,sg_neg 4503599627370496]
  have hs:=big_scaled n h hL
  cases s
  ·rw[sg_pos,if_neg (fun c=>by cases c.1)]
   exact cmp_gt (by rw[show ((11:Int) - 11).toNat=0 from rfl];generalize sgn n * 2 ^ (n.log2 - 63)=q;omega)
  ·rw[sg_neg,if_pos ⟨rfl,hL⟩]
   rcases hs with ⟨e1,e2⟩|⟨e1,e2⟩
   ·rw[e2]
    by_cases hq:sgn n=4503599627370496
    ·rw[if_pos ⟨e1,hq⟩];exact cmp_eq (by rw[hq];rfl)
    ·rw[if_neg (fun c=>hq c.2)];exact cmp_lt (by rw[show ((11:Int) - 11).toNat=0 from rfl];omega)
   ·rw[if_neg (fun c=>e1 c.1)];exact cmp_lt (by rw[show ((11:Int) - 11).toNat=0 from rfl];generalize sgn n * 2 ^ (n.log2 - 63)=q at *;omega)
 ·rw[show min ((n.log2:Int) - 52) 11=(n.log2:Int) - 52 by omega,show(((n.log2:Int) - 52) - ((n.log2:Int) - 52)).toNat=0 by omega,show((11:Int) - ((n.log2:Int) - 52)).toNat=63 - n.log2 by omega,sg_neg 4503599627370496,if_neg (fun c=>hL c.2)]
  have hs:=small_scaled n hL
  cases s
  ·rw[sg_pos];exact cmp_gt (by generalize 4503599627370496 * 2 ^ (63 - n.log2)=q at *;rw[Nat.pow_zero,Nat.mul_one];omega)
  ·rw[sg_neg];exact cmp_gt (by generalize 4503599627370496 * 2 ^ (63 - n.log2)=q at *;rw[Nat.pow_zero,Nat.mul_one];omega)
def wholeZ (B:Nat):Int:=
 if fld B=2047∧frc B≠0 then 0
 else if 1086≤fld B then(if ngB B=true then -9223372036854775808 else 9223372036854775807)
 else if ngB B=true then -(cutN (4503599627370496+frc B) ((fld B:Int) - 1075):Int) else(cutN (4503599627370496+frc B) ((fld B:Int) - 1075):Int)
def TruncOf (B x:Nat):Prop:=if fld B=2047 then(if frc B=0 then x=FloatKind.f64.encode (.infinity (ngB B)) else(FloatKind.f64.decode x).isNaN=true) else x=fBits (ngB B) (if fld B=0 then 0 else cutN (4503599627370496+frc B) ((fld B:Int) - 1075))
theorem frc_lt (B:Nat):frc B<4503599627370496:=by unfold frc;omega
theorem fld_lt (B:Nat):fld B<2048:=by unfold fld;omega
theorem cut_small (m:Nat) (hm:m<9007199254740992):cutN m (-1074)=0:=by
 unfold cutN
 obtain⟨J,hJ⟩:∃J:Nat,J=1021:=⟨_,rfl⟩
 have e:(-(-1074:Int)).toNat=53+J:=by omega
 rw[show ((-1074:Int)).toNat=0 from rfl,e,Nat.pow_zero,Nat.mul_one,Nat.pow_add]
 exact Nat.div_eq_of_lt (Nat.lt_of_lt_of_le hm (Nat.le_mul_of_pos_right _ (Nat.two_pow_pos _)))
theorem read_nan (s:Bool) (t:Nat) (h0:t≠0) (h1:t<4503599627370496):(Format.read double (Format.write double (.nan s t))).isNaN=true:=by
 have e:Format.write double (.nan s t)=(if s then 9223372036854775808 else 0)+(9218868437227405312+t):=by
  show double.word s (double.infRung+t % double.binade)=_
  have e1:double.signWeight=9223372036854775808:=rfl
  have e2:double.binade=4503599627370496:=rfl
  have e3:double.infRung=9218868437227405312:=rfl
  unfold Format.word
  rw[e1,e2,e3,Nat.mod_eq_of_lt h1]
  cases s <;> simp
 rw[e,read_eq _ (by split <;> omega)]
 have hf:fld ((if s then 9223372036854775808 else 0)+(9218868437227405312+t))=2047:=by unfold fld;split <;> omega
 have hr:frc ((if s then 9223372036854775808 else 0)+(9218868437227405312+t))=t:=by unfold frc;split <;> omega
 rw[hf,hr,if_neg (by omega),if_neg (by omega),if_neg h0]
 rfl
theorem quiet_bd (t:Nat) (h:t<4503599627370496):double.quiet t≠0∧double.quiet t<4503599627370496:=by
 have e:double.quiet t=t ||| 2251799813685248:=rfl
 rw[e]
 constructor
 ·have:=@Nat.right_le_or t 2251799813685248
  omega
 ·exact Nat.or_lt_two_pow (n:=52) h (by decide)
def tInt (B:Nat):Datum→Sem Value
 |.nan s t=>if FloatKind.f64.format.quiet t=t then pure (Value.float .f64 B) else do
  let kept ←choose (.extern "math.Floor,Ceil,Trunc,RoundToEven.signallingNaN kept" 2)
  pure (Value.float .f64 (if kept == 1 then B else FloatKind.f64.encode (.nan s (FloatKind.f64.format.quiet t))))
 |d=>pure (Value.float .f64 (FloatKind.f64.encode (d.integral .zero)))
theorem integral_is (name:String) (B:Nat):Extern.MathFloor.toIntegral name .zero #[Value.float .f64 B]=tInt B (FloatKind.f64.decode B):=by
 rfl
theorem trunc_run (P:Program) (B:Nat) (h:B<18446744073709551616) (w:World):∃x w',(Extern.MathFloor.toIntegral "math.archTrunc" .zero #[.float .f64 B]).run P w=.ok (.float .f64 x) w'∧TruncOf B x∧∃n,w'=w.drewN n:=by
 have hd:FloatKind.f64.decode B=Format.read double B:=rfl
 rw[read_eq B h] at hd
 have hfr:=frc_lt B
 have hfl:=fld_lt B
 by_cases c0:fld B=0
 ·rw[if_pos c0] at hd
  rw[integral_is,hd]
  refine⟨_,w,rfl,?_,0,rfl⟩
  unfold TruncOf
  rw[if_neg (by omega),if_pos c0,integral_eq,cut_small _ (by omega)]
  exact nearest_bits _ 0 (by decide)
 ·rw[if_neg c0] at hd
  by_cases c1:fld B<2047
  ·rw[if_pos c1] at hd
   rw[integral_is,hd]
   refine⟨_,w,rfl,?_,0,rfl⟩
   unfold TruncOf
   rw[if_neg (by omega),if_neg c0,integral_eq]
   exact nearest_bits _ _ (cutN_log _ _ (by omega) (by omega))
  ·rw[if_neg c1] at hd
   by_cases c2:frc B=0
   ·rw[if_pos c2] at hd
    rw[integral_is,hd]
    refine⟨_,w,rfl,?_,0,rfl⟩
    unfold TruncOf
    rw[if_pos (by omega),if_pos c2]
    rfl
   ·rw[if_neg c2] at hd
    have hn:(FloatKind.f64.decode B).isNaN=true:=by rw[hd];rfl
    rw[integral_is,hd]
    have hq:=quiet_bd (frc B) hfr
    have hn2:(FloatKind.f64.decode (FloatKind.f64.encode (.nan (ngB B) (FloatKind.f64.format.quiet (frc B))))).isNaN=true:=read_nan _ _ hq.1 hq.2
    have ht:∀x,(FloatKind.f64.decode x).isNaN=true→TruncOf B x:=by
     intro x hx
     unfold TruncOf
     rw[if_pos (by omega),if_neg c2]
     exact hx
    by_cases hqq:FloatKind.f64.format.quiet (frc B)=frc B
    ·rw[tInt,if_pos hqq]
     exact⟨_,w,rfl,ht _ hn,0,rfl⟩
    ·rw[tInt,if_neg hqq,Sem.run_bind,run_choose_drew,if_neg (by decide)]
     refine⟨_,w.drew,rfl,ht _ ?_,1,rfl⟩
     split
     ·exact hn
     ·exact hn2
def hiB:Nat:=4890909195324358656
def loB:Nat:=14114281232179134464
theorem order_self (s:Bool) (m:Nat) (e:Int):(Datum.number s m e).order (.number s m e)=some .eq:=by
 unfold Datum.order
 simp only[Int.min_self]
 rw[cmp_eq rfl]
theorem ask_num (s:Bool) (n:Nat) (h:n≠0) (hL:n.log2≤1023) (he:exact53 n):
 FloatKind.f64.format.order (fBits s n) (fBits s n)=some .eq∧
 FloatKind.f64.format.order (fBits s n) hiB=some (if s=false∧63≤n.log2 then(if n.log2=63∧sgn n=4503599627370496 then .eq else .gt) else .lt)∧
 FloatKind.f64.format.order (fBits s n) loB=some (if s=true∧63≤n.log2 then(if n.log2=63∧sgn n=4503599627370496 then .eq else .lt) else .gt):=by
 have hr:=read_exact s n h hL he
 have h1:Format.read double hiB=.number false 4503599627370496 11:=by decide
 have h2:Format.read double loB=.number true 4503599627370496 11:=by decide
 refine⟨?_,?_,?_⟩
 ·show(Format.read double _).order (Format.read double _)=_
  rw[hr,order_self]
 ·show(Format.read double _).order (Format.read double _)=_
  rw[hr,h1,order_hi s n h]
 ·show(Format.read double _).order (Format.read double _)=_
  rw[hr,h2,order_lo s n h]
theorem ask_zero (s:Bool):FloatKind.f64.format.order (fBits s 0) (fBits s 0)=some .eq∧FloatKind.f64.format.order (fBits s 0) hiB=some .lt∧FloatKind.f64.format.order (fBits s 0) loB=some .gt∧floatToIntVal .f64 (fBits s 0) .i64=some 0:=by
 cases s <;> refine⟨?_,?_,?_,?_⟩ <;> decide
theorem ask_inf (s:Bool):FloatKind.f64.format.order (FloatKind.f64.encode (.infinity s)) (FloatKind.f64.encode (.infinity s))=some .eq∧FloatKind.f64.format.order (FloatKind.f64.encode (.infinity s)) hiB=some (if s=false then .gt else .lt)∧FloatKind.f64.format.order (FloatKind.f64.encode (.infinity s)) loB=some (if s=true then .lt else .gt):=by
 cases s <;> refine⟨?_,?_,?_⟩ <;> decide
theorem ask_nan (x:Nat) (h:(FloatKind.f64.decode x).isNaN=true):FloatKind.f64.format.order x x=none:=by
 show((FloatKind.f64.decode x).order (FloatKind.f64.decode x))=none
 cases hd:FloatKind.f64.decode x with
 |nan s t=>rfl
 |number s m e=>rw[hd] at h;cases h
 |infinity s=>rw[hd] at h;cases h
theorem log_lt63 {n:Nat} (h:n≠0):n.log2<63↔n<9223372036854775808:=Nat.log2_lt h
theorem toInt_num (s:Bool) (n:Nat) (h:n≠0) (hL:n.log2≤1023) (he:exact53 n) (hb:n<9223372036854775808∨(n=9223372036854775808∧s=true)):floatToIntVal .f64 (fBits s n) .i64=some (if s=true then -(n:Int) else(n:Int)):=by
 have hr:FloatKind.f64.decode (fBits s n)=.number s (sgn n) ((n.log2:Int) - 52):=read_exact s n h hL he
 unfold floatToIntVal
 rw[hr]
 unfold Datum.toInt
 rw[integral_eq,cut_exact n he]
 have e1:signed s n 0=if s=true then -(n:Int) else(n:Int):=by cases s <;> simp[signed]
 simp only[e1]
 have m1:IntKind.i64.min=-9223372036854775808:=rfl
 have m2:IntKind.i64.max=9223372036854775807:=rfl
 rw[m1,m2,if_pos]
 cases s <;> simp at hb ⊢ <;> omega
theorem whole_ways (B x:Nat) (hB:B<18446744073709551616) (hx:TruncOf B x):
 (FloatKind.f64.format.order x x=none∧wholeZ B=0)∨
 (FloatKind.f64.format.order x x=some .eq∧(FloatKind.f64.format.order x hiB=some .gt∨FloatKind.f64.format.order x hiB=some .eq)∧wholeZ B=9223372036854775807)∨
 (FloatKind.f64.format.order x x=some .eq∧FloatKind.f64.format.order x hiB=some .lt∧FloatKind.f64.format.order x loB=some .lt∧wholeZ B=-9223372036854775808)∨
 (FloatKind.f64.format.order x x=some .eq∧FloatKind.f64.format.order x hiB=some .lt∧(FloatKind.f64.format.order x loB=some .gt∨FloatKind.f64.format.order x loB=some .eq)∧floatToIntVal .f64 x .i64=some (wholeZ B)):=by
 have hfr:=frc_lt B
 have hfl:=fld_lt B
 unfold TruncOf at hx
 by_cases c1:fld B=2047
 ·rw[if_pos c1] at hx
  by_cases c2:frc B=0
  ·rw[if_pos c2] at hx
   obtain⟨a1,a2,a3⟩:=ask_inf (ngB B)
   rw[←hx] at a1 a2 a3
   have hw:wholeZ B=if ngB B=true then -9223372036854775808 else 9223372036854775807:=by unfold wholeZ;rw[if_neg (by omega),if_pos (by omega)]
   cases hn:ngB B <;> rw[hn] at a2 a3 hw
   ·exact .inr (.inl ⟨a1,.inl a2,hw⟩)
   ·exact .inr (.inr (.inl ⟨a1,a2,a3,hw⟩))
  ·rw[if_neg c2] at hx
   exact .inl ⟨ask_nan x hx,by unfold wholeZ;rw[if_pos ⟨c1,c2⟩]⟩
 ·rw[if_neg c1] at hx
  obtain⟨n,hn⟩:∃n,(if fld B=0 then 0 else cutN (4503599627370496+frc B) ((fld B:Int) - 1075))=n:=⟨_,rfl⟩
  rw[hn] at hx
  have hc:fld B<1086→n=cutN (4503599627370496+frc B) ((fld B:Int) - 1075):=by
   intro _
   rw[←hn]
   split
   ·rename_i h0
    rw[h0]
    obtain⟨J,hJ⟩:∃J:Nat,J=1022:=⟨_,rfl⟩
    have e:(-(((0:Nat):Int) - 1075)).toNat=53+J:=by omega
    unfold cutN
    rw[show ((((0:Nat):Int) - 1075)).toNat=0 by omega,e,Nat.pow_zero,Nat.mul_one,Nat.pow_add]
    exact(Nat.div_eq_of_lt (Nat.lt_of_lt_of_le (show 4503599627370496+frc B<2 ^ 53 by omega) (Nat.le_mul_of_pos_right _ (Nat.two_pow_pos _)))).symm
   ·rfl
  have hlo:fld B<1086→n<9223372036854775808:=by
   intro hf
   rw[hc hf]
   unfold cutN
   refine Nat.lt_of_le_of_lt (Nat.div_le_self _ _) ?_
   have:2 ^ ((fld B:Int) - 1075).toNat≤1024:=Q7 (Nat.pow_le_pow_right (by decide) (show((fld B:Int) - 1075).toNat≤10 by omega)) (by decide)
   have:=Nat.mul_le_mul (show 4503599627370496+frc B≤9007199254740991 by omega) this
   omega
  have hhi:1086≤fld B→9223372036854775808≤n:=by
   intro hf
   rw[←hn,if_neg (by omega)]
   unfold cutN
   rw[show (-((fld B:Int) - 1075)).toNat=0 by omega,Nat.pow_zero,Nat.div_one]
   have:2048≤2 ^ ((fld B:Int) - 1075).toNat:=Q7 (by decide) (Nat.pow_le_pow_right (show 0<2 by decide) (show 11≤((fld B:Int) - 1075).toNat by omega))
   have:=Nat.mul_le_mul (show 4503599627370496≤4503599627370496+frc B by omega) this
   omega
  have hw:fld B<1086→wholeZ B=if ngB B=true then -(n:Int) else(n:Int):=by
   intro hf;unfold wholeZ;rw[if_neg (by omega),if_neg (by omega),←hc hf]
  have hw2:1086≤fld B→wholeZ B=if ngB B=true then -9223372036854775808 else 9223372036854775807:=by
   intro hf;unfold wholeZ;rw[if_neg (by omega),if_pos hf]
  by_cases h0:n=0
  ·subst h0
   obtain⟨a1,a2,a3,a4⟩:=ask_zero (ngB B)
   rw[←hx] at a1 a2 a3 a4
   have hf:fld B<1086:=by rcases Nat.lt_or_ge (fld B) 1086 with h|h;exact h;have:=hhi h;omega
   refine .inr (.inr (.inr ⟨a1,a2,.inl a3,?_⟩))
   rw[a4,hw hf];split <;> rfl
  ·have he:exact53 n:=by
    rw[←hn]
    split
    ·unfold exact53;simp
    ·exact cutN_exact _ _ (by omega)
   have hL:n.log2≤1023:=by
    rw[←hn]
    split
    ·decide
    ·exact cutN_log _ _ (by omega) (by omega)
   obtain⟨a1,a2,a3⟩:=ask_num (ngB B) n h0 hL he
   have hti:=toInt_num (ngB B) n h0 hL he
   rw[←hx] at a1 a2 a3 hti
   have hlg:=log_lt63 h0
   rcases Nat.lt_or_ge (fld B) 1086 with hf|hf
   ·have hnl:=hlo hf
    rw[if_neg (by omega)] at a2 a3
    exact .inr (.inr (.inr ⟨a1,a2,.inl a3,by rw[hw hf];exact hti (.inl hnl)⟩))
   ·have hnl:=hhi hf
    have h63:63≤n.log2:=by omega
    cases hneg:ngB B
    ·rw[hneg,if_pos ⟨rfl,h63⟩] at a2
     refine .inr (.inl ⟨a1,?_,by rw[hw2 hf,hneg];rfl⟩)
     rw[a2];split
     ·exact .inr rfl
     ·exact .inl rfl
    ·rw[hneg,if_neg (by simp)] at a2
     rw[hneg,if_pos ⟨rfl,h63⟩] at a3
     have hwv:wholeZ B=-9223372036854775808:=by rw[hw2 hf,hneg];rfl
     by_cases hq:n.log2=63∧sgn n=4503599627370496
     ·rw[if_pos hq] at a3
      have hn63:n=9223372036854775808:=by
       have hce:=cut_exact n he
       rw[hq.1,hq.2] at hce
       rw[←hce];decide
      refine .inr (.inr (.inr ⟨a1,a2,.inr a3,?_⟩))
      rw[hwv,hti (.inr ⟨hn63,hneg⟩),hneg,hn63];rfl
     ·rw[if_neg hq] at a3
      exact .inr (.inr (.inl ⟨a1,a2,a3,hwv⟩))
end
section
open Go.RowKit
theorem frombits_run (b:Int) (w:World):(callFunc 159 #[.int .u64 b]).run Tryz.prog w=.ok (.value (.float .f64 b.toNat)) w:=by
 rw[run_callFunc_extern Tryz.func159 (by kernel_rfl) (by kernel_rfl) (by kernel_rfl) (e:=Extern.MathFloatBits.float64frombits) (by rfl)]
 rfl
theorem bits_run (b:Nat) (w:World):(callFunc 110 #[.float .f64 b]).run Tryz.prog w=.ok (.value (.int .u64 b)) w:=by
 rw[run_callFunc_extern Tryz.func110 (by kernel_rfl) (by kernel_rfl) (by kernel_rfl) (e:=Extern.MathFloatBits.float64bits) (by rfl)]
 rfl
theorem archTrunc_run (B:Nat) (h:B<18446744073709551616) (w:World):∃x w',(callFunc 173 #[.float .f64 B]).run Tryz.prog w=.ok (.value (.float .f64 x)) w'∧TruncOf B x∧∃n,w'=w.drewN n:=by
 obtain⟨x,w',h1,h2,h3⟩:=trunc_run Tryz.prog B h w
 refine⟨x,w',?_,h2,h3⟩
 rw[run_callFunc_extern Tryz.func173 (by kernel_rfl) (by kernel_rfl) (by kernel_rfl) (e:=Extern.MathFloor.toIntegral "math.archTrunc" .zero) (by rfl),h1]
 rfl
theorem Trunc_calls (B:Nat) (h:B<18446744073709551616) (w:World):Calls Tryz.prog 158 #[.float .f64 B] w fun e w'=>∃x,e=.returned (.float .f64 x)∧TruncOf B x∧∃n,w'=w.drewN n:=by
 obtain⟨x,w',h1,h2,h3⟩:=archTrunc_run B h w
 go_enter Tryz.func158,Tryz.ntmps158
 go_wp2
 go_ret
 exact⟨x,rfl,h2,h3⟩
theorem Whole_calls (b:Int) (h0:0≤b) (h1:b<18446744073709551616) (w:World):
 Calls Tryz.prog 112 #[.int .u64 b] w fun e w'=>e=.returned (.int .i64 (wholeZ b.toNat))∧Below w.heap.size w w':=by
 have hfb:=frombits_run b
 have hB:b.toNat<18446744073709551616:=by omega
 have hcv:=fun (x:Nat) (v:Int) (h:floatToIntVal .f64 x .i64=some v) (w:World)=>run_convert_float_int (P:=Tryz.prog) w 192 2 .f64 .i64 x v (by kernel_rfl) Tryz.underlying2 h
 go_enter Tryz.func112,Tryz.ntmps112
 go_upto_region 2 with (go_at_call 158;refine(Trunc_calls b.toNat (by omega) _).mono ?_;rintro e w1 ⟨x,rfl,hx,n,rfl⟩)
 have HB:Below w.heap.size w (w.drewN n):=below_drewN (Jy _ _) n
 rcases whole_ways b.toNat x hB hx with ⟨a1,e⟩|⟨a1,a2,e⟩|⟨a1,a2,a3,e⟩|⟨a1,a2,a3,a4⟩
 ·have E:=J0 e
  have f1:(FloatKind.f64.format.order x x != some Ordering.eq)=true:=by rw[a1];decide
  clear e a1 hx hcv
  go_wp2
  go_ret
  exact⟨ret_int E.out.symm,HB⟩
 ·have E:=J0 e
  have f1:(FloatKind.f64.format.order x x != some Ordering.eq)=false:=by rw[a1];decide
  have f2:(FloatKind.f64.format.order x 4890909195324358656 == some Ordering.gt || FloatKind.f64.format.order x 4890909195324358656 == some Ordering.eq)=true:=by
   rcases a2 with a2|a2
   ·rw[show FloatKind.f64.format.order x 4890909195324358656=_ from a2];decide
   ·rw[show FloatKind.f64.format.order x 4890909195324358656=_ from a2];decide
  clear e a1 a2 hx hcv
  go_wp2
  all_goals
   go_ret
   exact⟨ret_int E.out.symm,HB⟩
 ·have E:=J0 e
  have f1:(FloatKind.f64.format.order x x != some Ordering.eq)=false:=by rw[a1];decide
  have f2:(FloatKind.f64.format.order x 4890909195324358656 == some Ordering.gt || FloatKind.f64.format.order x 4890909195324358656 == some Ordering.eq)=false:=by
   rw[show FloatKind.f64.format.order x 4890909195324358656=_ from a2];decide
  have f3:(FloatKind.f64.format.order x 14114281232179134464 == some Ordering.lt)=true:=by
   rw[show FloatKind.f64.format.order x 14114281232179134464=_ from a3];decide
  clear e a1 a2 a3 hx hcv
  go_wp2
  all_goals
   go_ret
   exact⟨ret_int E.out.symm,HB⟩
 ·have f1:(FloatKind.f64.format.order x x != some Ordering.eq)=false:=by rw[a1];decide
  have f2:(FloatKind.f64.format.order x 4890909195324358656 == some Ordering.gt || FloatKind.f64.format.order x 4890909195324358656 == some Ordering.eq)=false:=by
   rw[show FloatKind.f64.format.order x 4890909195324358656=_ from a2];decide
  have f3:(FloatKind.f64.format.order x 14114281232179134464 == some Ordering.lt)=false:=by
   rcases a3 with a3|a3 <;> rw[show FloatKind.f64.format.order x 14114281232179134464=_ from a3] <;> decide
  have hcv':=hcv x _ a4
  clear a1 a2 a3 a4 hx hcv
  go_wp2
  go_ways
  all_goals
   go_ret
   exact⟨rfl,HB⟩
end
end Go.Proofs.YteembinfgbapgaaGreat
