/- Merged out of: Fl Kh Ki Kj Kk Kl Km Ge. -/
import Derived.Test.YteembinfgbapgaaGreatE00
import Derived.Laws.FloatArith
import GoSem.Extern.MathFloor
import Derived.WalkKit
import Derived.Deep.Draws
import Derived.Test.YteembinfgbapgaaGreatE01
import Derived.Laws.Externs
import Derived.Deep.DeepCutAuto
import Derived.Lib.SlBuf
import Derived.Deep.WholeRow
set_option linter.unusedSimpArgs false
set_option linter.unusedVariables false
set_option maxRecDepth 100000
set_option maxHeartbeats 8000000
namespace Go.Proofs.YteembinfgbapgaaGreat
section
open Ieee
def fld (B:Nat):Nat:=B / 4503599627370496 % 2048
def kY (B:Nat):Nat:=B % 4503599627370496
def me (B:Nat):Bool:=decide (9223372036854775808<=B)
theorem rY (B:Nat) (h:B<18446744073709551616):Format.read double B =
 if fld B=0 then .number (me B) (kY B) (-1074) else if fld B<2047 then .number (me B) (4503599627370496+kY B) ((fld B:Int) - 1075) else if kY B=0 then .infinity (me B) else .nan (me B) (kY B):=by
 have e1:double.signWeight=9223372036854775808:=rfl
 have e2:double.binade=4503599627370496:=rfl
 have e3:double.infRung=9218868437227405312:=rfl
 have e4:double.leastPlace=-1074:=rfl
 unfold Format.read
 simp only[e1,e2,e3,e4]
 have hn:(B / 9223372036854775808 % 2 == 1)=me B:=by
  rw[Qy];simp[me];omega
 rw[hn]
 unfold fld kY
 by_cases c1:B % 9223372036854775808<4503599627370496
 ·have f0:B / 4503599627370496 % 2048=0:=by omega
  rw[Xz c1,Xz f0]
  congr 1;omega
 ·have f0:¬B / 4503599627370496 % 2048=0:=by omega
  rw[Xy c1,Xy f0]
  by_cases c2:B % 9223372036854775808<9218868437227405312
  ·have f1:B / 4503599627370496 % 2048<2047:=by omega
   rw[Xz c2,Xz f1]
   congr 1 <;> omega
  ·have f1:¬B / 4503599627370496 % 2048<2047:=by omega
   rw[Xy c2,Xy f1]
   by_cases c3:B % 9223372036854775808=9218868437227405312
   ·have f2:B % 4503599627370496=0:=by omega
    rw[Xz c3,Xz f2]
   ·have f2:¬B % 4503599627370496=0:=by omega
    rw[Xy c3,Xy f2,show B % 9223372036854775808 - 9218868437227405312=B % 4503599627370496 by omega]
def gj (n:Nat):Nat:=if n.log2<=52 then n * 2 ^ (52 - n.log2) else n / 2 ^ (n.log2 - 52)
theorem jN (n:Nat) (h:n≠0):4503599627370496<=gj n/\gj n<9007199254740992:=by
 have a:=Nat.log2_self_le h
 have b:=@Nat.lt_log2_self n
 unfold gj
 split
 ·rename_i hl
  have e1:2 ^ n.log2 * 2 ^ (52 - n.log2)=4503599627370496:=by rw[<-Nat.pow_add,show n.log2+(52 - n.log2)=52 by omega]
  have e2:2 ^ (n.log2+1) * 2 ^ (52 - n.log2)=9007199254740992:=by rw[<-Nat.pow_add,show n.log2+1+(52 - n.log2)=53 by omega]
  constructor
  ·rw[<-e1];exact Nat.mul_le_mul_right _ a
  ·rw[<-e2];exact Nat.mul_lt_mul_of_pos_right b (Nat.two_pow_pos _)
 ·rename_i hl
  have e1:2 ^ n.log2=4503599627370496 * 2 ^ (n.log2 - 52):=by rw[show (4503599627370496:Nat)=2 ^ 52 from rfl,<-Nat.pow_add,show 52+(n.log2 - 52)=n.log2 by omega]
  have e2:2 ^ (n.log2+1)=9007199254740992 * 2 ^ (n.log2 - 52):=by rw[show (9007199254740992:Nat)=2 ^ 53 from rfl,<-Nat.pow_add,show 53+(n.log2 - 52)=n.log2+1 by omega]
  constructor
  ·rw[Nat.le_div_iff_mul_le (Nat.two_pow_pos _),<-e1];exact a
  ·rw[Nat.div_lt_iff_lt_mul (Nat.two_pow_pos _),<-e2];exact b
def uJ (n:Nat):Bool:=decide (52<n.log2) && (decide (2 ^ (n.log2 - 52)<2 * (n % 2 ^ (n.log2 - 52))) || (2 ^ (n.log2 - 52) == 2 * (n % 2 ^ (n.log2 - 52)) && n / 2 ^ (n.log2 - 52) % 2 == 1))
theorem vH (s:Bool) (n:Nat) (h:n≠0) (hL:n.log2<=1023):Format.nearest double s n 0=double.word s ((n.log2+1022) * 4503599627370496+(gj n+(uJ n).toNat)):=by
 have e2:double.binade=4503599627370496:=rfl
 have e3:double.infRung=9218868437227405312:=rfl
 have e4:double.leastPlace=-1074:=rfl
 have e5:double.fractionBits=52:=rfl
 have hb:=jN n h
 unfold Format.nearest
 rw[Xy h]
 dsimp only
 rw[e2,e3,e4,e5]
 have el:max ((0:Int)+(n.log2:Nat) - (52:Nat)) (-1074)=(n.log2:Int) - 52:=by omega
 rw[el]
 have ek:Toward.even.cut s (n <<< (0 - ((n.log2:Int) - 52)).toNat) (((n.log2:Int) - 52) - 0).toNat=gj n+(uJ n).toNat:=by
  unfold Toward.cut
  by_cases hl:n.log2<=52
  ·have z1:(0 - ((n.log2:Int) - 52)).toNat=52 - n.log2:=by omega
   have z2:(((n.log2:Int) - 52) - 0).toNat=0:=by omega
   rw[z1,z2]
   simp[gj,hl,uJ,Nat.shiftLeft_eq,show ¬52<n.log2 by omega]
   omega
  ·have z1:(0 - ((n.log2:Int) - 52)).toNat=0:=by omega
   have z2:(((n.log2:Int) - 52) - 0).toNat=n.log2 - 52:=by omega
   rw[z1,z2]
   have zm:min (n.log2 - 52) ((n <<< 0).log2+2)=n.log2 - 52:=by simp;omega
   rw[zm]
   simp only[Nat.shiftLeft_zero,Nat.one_shiftLeft]
   simp[gj,hl,uJ,show 52<n.log2 by omega]
 rw[ek]
 have er:((((n.log2:Int) - 52) - -1074).toNat)=n.log2+1022:=by omega
 rw[er]
 congr 1
 have:(uJ n).toNat<=1:=by cases uJ n <;> simp
 apply Nat.min_eq_left
 omega
def bL (s:Bool) (n:Nat):Nat:=(if s then 9223372036854775808 else 0)+if n=0 then 0 else(n.log2+1022) * 4503599627370496+(gj n+(uJ n).toNat)
theorem fp (s:Bool) (n:Nat) (hL:n.log2<=1023):Format.nearest double s n 0=bL s n:=by
 unfold bL
 by_cases h:n=0
 ·subst h;cases s <;> rfl
 ·rw[vH s n h hL,Xy h]
  unfold Format.word
  have:double.signWeight=9223372036854775808:=rfl
  rw[this]
  cases s <;> simp
theorem Dy (n:Nat):gj n+(uJ n).toNat<=9007199254740992:=by
 by_cases h:n=0
 ·subst h;decide
 ·have:=jN n h
  have:(uJ n).toNat<=1:=by cases uJ n <;> simp
  omega
theorem tI (s:Bool) (n:Nat) (hL:n.log2<=1023):bL s n<18446744073709551616:=by
 have:=Dy n
 unfold bL
 split <;> split <;> omega
def fO (n:Nat):Prop:=n % 2 ^ (n.log2 - 52)=0
theorem yS {n:Nat} (h:fO n):uJ n=false:=by
 unfold uJ
 unfold fO at h
 rw[h]
 have:=Nat.two_pow_pos (n.log2 - 52)
 simp
theorem oM (s:Bool) (n:Nat) (h:n≠0) (hL:n.log2<=1023) (he:fO n):Format.read double (bL s n)=.number s (gj n) ((n.log2:Int) - 52):=by
 have hb:=jN n h
 rw[rY _ (tI s n hL)]
 have e:bL s n=(if s then 9223372036854775808 else 0)+((n.log2+1022) * 4503599627370496+gj n):=by
  unfold bL;rw[Xy h,yS he];simp
 have hf:fld (bL s n)=n.log2+1023:=by rw[e];unfold fld;split <;> omega
 have hr:kY (bL s n)=gj n - 4503599627370496:=by rw[e];unfold kY;split <;> omega
 have hn:me (bL s n)=s:=by rw[e];unfold me;cases s <;> simp <;> omega
 rw[hf,hr,hn,Xy (by omega),Xz (by omega),show 4503599627370496+(gj n - 4503599627370496)=gj n by omega,show((n.log2+1023:Nat):Int) - 1075=(n.log2:Int) - 52 by omega]
def dp (m:Nat) (e:Int):Nat:=m * 2 ^ e.toNat / 2 ^ (-e).toNat
theorem iu (s:Bool) (m:Nat) (e:Int):(Datum.number s m e).integral .zero=.number s (dp m e) 0:=by
 unfold Datum.integral Toward.cut dp
 simp only[Nat.shiftLeft_eq,Nat.one_mul]
 congr 1
 simp only[Bool.toNat_false,Nat.add_zero]
 generalize m * 2 ^ e.toNat=a
 generalize (-e).toNat=d
 rcases Nat.le_total d (a.log2+2) with hd|hd
 ·rw[Nat.min_eq_left hd]
 ·rw[Nat.min_eq_right hd]
  have h1:=@Nat.lt_log2_self a
  have h2:a<2 ^ (a.log2+2):=Nat.lt_of_lt_of_le h1 (Nat.pow_le_pow_right (by decide) (by omega))
  rw[Nat.div_eq_of_lt h2,Nat.div_eq_of_lt (Nat.lt_of_lt_of_le h2 (Nat.pow_le_pow_right (by decide) hd))]
theorem pY (n:Nat) (he:fO n):dp (gj n) ((n.log2:Int) - 52)=n:=by
 unfold dp gj
 by_cases hl:n.log2<=52
 ·rw[Xz hl,show((n.log2:Int) - 52).toNat=0 by omega,show(-((n.log2:Int) - 52)).toNat=52 - n.log2 by omega,Nat.pow_zero,Nat.mul_one,Nat.mul_div_cancel _ (Nat.two_pow_pos _)]
 ·rw[Xy hl,show((n.log2:Int) - 52).toNat=n.log2 - 52 by omega,show(-((n.log2:Int) - 52)).toNat=0 by omega,Nat.pow_zero,Nat.div_one]
  exact Nat.div_mul_cancel (Nat.dvd_of_mod_eq_zero he)
theorem uz (m:Nat) (e:Int) (hm:m<9007199254740992):fO (dp m e):=by
 unfold fO
 rcases Int.le_total 0 e with h|h
 ·have e1:dp m e=m * 2 ^ e.toNat:=by unfold dp;rw[show (-e).toNat=0 by omega,Nat.pow_zero,Nat.div_one]
  rw[e1]
  by_cases h0:m=0
  ·subst h0;simp
  have hne:m * 2 ^ e.toNat≠0:=Nat.mul_ne_zero h0 (Nat.ne_of_gt (Nat.two_pow_pos _))
  have hlt:(m * 2 ^ e.toNat).log2<53+e.toNat:=by
   rw[Nat.log2_lt hne,Nat.pow_add]
   exact Nat.mul_lt_mul_of_pos_right hm (Nat.two_pow_pos _)
  obtain⟨d,hd⟩:∃d,e.toNat=((m * 2 ^ e.toNat).log2 - 52)+d:=⟨e.toNat - ((m * 2 ^ e.toNat).log2 - 52),by omega⟩
  generalize (m * 2 ^ e.toNat).log2 - 52=q at hd |-
  rw[hd,Nat.pow_add,Nat.mul_comm m,Nat.mul_assoc]
  exact Nat.mul_mod_right _ _
 ·have e1:dp m e=m / 2 ^ (-e).toNat:=by unfold dp;rw[show e.toNat=0 by omega,Nat.pow_zero,Nat.mul_one]
  have hle:dp m e<9007199254740992:=by rw[e1];exact Nat.lt_of_le_of_lt (Nat.div_le_self _ _) hm
  by_cases h0:dp m e=0
  ·rw[h0];simp
  have:(dp m e).log2<53:=by rw[Nat.log2_lt h0];exact hle
  rw[show (dp m e).log2 - 52=0 by omega,Nat.pow_zero,Nat.mod_one]
theorem tA (m:Nat) (e:Int) (hm:m<9007199254740992) (he:e<=971):(dp m e).log2<=1023:=by
 by_cases h0:dp m e=0
 ·rw[h0];decide
 ·obtain⟨J,hJ⟩:∃J,J=971:=⟨_,rfl⟩
  have:(dp m e).log2<53+J:=by
   rw[Nat.log2_lt h0]
   unfold dp
   refine Nat.lt_of_le_of_lt (Nat.div_le_self _ _) ?_
   rw[Nat.pow_add]
   exact Nat.mul_lt_mul_of_lt_of_le hm (Nat.pow_le_pow_right (by decide) (by omega)) (Nat.two_pow_pos _)
  omega
theorem nL {a b:Int} (h:a<b):compare a b=.lt:=by simp[compare,compareOfLessAndEq,h]
theorem uw {a b:Int} (h:a=b):compare a b=.eq:=by subst h;simp[compare,compareOfLessAndEq]
theorem nK {a b:Int} (h:b<a):compare a b=.gt:=by
 simp only[compare,compareOfLessAndEq]
 rw[Xy (by omega),Xy (by omega)]
theorem lU (m k:Nat):signed false m k=((m * 2 ^ k:Nat):Int):=by simp[signed,Nat.shiftLeft_eq]
theorem lT (m k:Nat):signed true m k=-((m * 2 ^ k:Nat):Int):=by simp[signed,Nat.shiftLeft_eq]
theorem nD (n:Nat) (h:n≠0) (hL:63<=n.log2):(n.log2=63/\gj n * 2 ^ (n.log2 - 63)=gj n)\/(n.log2≠63/\9007199254740992<=gj n * 2 ^ (n.log2 - 63)):=by
 have hb:=jN n h
 by_cases he:n.log2=63
 ·exact .inl ⟨he,by rw[he];simp⟩
 ·refine .inr ⟨he,?_⟩
  have h2:2<=2 ^ (n.log2 - 63):=by
   have:=Nat.pow_le_pow_right (show 0<2 by decide) (show 1<=n.log2 - 63 by omega)
   simpa using this
  have h3:4503599627370496 * 2<=gj n * 2 ^ (n.log2 - 63):=Nat.mul_le_mul hb.1 h2
  omega
theorem kq (n:Nat) (hL:¬63<=n.log2):9007199254740992<=4503599627370496 * 2 ^ (63 - n.log2):=by
 have h2:2<=2 ^ (63 - n.log2):=by
  have:=Nat.pow_le_pow_right (show 0<2 by decide) (show 1<=63 - n.log2 by omega)
  simpa using this
 have h3:4503599627370496 * 2<=4503599627370496 * 2 ^ (63 - n.log2):=Nat.mul_le_mul (J9 _) h2
 omega
theorem Ad (s:Bool) (n:Nat) (h:n≠0):(Datum.number s (gj n) ((n.log2:Int) - 52)).order (.number false 4503599627370496 11)=some (if s=false/\63<=n.log2 then(if n.log2=63/\gj n=4503599627370496 then .eq else .gt) else .lt):=by
 have hb:=jN n h
 unfold Datum.order
 dsimp only
 congr 1
 by_cases hL:63<=n.log2
 ·rw[show min ((n.log2:Int) - 52) 11=11 by omega,show(((n.log2:Int) - 52) - 11).toNat=n.log2 - 63 by omega,lU]
  have hs:=nD n h hL
  cases s
  ·rw[lU,Xz ⟨rfl,hL⟩]
   rcases hs with ⟨e1,e2⟩|⟨e1,e2⟩
   ·rw[e2]
    by_cases hq:gj n=4503599627370496
    ·rw[Xz ⟨e1,hq⟩];exact uw (by rw[hq];rfl)
    ·rw[Xy (fun c=>hq c.2)];exact nK (by rw[show ((11:Int) - 11).toNat=0 from rfl];omega)
   ·rw[Xy (fun c=>e1 c.1)];exact nK (by rw[show ((11:Int) - 11).toNat=0 from rfl];generalize gj n * 2 ^ (n.log2 - 63)=q at *;omega)
  ·rw[lT,Xy (fun c=>by cases c.1)]
   exact nL (by rw[show ((11:Int) - 11).toNat=0 from rfl];generalize gj n * 2 ^ (n.log2 - 63)=q;omega)
 ·rw[show min ((n.log2:Int) - 52) 11=(n.log2:Int) - 52 by omega,show(((n.log2:Int) - 52) - ((n.log2:Int) - 52)).toNat=0 by omega,show((11:Int) - ((n.log2:Int) - 52)).toNat=63 - n.log2 by omega,lU,Xy (fun c=>hL c.2)]
  have hs:=kq n hL
  cases s
  ·rw[lU];exact nL (by generalize 4503599627370496 * 2 ^ (63 - n.log2)=q at *;rw[Nat.pow_zero,Nat.mul_one];omega)
  ·rw[lT];exact nL (by generalize 4503599627370496 * 2 ^ (63 - n.log2)=q at *;rw[Nat.pow_zero,Nat.mul_one];omega)
theorem Ae (s:Bool) (n:Nat) (h:n≠0):(Datum.number s (gj n) ((n.log2:Int) - 52)).order (.number true 4503599627370496 11)=some (if s=true/\63<=n.log2 then(if n.log2=63/\gj n=4503599627370496 then .eq else .lt) else .gt):=by
 have hb:=jN n h
 unfold Datum.order
 dsimp only
 congr 1
 by_cases hL:63<=n.log2
 ·rw[show min ((n.log2:Int) - 52) 11=11 by omega,show(((n.log2:Int) - 52) - 11).toNat=n.log2 - 63 by omega,lT 4503599627370496]
  have hs:=nD n h hL
  cases s
  ·rw[lU,Xy (fun c=>by cases c.1)]
   exact nK (by rw[show ((11:Int) - 11).toNat=0 from rfl];generalize gj n * 2 ^ (n.log2 - 63)=q;omega)
  ·rw[lT,Xz ⟨rfl,hL⟩]
   rcases hs with ⟨e1,e2⟩|⟨e1,e2⟩
   ·rw[e2]
    by_cases hq:gj n=4503599627370496
    ·rw[Xz ⟨e1,hq⟩];exact uw (by rw[hq];rfl)
    ·rw[Xy (fun c=>hq c.2)];exact nL (by rw[show ((11:Int) - 11).toNat=0 from rfl];omega)
   ·rw[Xy (fun c=>e1 c.1)];exact nL (by rw[show ((11:Int) - 11).toNat=0 from rfl];generalize gj n * 2 ^ (n.log2 - 63)=q at *;omega)
 ·rw[show min ((n.log2:Int) - 52) 11=(n.log2:Int) - 52 by omega,show(((n.log2:Int) - 52) - ((n.log2:Int) - 52)).toNat=0 by omega,show((11:Int) - ((n.log2:Int) - 52)).toNat=63 - n.log2 by omega,lT 4503599627370496,Xy (fun c=>hL c.2)]
  have hs:=kq n hL
  cases s
  ·rw[lU];exact nK (by generalize 4503599627370496 * 2 ^ (63 - n.log2)=q at *;rw[Nat.pow_zero,Nat.mul_one];omega)
  ·rw[lT];exact nK (by generalize 4503599627370496 * 2 ^ (63 - n.log2)=q at *;rw[Nat.pow_zero,Nat.mul_one];omega)
def cN (B:Nat):Int:=
 if fld B=2047/\kY B≠0 then 0
 else if 1086<=fld B then(if me B=true then -9223372036854775808 else 9223372036854775807)
 else if me B=true then -(dp (4503599627370496+kY B) ((fld B:Int) - 1075):Int) else(dp (4503599627370496+kY B) ((fld B:Int) - 1075):Int)
def fN (B x:Nat):Prop:=if fld B=2047 then(if kY B=0 then x=FloatKind.f64.encode (.infinity (me B)) else(FloatKind.f64.decode x).isNaN=true) else x=bL (me B) (if fld B=0 then 0 else dp (4503599627370496+kY B) ((fld B:Int) - 1075))
theorem zW (B:Nat):kY B<4503599627370496:=by unfold kY;omega
theorem zU (B:Nat):fld B<2048:=by unfold fld;omega
theorem xl (m:Nat) (hm:m<9007199254740992):dp m (-1074)=0:=by
 unfold dp
 obtain⟨J,hJ⟩:∃J:Nat,J=1021:=⟨_,rfl⟩
 have e:(-(-1074:Int)).toNat=53+J:=by omega
 rw[show ((-1074:Int)).toNat=0 from rfl,e,Nat.pow_zero,Nat.mul_one,Nat.pow_add]
 exact Nat.div_eq_of_lt (Nat.lt_of_lt_of_le hm (Nat.le_mul_of_pos_right _ (Nat.two_pow_pos _)))
theorem AB (s:Bool) (t:Nat) (h0:t≠0) (h1:t<4503599627370496):(Format.read double (Format.write double (.nan s t))).isNaN=true:=by
 have e:Format.write double (.nan s t)=(if s then 9223372036854775808 else 0)+(9218868437227405312+t):=by
  show double.word s (double.infRung+t % double.binade)=_
  have e1:double.signWeight=9223372036854775808:=rfl
  have e2:double.binade=4503599627370496:=rfl
  have e3:double.infRung=9218868437227405312:=rfl
  unfold Format.word
  rw[e1,e2,e3,Nat.mod_eq_of_lt h1]
  cases s <;> simp
 rw[e,rY _ (by split <;> omega)]
 have hf:fld ((if s then 9223372036854775808 else 0)+(9218868437227405312+t))=2047:=by unfold fld;split <;> omega
 have hr:kY ((if s then 9223372036854775808 else 0)+(9218868437227405312+t))=t:=by unfold kY;split <;> omega
 rw[hf,hr,Xy (by omega),Xy (by omega),Xy h0]
 rfl
theorem As (t:Nat) (h:t<4503599627370496):double.quiet t≠0/\double.quiet t<4503599627370496:=by
 have e:double.quiet t=t ||| 2251799813685248:=rfl
 rw[e]
 constructor
 ·have:=@Nat.right_le_or t 2251799813685248
  omega
 ·exact Nat.or_lt_two_pow (n:=52) h (by decide)
def DD (B:Nat):Datum->Sem ER
 |.nan s t=>if FloatKind.f64.format.quiet t=t then pure (Value.float .f64 B) else do
  let kept <-choose (.extern "math.Floor,Ceil,Trunc,RoundToEven.signallingNaN kept" 2)
  pure (Value.float .f64 (if kept == 1 then B else FloatKind.f64.encode (.nan s (FloatKind.f64.format.quiet t))))
 |d=>pure (Value.float .f64 (FloatKind.f64.encode (d.integral .zero)))
theorem gU (name:String) (B:Nat):Extern.MathFloor.toIntegral name .zero #[Value.float .f64 B]=DD B (FloatKind.f64.decode B):=by
 rfl
theorem yY (P:Program) (B:Nat) (h:B<18446744073709551616) (w:EQ):∃x w',(Extern.MathFloor.toIntegral "math.archTrunc" .zero #[.float .f64 B]).run P w=.ok (.float .f64 x) w'/\fN B x/\∃n,w'=w.drewN n:=by
 have hd:FloatKind.f64.decode B=Format.read double B:=rfl
 rw[rY B h] at hd
 have hfr:=zW B
 have hfl:=zU B
 by_cases c0:fld B=0
 ·rw[Xz c0] at hd
  rw[gU,hd]
  refine⟨_,w,rfl,?_,0,rfl⟩
  unfold fN
  rw[Xy (by omega),Xz c0,iu,xl _ (by omega)]
  exact fp _ 0 (by decide)
 ·rw[Xy c0] at hd
  by_cases c1:fld B<2047
  ·rw[Xz c1] at hd
   rw[gU,hd]
   refine⟨_,w,rfl,?_,0,rfl⟩
   unfold fN
   rw[Xy (by omega),Xy c0,iu]
   exact fp _ _ (tA _ _ (by omega) (by omega))
  ·rw[Xy c1] at hd
   by_cases c2:kY B=0
   ·rw[Xz c2] at hd
    rw[gU,hd]
    refine⟨_,w,rfl,?_,0,rfl⟩
    unfold fN
    rw[Xz (by omega),Xz c2]
    rfl
   ·rw[Xy c2] at hd
    have hn:(FloatKind.f64.decode B).isNaN=true:=by rw[hd];rfl
    rw[gU,hd]
    have hq:=As (kY B) hfr
    have hn2:(FloatKind.f64.decode (FloatKind.f64.encode (.nan (me B) (FloatKind.f64.format.quiet (kY B))))).isNaN=true:=AB _ _ hq.1 hq.2
    have ht:∀x,(FloatKind.f64.decode x).isNaN=true->fN B x:=by
     intro x hx
     unfold fN
     rw[Xz (by omega),Xy c2]
     exact hx
    by_cases hqq:FloatKind.f64.format.quiet (kY B)=kY B
    ·rw[DD,Xz hqq]
     exact⟨_,w,rfl,ht _ hn,0,rfl⟩
    ·rw[DD,Xy hqq,Sem.run_bind,run_choose_drew,Xy (by decide)]
     refine⟨_,w.drew,rfl,ht _ ?_,1,rfl⟩
     split
     ·exact hn
     ·exact hn2
def CH:Nat:=4890909195324358656
def Dj:Nat:=14114281232179134464
theorem vL (s:Bool) (m:Nat) (e:Int):(Datum.number s m e).order (.number s m e)=some .eq:=by
 unfold Datum.order
 simp only[Int.min_self]
 rw[uw rfl]
theorem Bk (s:Bool) (n:Nat) (h:n≠0) (hL:n.log2<=1023) (he:fO n):
 FloatKind.f64.format.order (bL s n) (bL s n)=some .eq/\
 FloatKind.f64.format.order (bL s n) CH=some (if s=false/\63<=n.log2 then(if n.log2=63/\gj n=4503599627370496 then .eq else .gt) else .lt)/\
 FloatKind.f64.format.order (bL s n) Dj=some (if s=true/\63<=n.log2 then(if n.log2=63/\gj n=4503599627370496 then .eq else .lt) else .gt):=by
 have hr:=oM s n h hL he
 have h1:Format.read double CH=.number false 4503599627370496 11:=by decide
 have h2:Format.read double Dj=.number true 4503599627370496 11:=by decide
 refine⟨?_,?_,?_⟩
 ·show(Format.read double _).order (Format.read double _)=_
  rw[hr,vL]
 ·show(Format.read double _).order (Format.read double _)=_
  rw[hr,h1,Ad s n h]
 ·show(Format.read double _).order (Format.read double _)=_
  rw[hr,h2,Ae s n h]
theorem yz (s:Bool):FloatKind.f64.format.order (bL s 0) (bL s 0)=some .eq/\FloatKind.f64.format.order (bL s 0) CH=some .lt/\FloatKind.f64.format.order (bL s 0) Dj=some .gt/\floatToIntVal .f64 (bL s 0) .i64=some 0:=by
 cases s <;> refine⟨?_,?_,?_,?_⟩ <;> decide
theorem Bi (s:Bool):FloatKind.f64.format.order (FloatKind.f64.encode (.infinity s)) (FloatKind.f64.encode (.infinity s))=some .eq/\FloatKind.f64.format.order (FloatKind.f64.encode (.infinity s)) CH=some (if s=false then .gt else .lt)/\FloatKind.f64.format.order (FloatKind.f64.encode (.infinity s)) Dj=some (if s=true then .lt else .gt):=by
 cases s <;> refine⟨?_,?_,?_⟩ <;> decide
theorem Bj (x:Nat) (h:(FloatKind.f64.decode x).isNaN=true):FloatKind.f64.format.order x x=none:=by
 show((FloatKind.f64.decode x).order (FloatKind.f64.decode x))=none
 cases hd:FloatKind.f64.decode x with
 |nan s t=>rfl
 |number s m e=>rw[hd] at h;cases h
 |infinity s=>rw[hd] at h;cases h
theorem zn {n:Nat} (h:n≠0):n.log2<63↔n<9223372036854775808:=Nat.log2_lt h
theorem yX (s:Bool) (n:Nat) (h:n≠0) (hL:n.log2<=1023) (he:fO n) (hb:n<9223372036854775808\/(n=9223372036854775808/\s=true)):floatToIntVal .f64 (bL s n) .i64=some (if s=true then -(n:Int) else(n:Int)):=by
 have hr:FloatKind.f64.decode (bL s n)=.number s (gj n) ((n.log2:Int) - 52):=oM s n h hL he
 unfold floatToIntVal
 rw[hr]
 unfold Datum.toInt
 rw[iu,pY n he]
 have e1:signed s n 0=if s=true then -(n:Int) else(n:Int):=by cases s <;> simp[signed]
 simp only[e1]
 have m1:IntKind.i64.min=-9223372036854775808:=rfl
 have m2:IntKind.i64.max=9223372036854775807:=rfl
 rw[m1,m2,Xz]
 cases s <;> simp at hb |- <;> omega
theorem vy (B x:Nat) (hB:B<18446744073709551616) (hx:fN B x):
 (FloatKind.f64.format.order x x=none/\cN B=0)\/
 (FloatKind.f64.format.order x x=some .eq/\(FloatKind.f64.format.order x CH=some .gt\/FloatKind.f64.format.order x CH=some .eq)/\cN B=9223372036854775807)\/
 (FloatKind.f64.format.order x x=some .eq/\FloatKind.f64.format.order x CH=some .lt/\FloatKind.f64.format.order x Dj=some .lt/\cN B=-9223372036854775808)\/
 (FloatKind.f64.format.order x x=some .eq/\FloatKind.f64.format.order x CH=some .lt/\(FloatKind.f64.format.order x Dj=some .gt\/FloatKind.f64.format.order x Dj=some .eq)/\floatToIntVal .f64 x .i64=some (cN B)):=by
 have hfr:=zW B
 have hfl:=zU B
 unfold fN at hx
 by_cases c1:fld B=2047
 ·rw[Xz c1] at hx
  by_cases c2:kY B=0
  ·rw[Xz c2] at hx
   obtain⟨a1,a2,a3⟩:=Bi (me B)
   rw[<-hx] at a1 a2 a3
   have hw:cN B=if me B=true then -9223372036854775808 else 9223372036854775807:=by unfold cN;rw[Xy (by omega),Xz (by omega)]
   cases hn:me B <;> rw[hn] at a2 a3 hw
   ·exact .inr (.inl ⟨a1,.inl a2,hw⟩)
   ·exact .inr (.inr (.inl ⟨a1,a2,a3,hw⟩))
  ·rw[Xy c2] at hx
   exact .inl ⟨Bj x hx,by unfold cN;rw[Xz ⟨c1,c2⟩]⟩
 ·rw[Xy c1] at hx
  obtain⟨n,hn⟩:∃n,(if fld B=0 then 0 else dp (4503599627370496+kY B) ((fld B:Int) - 1075))=n:=⟨_,rfl⟩
  rw[hn] at hx
  have hc:fld B<1086->n=dp (4503599627370496+kY B) ((fld B:Int) - 1075):=by
   intro _
   rw[<-hn]
   split
   ·rename_i h0
    rw[h0]
    obtain⟨J,hJ⟩:∃J:Nat,J=1022:=⟨_,rfl⟩
    have e:(-(((0:Nat):Int) - 1075)).toNat=53+J:=by omega
    unfold dp
    rw[show ((((0:Nat):Int) - 1075)).toNat=0 by omega,e,Nat.pow_zero,Nat.mul_one,Nat.pow_add]
    exact(Nat.div_eq_of_lt (Nat.lt_of_lt_of_le (show 4503599627370496+kY B<2 ^ 53 by omega) (Nat.le_mul_of_pos_right _ (Nat.two_pow_pos _)))).symm
   ·rfl
  have hlo:fld B<1086->n<9223372036854775808:=by
   intro hf
   rw[hc hf]
   unfold dp
   refine Nat.lt_of_le_of_lt (Nat.div_le_self _ _) ?_
   have:2 ^ ((fld B:Int) - 1075).toNat<=1024:=Q7 (Nat.pow_le_pow_right (by decide) (show((fld B:Int) - 1075).toNat<=10 by omega)) (by decide)
   have:=Nat.mul_le_mul (show 4503599627370496+kY B<=9007199254740991 by omega) this
   omega
  have hhi:1086<=fld B->9223372036854775808<=n:=by
   intro hf
   rw[<-hn,Xy (by omega)]
   unfold dp
   rw[show (-((fld B:Int) - 1075)).toNat=0 by omega,Nat.pow_zero,Nat.div_one]
   have:2048<=2 ^ ((fld B:Int) - 1075).toNat:=Q7 (by decide) (Nat.pow_le_pow_right (show 0<2 by decide) (show 11<=((fld B:Int) - 1075).toNat by omega))
   have:=Nat.mul_le_mul (show 4503599627370496<=4503599627370496+kY B by omega) this
   omega
  have hw:fld B<1086->cN B=if me B=true then -(n:Int) else(n:Int):=by
   intro hf;unfold cN;rw[Xy (by omega),Xy (by omega),<-hc hf]
  have hw2:1086<=fld B->cN B=if me B=true then -9223372036854775808 else 9223372036854775807:=by
   intro hf;unfold cN;rw[Xy (by omega),Xz hf]
  by_cases h0:n=0
  ·subst h0
   obtain⟨a1,a2,a3,a4⟩:=yz (me B)
   rw[<-hx] at a1 a2 a3 a4
   have hf:fld B<1086:=by rcases Nat.lt_or_ge (fld B) 1086 with h|h;exact h;have:=hhi h;omega
   refine .inr (.inr (.inr ⟨a1,a2,.inl a3,?_⟩))
   rw[a4,hw hf];split <;> rfl
  ·have he:fO n:=by
    rw[<-hn]
    split
    ·unfold fO;simp
    ·exact uz _ _ (by omega)
   have hL:n.log2<=1023:=by
    rw[<-hn]
    split
    ·decide
    ·exact tA _ _ (by omega) (by omega)
   obtain⟨a1,a2,a3⟩:=Bk (me B) n h0 hL he
   have hti:=yX (me B) n h0 hL he
   rw[<-hx] at a1 a2 a3 hti
   have hlg:=zn h0
   rcases Nat.lt_or_ge (fld B) 1086 with hf|hf
   ·have hnl:=hlo hf
    rw[Xy (by omega)] at a2 a3
    exact .inr (.inr (.inr ⟨a1,a2,.inl a3,by rw[hw hf];exact hti (.inl hnl)⟩))
   ·have hnl:=hhi hf
    have h63:63<=n.log2:=by omega
    cases hneg:me B
    ·rw[hneg,Xz ⟨rfl,h63⟩] at a2
     refine .inr (.inl ⟨a1,?_,by rw[hw2 hf,hneg];rfl⟩)
     rw[a2];split
     ·exact .inr rfl
     ·exact .inl rfl
    ·rw[hneg,Xy (by simp)] at a2
     rw[hneg,Xz ⟨rfl,h63⟩] at a3
     have hwv:cN B=-9223372036854775808:=by rw[hw2 hf,hneg];rfl
     by_cases hq:n.log2=63/\gj n=4503599627370496
     ·rw[Xz hq] at a3
      have hn63:n=9223372036854775808:=by
       have hce:=pY n he
       rw[hq.1,hq.2] at hce
       rw[<-hce];decide
      refine .inr (.inr (.inr ⟨a1,a2,.inr a3,?_⟩))
      rw[hwv,hti (.inr ⟨hn63,hneg⟩),hneg,hn63];rfl
     ·rw[Xy hq] at a3
      exact .inr (.inr (.inl ⟨a1,a2,a3,hwv⟩))
end
section
open Go.RowKit
theorem qo (b:Int) (w:EQ):(callFunc 159 #[.int .u64 b]).run Tryz.prog w=.ok (.value (.float .f64 b.toNat)) w:=by
 rw[run_callFunc_extern Tryz.func159 (by kernel_rfl) (by kernel_rfl) (by kernel_rfl) (e:=Extern.MathFloatBits.float64frombits) (by rfl)]
 rfl
theorem sZ (b:Nat) (w:EQ):(callFunc 110 #[.float .f64 b]).run Tryz.prog w=.ok (.value (.int .u64 b)) w:=by
 rw[run_callFunc_extern Tryz.func110 (by kernel_rfl) (by kernel_rfl) (by kernel_rfl) (e:=Extern.MathFloatBits.float64bits) (by rfl)]
 rfl
theorem pD (B:Nat) (h:B<18446744073709551616) (w:EQ):∃x w',(callFunc 173 #[.float .f64 B]).run Tryz.prog w=.ok (.value (.float .f64 x)) w'/\fN B x/\∃n,w'=w.drewN n:=by
 obtain⟨x,w',h1,h2,h3⟩:=yY Tryz.prog B h w
 refine⟨x,w',?_,h2,h3⟩
 rw[run_callFunc_extern Tryz.func173 (by kernel_rfl) (by kernel_rfl) (by kernel_rfl) (e:=Extern.MathFloor.toIntegral "math.archTrunc" .zero) (by rfl),h1]
 rfl
theorem sT (B:Nat) (h:B<18446744073709551616) (w:EQ):Calls Tryz.prog 158 #[.float .f64 B] w fun e w'=>∃x,e=.returned (.float .f64 x)/\fN B x/\∃n,w'=w.drewN n:=by
 obtain⟨x,w',h1,h2,h3⟩:=pD B h w
 go_enter Tryz.func158,Tryz.ntmps158
 go_wp2
 go_ret
 exact⟨x,rfl,h2,h3⟩
theorem sV (b:Int) (h0:0<=b) (h1:b<18446744073709551616) (w:EQ):
 Calls Tryz.prog 112 #[.int .u64 b] w fun e w'=>e=.returned (.int .i64 (cN b.toNat))/\Below w.heap.size w w':=by
 have hfb:=qo b
 have hB:b.toNat<18446744073709551616:=by omega
 have hcv:=fun (x:Nat) (v:Int) (h:floatToIntVal .f64 x .i64=some v) (w:EQ)=>run_convert_float_int (P:=Tryz.prog) w 192 2 .f64 .i64 x v (by kernel_rfl) Tryz.underlying2 h
 go_enter Tryz.func112,Tryz.ntmps112
 go_upto_region 2 with (go_at_call 158;refine(sT b.toNat (by omega) _).mono ?_;rintro e w1 ⟨x,rfl,hx,n,rfl⟩)
 have HB:Below w.heap.size w (w.drewN n):=sX (Jy _ _) n
 rcases vy b.toNat x hB hx with ⟨a1,e⟩|⟨a1,a2,e⟩|⟨a1,a2,a3,e⟩|⟨a1,a2,a3,a4⟩
 ·have E:=J0 e
  have f1:(FloatKind.f64.format.order x x != some Ordering.eq)=true:=by rw[a1];decide
  clear e a1 hx hcv
  go_wp2
  go_ret
  exact⟨cf E.out.symm,HB⟩
 ·have E:=J0 e
  have f1:(FloatKind.f64.format.order x x != some Ordering.eq)=false:=by rw[a1];decide
  have f2:(FloatKind.f64.format.order x 4890909195324358656 == some Ordering.gt || FloatKind.f64.format.order x 4890909195324358656 == some Ordering.eq)=true:=by
   rcases a2 with a2|a2
   ·rw[show FloatKind.f64.format.order x 4890909195324358656=_ from a2];decide
   ·rw[show FloatKind.f64.format.order x 4890909195324358656=_ from a2];decide
  clear e a1 a2 hx hcv
  go_wp2
  all_goals
   go_ret
   exact⟨cf E.out.symm,HB⟩
 ·have E:=J0 e
  have f1:(FloatKind.f64.format.order x x != some Ordering.eq)=false:=by rw[a1];decide
  have f2:(FloatKind.f64.format.order x 4890909195324358656 == some Ordering.gt || FloatKind.f64.format.order x 4890909195324358656 == some Ordering.eq)=false:=by
   rw[show FloatKind.f64.format.order x 4890909195324358656=_ from a2];decide
  have f3:(FloatKind.f64.format.order x 14114281232179134464 == some Ordering.lt)=true:=by
   rw[show FloatKind.f64.format.order x 14114281232179134464=_ from a3];decide
  clear e a1 a2 a3 hx hcv
  go_wp2
  all_goals
   go_ret
   exact⟨cf E.out.symm,HB⟩
 ·have f1:(FloatKind.f64.format.order x x != some Ordering.eq)=false:=by rw[a1];decide
  have f2:(FloatKind.f64.format.order x 4890909195324358656 == some Ordering.gt || FloatKind.f64.format.order x 4890909195324358656 == some Ordering.eq)=false:=by
   rw[show FloatKind.f64.format.order x 4890909195324358656=_ from a2];decide
  have f3:(FloatKind.f64.format.order x 14114281232179134464 == some Ordering.lt)=false:=by
   rcases a3 with a3|a3 <;> rw[show FloatKind.f64.format.order x 14114281232179134464=_ from a3] <;> decide
  have hcv':=hcv x _ a4
  clear a1 a2 a3 a4 hx hcv
  go_wp2
  go_ways
  all_goals
   go_ret
   exact⟨rfl,HB⟩
theorem CX (vk bits:Int) (tx s:EP) (k l:Int) (s2:EP) (k2 l2:Int) (w:EQ):Below w.heap.size w (((w.alloc (.cells #[.int .i64 vk,.int .u64 bits,.string tx] 71)).alloc (.cells #[.string s,.int .i64 k,.int .i64 l] 68)).alloc (.cells #[.string s2,.int .i64 k2,.int .i64 l2] 68)):=aB (aB (aA _) (aA _)) (aA _)
theorem AT (vk bits:Int) (tx s:EP) (k l:Int) (s2:EP) (k2 l2:Int) (w:EQ):Below w.heap.size w ((((w.alloc (.cells #[.int .i64 vk,.int .u64 bits,.string tx] 71)).alloc (.cells #[.string s,.int .i64 k,.int .i64 l] 68)).alloc (.cells #[.string s2,.int .i64 k2,.int .i64 l2] 68)).alloc (.cells #[.int .i64 0,.int .u64 0,.string ⟨#[]⟩] 71)):=aB (CX vk bits tx s k l s2 k2 l2 w) (aA _)
def jh (l:EN) (n:Nat):EN:=l.take n++List.replicate (n - l.length) 0
theorem mJ (l:EN) (n:Nat):(jh l n).length=n:=by simp[jh];omega
theorem zG (ty:ES) (s:EP) (n:Nat) (V:EQ):(Builtin.copy_ #[44,9] ty #[.slice (some ⟨V.heap.size,0,none⟩) n n,.string s]).run Tryz.prog (V.alloc (.cells (aH (List.replicate n 0)).toArray 5)) =
 .ok (goInt (min s.size n)) (V.alloc (.cells (aH (jh (bl s) n)).toArray 5)):=by
 have hg:(V.alloc (.cells (aH (List.replicate n 0)).toArray 5)).heap[V.heap.size]?=some (.cells (aH (List.replicate n 0)).toArray 5 (0,0)):=heap_alloc_new V _
 have hlen:(aH ((bl s).take n)).length=min s.size n:=by simp[aH,aZ];omega
 have hst:=run_storeCells_at Tryz.prog V.heap.size 0 5 (aH ((bl s).take n)) 0 _ _ hg (by rw[hlen];simp[aH];omega) (by intro v hv;obtain⟨x,_,rfl⟩:=Vy.1 hv;rfl)
 have hmin:Nat.min s.size n=min s.size n:=rfl
 have htk:List.take (min s.size n) (List.map (fun b:UInt8=>Value.int IntKind.u8 (b.toNat:Int)) s.data.toList)=aH ((bl s).take n):=by
  have:=aZ s
  simp only[aH,bl,List.map_take] at this |-
  rcases Nat.le_total s.size n with h|h
  ·rw[Nat.min_eq_left h,Vx (by rw[Kz];omega),Vx (by rw[Kz];omega)]
  ·rw[Nat.min_eq_right h]
 obtain⟨i,hi,hz0,hz1,hz2⟩:=info_parts nW
 simp[Builtin.copy_,run_underlying Tryz.underlying44,Builtin.lenOf,Builtin.firstCells,sizeOf,typeInfo,hi,hmin]
 rw[htk,hst]
 simp only[Result.andThen]
 have e0:goInt ((min s.size n:Nat):Int)=goInt (min (s.size:Int) (n:Int)):=by congr 1;omega
 rw[World.setRow_alloc_new,<-e0]
 congr 1
 congr 2
 apply congrArg
 simp only[Nat.zero_add,List.take_zero,List.nil_append,hlen,jh,bE]
 congr 1
 simp only[aH,List.map_replicate,List.drop_replicate,aZ]
 congr 1
 omega
theorem oE (k:Int) (r:Bool) (h:eK 1 k 4=r) (w:EQ):Calls Tryz.prog 109 #[.int .i64 k] w fun e w'=>e=.returned (.bool r)/\w=w':=h▸jI k w
theorem dX (s s2:EP) (k l k2 l2:Int) (r:Bool) (h:aU k l k2 l2=r) (w:EQ):Calls Tryz.prog 108 #[.agg #[.string s,.int .i64 k,.int .i64 l],.agg #[.string s2,.int .i64 k2,.int .i64 l2]] w fun e w'=>e=.returned (.bool r)/\Below w.heap.size w w':=h▸ru s s2 k l k2 l2 w
theorem uZ (vk bits:Int) (tx s s2:EP) (k l k2 l2:Int) (h0:0<=bits) (h1:bits<18446744073709551616) (hr:aM vk bits tx k l=false) (w:EQ):
 Calls Tryz.prog 74 #[.agg #[.int .i64 vk,.int .u64 bits,.string tx],.agg #[.string s,.int .i64 k,.int .i64 l],.agg #[.string s2,.int .i64 k2,.int .i64 l2]] w fun e w'=>e=.returned (.tuple #[.agg #[.int .i64 0,.int .u64 0,.string (⟨#[]⟩:EP)],.int .i64 50])/\Below w.heap.size w w':=by
 have HB:=CX vk bits tx s k l s2 k2 l2 w
 have HR:=J0 hr
 clear hr
 go_enter Tryz.func74,Tryz.ntmps74
 go_wp2_with (first
  |(go_at_call 95;refine(av _ _ _ _ _ _ h0 h1 _ HR.out _).mono ?_;rintro e w1 ⟨rfl,hb⟩;obtain⟨hc,hf⟩:=aS hb;obtain⟨z0,z1,z2,z3⟩:=il w hb (by (try simp) <;> omega);replace HB:Below w.heap.size w _:=aB (by repeat (first|exact HB|refine J8 ?_ (by dsimp only;omega) _|refine Jk ?_ (by have:=HB.size;(try simp) <;> omega) _|apply Jv)) hb))
 refine Xx (v:=.tuple #[.agg #[.int .i64 0,.int .u64 0,.string (⟨#[]⟩:EP)],.int .i64 50]) (by simp[results,Tryz.results74,go_sem, *]) rfl ⟨rfl,?_⟩
 (repeat (first|exact HB|refine J8 ?_ (by dsimp only;omega) _|refine Jk ?_ (by have:=HB.size;(try simp) <;> omega) _|apply Jv))
theorem yl (vk bits:Int) (tx s s2:EP) (k l k2 l2:Int) (h0:0<=bits) (h1:bits<18446744073709551616) (hr:aM vk bits tx k l=true) (hc:aU k l k2 l2=false) (w:EQ):
 Calls Tryz.prog 74 #[.agg #[.int .i64 vk,.int .u64 bits,.string tx],.agg #[.string s,.int .i64 k,.int .i64 l],.agg #[.string s2,.int .i64 k2,.int .i64 l2]] w fun e w'=>e=.returned (.tuple #[.agg #[.int .i64 0,.int .u64 0,.string (⟨#[]⟩:EP)],.int .i64 51])/\Below w.heap.size w w':=by
 have HB:=CX vk bits tx s k l s2 k2 l2 w
 have HR:=J0 hr
 have HC:=J0 hc
 clear hr hc
 go_enter Tryz.func74,Tryz.ntmps74
 go_wp2_with (first
  |(go_at_call 95;refine(av _ _ _ _ _ _ h0 h1 _ HR.out _).mono ?_;rintro e w1 ⟨rfl,hb⟩;obtain⟨hc,hf⟩:=aS hb;obtain⟨z0,z1,z2,z3⟩:=il w hb (by (try simp) <;> omega);replace HB:Below w.heap.size w _:=aB (by repeat (first|exact HB|refine J8 ?_ (by dsimp only;omega) _|refine Jk ?_ (by have:=HB.size;(try simp) <;> omega) _|apply Jv)) hb)
  |(go_at_call 108;refine(dX _ _ _ _ _ _ _ HC.out _).mono ?_;rintro e w2 ⟨rfl,hb⟩;obtain⟨hc,hf⟩:=aS hb;obtain⟨z0,z1,z2,z3⟩:=il w hb (by (try simp) <;> omega);replace HB:Below w.heap.size w _:=aB (by repeat (first|exact HB|refine J8 ?_ (by dsimp only;omega) _|refine Jk ?_ (by have:=HB.size;(try simp) <;> omega) _|apply Jv)) hb))
 refine Xx (v:=.tuple #[.agg #[.int .i64 0,.int .u64 0,.string (⟨#[]⟩:EP)],.int .i64 51]) (by simp[results,Tryz.results74,go_sem, *]) rfl ⟨rfl,?_⟩
 (repeat (first|exact HB|refine J8 ?_ (by dsimp only;omega) _|refine Jk ?_ (by have:=HB.size;(try simp) <;> omega) _|apply Jv))
theorem xD (vk bits:Int) (tx s s2:EP) (k l k2 l2:Int) (h0:0<=bits) (h1:bits<18446744073709551616) (hr:aM vk bits tx k l=true) (hc:aU k l k2 l2=true) (hk:¬k2=12) (hf:k2=10->eK 1 k 4=false/\eK 5 k 8=false) (hi:k2=8->¬k=10) (w:EQ):
 Calls Tryz.prog 74 #[.agg #[.int .i64 vk,.int .u64 bits,.string tx],.agg #[.string s,.int .i64 k,.int .i64 l],.agg #[.string s2,.int .i64 k2,.int .i64 l2]] w fun e w'=>e=.returned (.tuple #[.agg #[.int .i64 k2,.int .u64 bits,.string (⟨#[]⟩:EP)],.int .i64 0])/\Below w.heap.size w w':=by
 have HB:=CX vk bits tx s k l s2 k2 l2 w
 have HR:=J0 hr
 have HC:=J0 hc
 have e12:(k2 == 12)=false:=by simpa using hk
 clear hr hc hk
 by_cases c10:k2=10
 ·subst c10
  obtain⟨p1,p2⟩:=hf rfl
  clear hf hi
  have Q1:=J0 p1
  have Q2:=J0 p2
  clear p1 p2
  go_enter Tryz.func74,Tryz.ntmps74
  go_wp2_with (first
   |(go_at_call 95;refine(av _ _ _ _ _ _ h0 h1 _ HR.out _).mono ?_;rintro e w1 ⟨rfl,hb⟩;obtain⟨hc,hf⟩:=aS hb;obtain⟨z0,z1,z2,z3⟩:=il w hb (by (try simp) <;> omega);replace HB:Below w.heap.size w _:=aB (by repeat (first|exact HB|refine J8 ?_ (by dsimp only;omega) _|refine Jk ?_ (by have:=HB.size;(try simp) <;> omega) _|apply Jv)) hb)
   |(go_at_call 108;refine(dX _ _ _ _ _ _ _ HC.out _).mono ?_;rintro e w2 ⟨rfl,hb⟩;obtain⟨hc,hf⟩:=aS hb;obtain⟨z0,z1,z2,z3⟩:=il w hb (by (try simp) <;> omega);replace HB:Below w.heap.size w _:=aB (by repeat (first|exact HB|refine J8 ?_ (by dsimp only;omega) _|refine Jk ?_ (by have:=HB.size;(try simp) <;> omega) _|apply Jv)) hb)
   |(go_at_call 109;refine(oE _ _ Q1.out _).mono ?_;rintro e w' ⟨rfl,rfl⟩)
   |(go_at_call 111;refine(dP _ _ Q2.out _).mono ?_;rintro e w' ⟨rfl,rfl⟩))
  refine Xx (v:=.tuple #[.agg #[.int .i64 10,.int .u64 bits,.string (⟨#[]⟩:EP)],.int .i64 0]) (by simp[results,Tryz.results74,go_sem, *]) rfl ⟨rfl,?_⟩
  (repeat (first|exact HB|refine J8 ?_ (by dsimp only;omega) _|refine Jk ?_ (by have:=HB.size;(try simp) <;> omega) _|apply Jv))
 ·have e10:(k2 == 10)=false:=by simpa using c10
  clear hf
  by_cases c8:k2=8
  ·subst c8
   have ek:(k == 10)=false:=by simpa using hi rfl
   clear hi c10
   go_enter Tryz.func74,Tryz.ntmps74
   go_wp2_with (first
    |(go_at_call 95;refine(av _ _ _ _ _ _ h0 h1 _ HR.out _).mono ?_;rintro e w1 ⟨rfl,hb⟩;obtain⟨hc,hf⟩:=aS hb;obtain⟨z0,z1,z2,z3⟩:=il w hb (by (try simp) <;> omega);replace HB:Below w.heap.size w _:=aB (by repeat (first|exact HB|refine J8 ?_ (by dsimp only;omega) _|refine Jk ?_ (by have:=HB.size;(try simp) <;> omega) _|apply Jv)) hb)
    |(go_at_call 108;refine(dX _ _ _ _ _ _ _ HC.out _).mono ?_;rintro e w2 ⟨rfl,hb⟩;obtain⟨hc,hf⟩:=aS hb;obtain⟨z0,z1,z2,z3⟩:=il w hb (by (try simp) <;> omega);replace HB:Below w.heap.size w _:=aB (by repeat (first|exact HB|refine J8 ?_ (by dsimp only;omega) _|refine Jk ?_ (by have:=HB.size;(try simp) <;> omega) _|apply Jv)) hb))
   refine Xx (v:=.tuple #[.agg #[.int .i64 8,.int .u64 bits,.string (⟨#[]⟩:EP)],.int .i64 0]) (by simp[results,Tryz.results74,go_sem, *]) rfl ⟨rfl,?_⟩
   (repeat (first|exact HB|refine J8 ?_ (by dsimp only;omega) _|refine Jk ?_ (by have:=HB.size;(try simp) <;> omega) _|apply Jv))
  ·have e8:(k2 == 8)=false:=by simpa using c8
   clear hi c10 c8
   go_enter Tryz.func74,Tryz.ntmps74
   go_wp2_with (first
    |(go_at_call 95;refine(av _ _ _ _ _ _ h0 h1 _ HR.out _).mono ?_;rintro e w1 ⟨rfl,hb⟩;obtain⟨hc,hf⟩:=aS hb;obtain⟨z0,z1,z2,z3⟩:=il w hb (by (try simp) <;> omega);replace HB:Below w.heap.size w _:=aB (by repeat (first|exact HB|refine J8 ?_ (by dsimp only;omega) _|refine Jk ?_ (by have:=HB.size;(try simp) <;> omega) _|apply Jv)) hb)
    |(go_at_call 108;refine(dX _ _ _ _ _ _ _ HC.out _).mono ?_;rintro e w2 ⟨rfl,hb⟩;obtain⟨hc,hf⟩:=aS hb;obtain⟨z0,z1,z2,z3⟩:=il w hb (by (try simp) <;> omega);replace HB:Below w.heap.size w _:=aB (by repeat (first|exact HB|refine J8 ?_ (by dsimp only;omega) _|refine Jk ?_ (by have:=HB.size;(try simp) <;> omega) _|apply Jv)) hb))
   refine Xx (v:=.tuple #[.agg #[.int .i64 k2,.int .u64 bits,.string (⟨#[]⟩:EP)],.int .i64 0]) (by simp[results,Tryz.results74,go_sem, *]) rfl ⟨rfl,?_⟩
   (repeat (first|exact HB|refine J8 ?_ (by dsimp only;omega) _|refine Jk ?_ (by have:=HB.size;(try simp) <;> omega) _|apply Jv))
theorem mC (n:Int) (h0:0<=n) (h1:n<18446744073709551616):floatOfInt .f64 n=bL false n.toNat:=by
 have e:floatOfInt .f64 n=Ieee.Format.nearest Ieee.double (decide (n<0)) n.natAbs 0:=rfl
 rw[e,show decide (n<0)=false by simpa using h0,show n.natAbs=n.toNat by omega]
 refine fp _ _ ?_
 by_cases hz:n.toNat=0
 ·rw[hz];decide
 ·have:n.toNat.log2<64:=by rw[Nat.log2_lt hz];omega
  omega
theorem tN (n:Int) (h0:n<0) (h1:-18446744073709551616<n):floatOfInt .f64 n=bL true (-n).toNat:=by
 have e:floatOfInt .f64 n=Ieee.Format.nearest Ieee.double (decide (n<0)) n.natAbs 0:=rfl
 rw[e,show decide (n<0)=true by simpa using h0,show n.natAbs=(-n).toNat by omega]
 refine fp _ _ ?_
 have hz:(-n).toNat≠0:=by omega
 have:(-n).toNat.log2<64:=by rw[Nat.log2_lt hz];omega
 omega
def aw (bits k k2:Int):Int:=
 if k2=10/\eK 1 k 4=true then(bL false bits.toNat:Int)
 else if k2=10/\eK 5 k 8=true then(if 9223372036854775808<=bits then(bL true (18446744073709551616 - bits).toNat:Int) else(bL false bits.toNat:Int))
 else if k2=8/\k=10 then cN bits.toNat % 18446744073709551616 else bits
theorem uX (vk bits:Int) (tx s s2:EP) (k l l2:Int) (h0:0<=bits) (h1:bits<18446744073709551616) (hr:aM vk bits tx k l=true) (hc:aU k l 10 l2=true) (hp:eK 1 k 4=true) (w:EQ):
 Calls Tryz.prog 74 #[.agg #[.int .i64 vk,.int .u64 bits,.string tx],.agg #[.string s,.int .i64 k,.int .i64 l],.agg #[.string s2,.int .i64 10,.int .i64 l2]] w fun e w'=>e=.returned (.tuple #[.agg #[.int .i64 10,.int .u64 (aw bits k 10),.string (⟨#[]⟩:EP)],.int .i64 0])/\Below w.heap.size w w':=by
 have HB:=CX vk bits tx s k l s2 10 l2 w
 have HR:=J0 hr
 have HC:=J0 hc
 clear hr hc
 have e:aw bits k 10=(floatOfInt .f64 bits:Int):=by rw[aw,Xz ⟨rfl,hp⟩,mC bits h0 h1]
 rw[e]
 have Q1:=J0 hp
 clear hp e
 have hcf:=sZ
 go_enter Tryz.func74,Tryz.ntmps74
 go_wp2_with (first
  |(go_at_call 95;refine(av _ _ _ _ _ _ h0 h1 _ HR.out _).mono ?_;rintro e w1 ⟨rfl,hb⟩;obtain⟨hc,hf⟩:=aS hb;obtain⟨z0,z1,z2,z3⟩:=il w hb (by (try simp) <;> omega);replace HB:Below w.heap.size w _:=aB (by repeat (first|exact HB|refine J8 ?_ (by dsimp only;omega) _|refine Jk ?_ (by have:=HB.size;(try simp) <;> omega) _|apply Jv)) hb)
  |(go_at_call 108;refine(dX _ _ _ _ _ _ _ HC.out _).mono ?_;rintro e w2 ⟨rfl,hb⟩;obtain⟨hc,hf⟩:=aS hb;obtain⟨z0,z1,z2,z3⟩:=il w hb (by (try simp) <;> omega);replace HB:Below w.heap.size w _:=aB (by repeat (first|exact HB|refine J8 ?_ (by dsimp only;omega) _|refine Jk ?_ (by have:=HB.size;(try simp) <;> omega) _|apply Jv)) hb)
  |(go_at_call 109;refine(oE _ _ Q1.out _).mono ?_;rintro e w' ⟨rfl,rfl⟩))
 refine Xx (v:=.tuple #[.agg #[.int .i64 10,.int .u64 ((floatOfInt .f64 bits:Int)),.string (⟨#[]⟩:EP)],.int .i64 0]) (by simp[results,Tryz.results74,go_sem, *]) rfl ⟨rfl,?_⟩
 (repeat (first|exact HB|refine J8 ?_ (by dsimp only;omega) _|refine Jk ?_ (by have:=HB.size;(try simp) <;> omega) _|apply Jv))
theorem rq (vk bits:Int) (tx s s2:EP) (k l l2:Int) (h0:0<=bits) (h1:bits<18446744073709551616) (hr:aM vk bits tx k l=true) (hc:aU k l 10 l2=true) (hp:eK 5 k 8=true) (w:EQ):
 Calls Tryz.prog 74 #[.agg #[.int .i64 vk,.int .u64 bits,.string tx],.agg #[.string s,.int .i64 k,.int .i64 l],.agg #[.string s2,.int .i64 10,.int .i64 l2]] w fun e w'=>e=.returned (.tuple #[.agg #[.int .i64 10,.int .u64 (aw bits k 10),.string (⟨#[]⟩:EP)],.int .i64 0])/\Below w.heap.size w w':=by
 have HB:=CX vk bits tx s k l s2 10 l2 w
 have HR:=J0 hr
 have HC:=J0 hc
 clear hr hc
 have hp1:eK 1 k 4=false:=by have:=br.1 hp;rw[qa];omega
 have e:aw bits k 10=(floatOfInt .f64 (wrap64 bits):Int):=by
  rw[aw,Xy (by rw[hp1];simp),Xz ⟨rfl,hp⟩]
  by_cases hb:9223372036854775808<=bits
  ·rw[Xz hb,show wrap64 bits=bits - 18446744073709551616 by unfold wrap64;omega,tN _ (by omega) (by omega),show(-(bits - 18446744073709551616)).toNat=(18446744073709551616 - bits).toNat by omega]
  ·rw[Xy hb,show wrap64 bits=bits by unfold wrap64;omega,mC _ h0 h1]
 rw[e]
 have Q1:=J0 hp1
 have Q2:=J0 hp
 clear hp e hp1
 have hcf:=sZ
 go_enter Tryz.func74,Tryz.ntmps74
 go_wp2_with (first
  |(go_at_call 95;refine(av _ _ _ _ _ _ h0 h1 _ HR.out _).mono ?_;rintro e w1 ⟨rfl,hb⟩;obtain⟨hc,hf⟩:=aS hb;obtain⟨z0,z1,z2,z3⟩:=il w hb (by (try simp) <;> omega);replace HB:Below w.heap.size w _:=aB (by repeat (first|exact HB|refine J8 ?_ (by dsimp only;omega) _|refine Jk ?_ (by have:=HB.size;(try simp) <;> omega) _|apply Jv)) hb)
  |(go_at_call 108;refine(dX _ _ _ _ _ _ _ HC.out _).mono ?_;rintro e w2 ⟨rfl,hb⟩;obtain⟨hc,hf⟩:=aS hb;obtain⟨z0,z1,z2,z3⟩:=il w hb (by (try simp) <;> omega);replace HB:Below w.heap.size w _:=aB (by repeat (first|exact HB|refine J8 ?_ (by dsimp only;omega) _|refine Jk ?_ (by have:=HB.size;(try simp) <;> omega) _|apply Jv)) hb)
  |(go_at_call 109;refine(oE _ _ Q1.out _).mono ?_;rintro e w' ⟨rfl,rfl⟩)
  |(go_at_call 111;refine(dP _ _ Q2.out _).mono ?_;rintro e w' ⟨rfl,rfl⟩))
 refine Xx (v:=.tuple #[.agg #[.int .i64 10,.int .u64 ((floatOfInt .f64 (wrap64 bits):Int)),.string (⟨#[]⟩:EP)],.int .i64 0]) (by simp[results,Tryz.results74,go_sem, *]) rfl ⟨rfl,?_⟩
 (repeat (first|exact HB|refine J8 ?_ (by dsimp only;omega) _|refine Jk ?_ (by have:=HB.size;(try simp) <;> omega) _|apply Jv))
theorem uY (vk bits:Int) (tx s s2:EP) (l l2:Int) (h0:0<=bits) (h1:bits<18446744073709551616) (hr:aM vk bits tx 10 l=true) (hc:aU 10 l 8 l2=true) (w:EQ):
 Calls Tryz.prog 74 #[.agg #[.int .i64 vk,.int .u64 bits,.string tx],.agg #[.string s,.int .i64 10,.int .i64 l],.agg #[.string s2,.int .i64 8,.int .i64 l2]] w fun e w'=>e=.returned (.tuple #[.agg #[.int .i64 8,.int .u64 (aw bits 10 8),.string (⟨#[]⟩:EP)],.int .i64 0])/\Below w.heap.size w w':=by
 have HB:=CX vk bits tx s 10 l s2 8 l2 w
 have HR:=J0 hr
 have HC:=J0 hc
 clear hr hc
 have e:aw bits 10 8=cN bits.toNat % 18446744073709551616:=by simp[aw]
 rw[e]
 clear e
 obtain⟨z,hz⟩:∃z,cN bits.toNat=z:=⟨_,rfl⟩
 rw[hz]
 have HZ:=J0 hz
 clear hz
 have e3:IntKind.u64.wrap z=z % 18446744073709551616:=IntKind.wrap_u64 z
 go_enter Tryz.func74,Tryz.ntmps74
 go_wp2_with (first
  |(go_at_call 95;refine(av _ _ _ _ _ _ h0 h1 _ HR.out _).mono ?_;rintro e w1 ⟨rfl,hb⟩;obtain⟨hc,hf⟩:=aS hb;obtain⟨z0,z1,z2,z3⟩:=il w hb (by (try simp) <;> omega);replace HB:Below w.heap.size w _:=aB (by repeat (first|exact HB|refine J8 ?_ (by dsimp only;omega) _|refine Jk ?_ (by have:=HB.size;(try simp) <;> omega) _|apply Jv)) hb)
  |(go_at_call 108;refine(dX _ _ _ _ _ _ _ HC.out _).mono ?_;rintro e w2 ⟨rfl,hb⟩;obtain⟨hc,hf⟩:=aS hb;obtain⟨z0,z1,z2,z3⟩:=il w hb (by (try simp) <;> omega);replace HB:Below w.heap.size w _:=aB (by repeat (first|exact HB|refine J8 ?_ (by dsimp only;omega) _|refine Jk ?_ (by have:=HB.size;(try simp) <;> omega) _|apply Jv)) hb)
  |(go_at_call 112;refine(sV bits h0 h1 _).mono ?_;rw[HZ.out];rintro e w3 ⟨rfl,hb⟩;obtain⟨hc,hf⟩:=aS hb;obtain⟨z0,z1,z2,z3⟩:=il w hb (by (try simp) <;> omega);obtain y0:w2.heap.size<w3.heap.size:=(by have hz_:=hb.size;(try simp at hz_);omega);replace HB:Below w.heap.size w _:=aB (by repeat (first|exact HB|refine J8 ?_ (by dsimp only;omega) _|refine Jk ?_ (by have:=HB.size;(try simp) <;> omega) _|apply Jv)) hb))
 refine Xx (v:=.tuple #[.agg #[.int .i64 8,.int .u64 (z % 18446744073709551616),.string (⟨#[]⟩:EP)],.int .i64 0]) (by simp[results,Tryz.results74,go_sem, *]) rfl ⟨rfl,?_⟩
 (repeat (first|exact HB|refine J8 ?_ (by dsimp only;omega) _|refine Jk ?_ (by have:=HB.size;(try simp) <;> omega) _|apply Jv))
theorem gq {k l l2:Int} (h:aU k l 12 l2=true):k=12/\bW 12 l2=true:=by
 unfold aU at h
 split at h
 ·cases h
 ·rename_i hz
  have hm:bW 12 l2=true:=by
   by_cases hm:bW 12 l2=true
   ·exact hm
   ·exfalso;apply hz;right;simp[aT,hm]
  refine⟨?_,hm⟩
  simpa[eK] using h
theorem uV (vk bits:Int) (tx s s2:EP) (k l:Int) (n:Nat) (h0:0<=bits) (h1:bits<18446744073709551616) (hr:aM vk bits tx k l=true) (hc:aU k l 12 n=true) (w:EQ):
 Calls Tryz.prog 74 #[.agg #[.int .i64 vk,.int .u64 bits,.string tx],.agg #[.string s,.int .i64 k,.int .i64 l],.agg #[.string s2,.int .i64 12,.int .i64 n]] w fun e w'=>e=.returned (.tuple #[.agg #[.int .i64 12,.int .u64 bits,.string (aR (jh (bl tx) n))],.int .i64 0])/\Below w.heap.size w w':=by
 have HB:Below w.heap.size w (((w.alloc (.cells #[.int .i64 vk,.int .u64 bits,.string tx] 71)).alloc (.cells #[.string s,.int .i64 k,.int .i64 l] 68)).alloc (.cells #[.string s2,.int .i64 12,.int .i64 n] 68)):=((aA _).alloc (by simp) _).alloc (by simp;omega) _
 have hn:n<=64:=by have:=br.1 (eI▸(gq hc).2);omega
 have HR:=J0 hr
 have HC:=J0 hc
 clear hr hc
 have hmk:=kC n (by omega)
 have hcy:∀(W:EQ) (o:Obj),(Builtin.copy_ #[44,9] 3 #[.slice (some ⟨W.heap.size+1,0,none⟩) n n,.string tx]).run Tryz.prog ((W.alloc o).alloc (.cells (aH (List.replicate n 0)).toArray 5)) =
  .ok (goInt (min tx.size n)) ((W.alloc o).alloc (.cells (aH (jh (bl tx) n)).toArray 5)):=fun W o=>by simpa using zG 3 tx n (W.alloc o)
 have hcv:∀(W:EQ) (o:Obj),(convert 44 9 (.slice (some ⟨W.heap.size+1,0,none⟩) n n)).run Tryz.prog ((W.alloc o).alloc (.cells (aH (jh (bl tx) n)).toArray 5))=.ok (.string (aR (jh (bl tx) n))) ((W.alloc o).alloc (.cells (aH (jh (bl tx) n)).toArray 5)):=fun W o=>by
  have:=nP (gh (W.alloc o) (aH (jh (bl tx) n)) 5) n
  simpa[mJ] using this
 go_enter Tryz.func74,Tryz.ntmps74
 go_wp2_with (first
  |(go_at_call 95;refine(av _ _ _ _ _ _ h0 h1 _ HR.out _).mono ?_;rintro e w1 ⟨rfl,hb⟩;obtain⟨hc,hf⟩:=aS hb;obtain⟨z0,z1,z2,z3⟩:=il w hb (by (try simp) <;> omega);replace HB:Below w.heap.size w _:=aB (by repeat (first|exact HB|refine J8 ?_ (by dsimp only;omega) _|refine Jk ?_ (by have:=HB.size;(try simp) <;> omega) _|apply Jv)) hb)
  |(go_at_call 108;refine(dX _ _ _ _ _ _ _ HC.out _).mono ?_;rintro e w2 ⟨rfl,hb⟩;obtain⟨hc,hf⟩:=aS hb;obtain⟨z0,z1,z2,z3⟩:=il w hb (by (try simp) <;> omega);replace HB:Below w.heap.size w _:=aB (by repeat (first|exact HB|refine J8 ?_ (by dsimp only;omega) _|refine Jk ?_ (by have:=HB.size;(try simp) <;> omega) _|apply Jv)) hb))
 refine Xx (v:=.tuple #[.agg #[.int .i64 12,.int .u64 bits,.string (aR (jh (bl tx) n))],.int .i64 0]) (by simp[results,Tryz.results74,go_sem, *]) rfl ⟨rfl,?_⟩
 (repeat (first|exact HB|refine J8 ?_ (by dsimp only;omega) _|refine Jk ?_ (by have:=HB.size;(try simp) <;> omega) _|apply Jv))
def gQ (tx:EP) (k2 l2:Int):EP:=if k2=12 then aR (jh (bl tx) l2.toNat) else⟨#[]⟩
def gp (vk bits:Int) (tx:EP) (k l k2 l2:Int):ER:=if aM vk bits tx k l=true/\aU k l k2 l2=true then .agg #[.int .i64 k2,.int .u64 (aw bits k k2),.string (gQ tx k2 l2)] else .agg #[.int .i64 0,.int .u64 0,.string ⟨#[]⟩]
def jj (vk bits:Int) (tx:EP) (k l k2 l2:Int):Int:=if aM vk bits tx k l=true then(if aU k l k2 l2=true then 0 else 51) else 50
theorem uW (vk bits:Int) (tx s s2:EP) (k l k2 l2:Int) (h0:0<=bits) (h1:bits<18446744073709551616) (w:EQ):
 Calls Tryz.prog 74 #[.agg #[.int .i64 vk,.int .u64 bits,.string tx],.agg #[.string s,.int .i64 k,.int .i64 l],.agg #[.string s2,.int .i64 k2,.int .i64 l2]] w fun e w'=>e=.returned (.tuple #[gp vk bits tx k l k2 l2,.int .i64 (jj vk bits tx k l k2 l2)])/\Below w.heap.size w w':=by
 by_cases hr:aM vk bits tx k l=true
 ·by_cases hc:aU k l k2 l2=true
  ·rw[gp,Xz ⟨hr,hc⟩,jj,Xz hr,Xz hc]
   by_cases hk:k2=12
   ·subst hk
    have h12:=gq hc
    have hb:=br.1 (eI▸h12.2)
    obtain⟨n,rfl⟩:∃n:Nat,l2=n:=⟨l2.toNat,by omega⟩
    have e1:aw bits k 12=bits:=by simp[aw]
    rw[gQ,Xz rfl,e1]
    exact uV vk bits tx s s2 k l n h0 h1 hr hc w
   ·rw[gQ,Xy hk]
    by_cases c1:k2=10/\eK 1 k 4=true
    ·obtain⟨rfl,hp⟩:=c1
     exact uX vk bits tx s s2 k l l2 h0 h1 hr hc hp w
    ·by_cases c2:k2=10/\eK 5 k 8=true
     ·obtain⟨rfl,hp⟩:=c2
      exact rq vk bits tx s s2 k l l2 h0 h1 hr hc hp w
     ·by_cases c3:k2=8/\k=10
      ·obtain⟨rfl,rfl⟩:=c3
       exact uY vk bits tx s s2 l l2 h0 h1 hr hc w
      ·rw[aw,Xy c1,Xy c2,Xy c3]
       exact xD vk bits tx s s2 k l k2 l2 h0 h1 hr hc hk (fun e=>⟨by rw[<-Bool.not_eq_true];exact fun h=>c1 ⟨e,h⟩,by rw[<-Bool.not_eq_true];exact fun h=>c2 ⟨e,h⟩⟩) (fun e h=>c3 ⟨e,h⟩) w
  ·rw[gp,Xy (fun h=>hc h.2),jj,Xz hr,Xy hc]
   exact yl vk bits tx s s2 k l k2 l2 h0 h1 hr (by simpa using hc) w
 ·rw[gp,Xy (fun h=>hr h.1),jj,Xy hr]
  exact uZ vk bits tx s s2 k l k2 l2 h0 h1 (by simpa using hr) w
theorem ko (k:Int):0<gH k↔0<k/\k<12:=by
 unfold gH
 split <;> (try split) <;> (try split) <;> (try split) <;> omega
theorem kJ (s:EP) (k l:Int) (w:EQ):Calls Tryz.prog 113 #[.agg #[.string s,.int .i64 k,.int .i64 l]] w fun e w'=>e=.returned (.bool (bW k l))/\Below w.heap.size w w':=by
 have hp:=J0 (ko k)
 go_enter Tryz.func113,Tryz.ntmps113
 go_wp2
 all_goals
  go_ret
  refine⟨al ?_,aA _⟩
  have:=hp.out
  try simp only[beq_iff_eq,beq_eq_false_iff_ne,ne_eq] at *
  rw[Qy]
  simp only[bW,eK,Y8,decide_eq_false_iff_not,Qz,Bool.decide_and] at *
  grind
theorem dS (s:EP) (k l:Int) (r:Bool) (h:bW k l=r) (w:EQ):Calls Tryz.prog 113 #[.agg #[.string s,.int .i64 k,.int .i64 l]] w fun e w'=>e=.returned (.bool r)/\Below w.heap.size w w':=h▸kJ s k l w
theorem jK (s:EP) (k l:Int) (w:EQ):Calls Tryz.prog 92 #[.agg #[.string s,.int .i64 k,.int .i64 l]] w fun e w'=>e=.returned (.int .i64 (aT k l))/\Below w.heap.size w w':=by
 have HB:=Jy w.heap.size w
 obtain⟨r,hr⟩:∃r,bW k l=r:=⟨_,rfl⟩
 have H:=J0 hr
 clear hr
 cases r
 ·go_enter Tryz.func92,Tryz.ntmps92
  go_wp2_with (first|(go_at_call 113;refine(dS _ _ _ _ H.out _).mono ?_;rintro e w1 ⟨rfl,hb⟩;obtain⟨hc,hf⟩:=aS hb;have z0:=Er w hb (by (try simp) <;> omega);replace HB:Below w.heap.size w _:=aB (by repeat (first|exact HB|refine J8 ?_ (by dsimp only;omega) _|refine Jk ?_ (by have:=HB.size;(try simp) <;> omega) _|apply Jv)) hb))
  go_ret
  exact⟨cf (by rw[aT,H.out];rfl),HB⟩
 ·have hkk:k=12\/¬k=12:=by omega
  rcases hkk with rfl|hk
  ·go_enter Tryz.func92,Tryz.ntmps92
   go_wp2_with (first|(go_at_call 129;refine(mM _ _).mono ?_;rintro e w' ⟨rfl,rfl⟩)|(go_at_call 113;refine(dS _ _ _ _ H.out _).mono ?_;rintro e w1 ⟨rfl,hb⟩;obtain⟨hc,hf⟩:=aS hb;have z0:=Er w hb (by (try simp) <;> omega);replace HB:Below w.heap.size w _:=aB (by repeat (first|exact HB|refine J8 ?_ (by dsimp only;omega) _|refine Jk ?_ (by have:=HB.size;(try simp) <;> omega) _|apply Jv)) hb))
   go_ret
   exact⟨cf (by rw[aT,H.out];rfl),HB⟩
  ·have hk':(k == 12)=false:=by simpa using hk
   go_enter Tryz.func92,Tryz.ntmps92
   go_wp2_with (first|(go_at_call 129;refine(mM _ _).mono ?_;rintro e w' ⟨rfl,rfl⟩)|(go_at_call 113;refine(dS _ _ _ _ H.out _).mono ?_;rintro e w1 ⟨rfl,hb⟩;obtain⟨hc,hf⟩:=aS hb;have z0:=Er w hb (by (try simp) <;> omega);replace HB:Below w.heap.size w _:=aB (by repeat (first|exact HB|refine J8 ?_ (by dsimp only;omega) _|refine Jk ?_ (by have:=HB.size;(try simp) <;> omega) _|apply Jv)) hb))
   go_ret
   exact⟨cf (by rw[aT,H.out,Xz rfl,Xy hk]),HB⟩
theorem uB (s:EP) (k l:Int) (r:Int) (h:aT k l=r) (w:EQ):Calls Tryz.prog 92 #[.agg #[.string s,.int .i64 k,.int .i64 l]] w fun e w'=>e=.returned (.int .i64 r)/\Below w.heap.size w w':=h▸jK s k l w
theorem Aw (n width:Int) (s:Bool) (h0:0<=n) (h1:n<18446744073709551616) (r:Bool) (h:bi n width s=r) (w:EQ):Calls Tryz.prog 160 #[.int .u64 n,.int .i64 width,.bool s] w fun e w'=>e=.returned (.bool r)/\w=w':=h▸tu n width s h0 h1 w
theorem pQ (vk bits:Int) (tx s:EP) (k l:Int) (h0:0<=bits) (h1:bits<18446744073709551616) (w:EQ):
 Calls Tryz.prog 115 #[.agg #[.int .i64 vk,.int .u64 bits,.string tx],.agg #[.string s,.int .i64 k,.int .i64 l]] w fun e w'=>e=.returned (.bool (aM vk bits tx k l))/\Below w.heap.size w w':=by
 have HB:=aA (w:=w) (.cells #[.int .i64 vk,.int .u64 bits,.string tx] 71)
 obtain⟨r,hr⟩:∃r,bW k l=r:=⟨_,rfl⟩
 have H:=J0 hr
 clear hr
 cases r
 ·go_enter Tryz.func115,Tryz.ntmps115
  go_wp2_with (first|(go_at_call 113;refine(dS _ _ _ _ H.out _).mono ?_;rintro e w1 ⟨rfl,hb⟩;obtain⟨hc,hf⟩:=aS hb;obtain⟨z0,z1⟩:=xA w hb (by (try simp) <;> omega);replace HB:Below w.heap.size w _:=aB (by repeat (first|exact HB|refine J8 ?_ (by dsimp only;omega) _|refine Jk ?_ (by have:=HB.size;(try simp) <;> omega) _|apply Jv)) hb))
  go_ret
  exact⟨al (by simp[aM,H.out]),HB⟩
 ·obtain⟨rk,hrk⟩:∃b,decide (9<k)=b:=⟨_,rfl⟩
  have hk9:(rk=true↔9<k):=by rw[<-hrk];simp
  by_cases hv:vk=k
  ·subst hv
   by_cases hk:vk=12
   ·subst hk
    clear hrk hk9
    go_enter Tryz.func115,Tryz.ntmps115
    go_wp2_with (first|(go_at_call 113;refine(dS _ _ _ _ H.out _).mono ?_;rintro e w1 ⟨rfl,hb⟩;obtain⟨hc,hf⟩:=aS hb;obtain⟨z0,z1⟩:=xA w hb (by (try simp) <;> omega);replace HB:Below w.heap.size w _:=aB (by repeat (first|exact HB|refine J8 ?_ (by dsimp only;omega) _|refine Jk ?_ (by have:=HB.size;(try simp) <;> omega) _|apply Jv)) hb))
    all_goals
     go_ret
     refine⟨al ?_,HB⟩
     rw[aM,H.out]
     simp[fQ, *]
     try grind
   ·have e12:(vk == 12)=false:=by simpa using hk
    by_cases ht:tx.toList=[]
    ·have ht1:(!tx.toList.isEmpty)=false:=by simp[ht]
     have hsz:(tx.size:Int)=0:=by
      rw[<-aZ,bl,<-ByteArray.toList_eq,ht];rfl
     have HZ:=J0 hsz
     clear hsz ht
     by_cases hk9':vk=9
     ·subst hk9'
      clear hrk hk9
      go_enter Tryz.func115,Tryz.ntmps115
      go_wp2_with (first|(go_at_call 113;refine(dS _ _ _ _ H.out _).mono ?_;rintro e w1 ⟨rfl,hb⟩;obtain⟨hc,hf⟩:=aS hb;obtain⟨z0,z1⟩:=xA w hb (by (try simp) <;> omega);replace HB:Below w.heap.size w _:=aB (by repeat (first|exact HB|refine J8 ?_ (by dsimp only;omega) _|refine Jk ?_ (by have:=HB.size;(try simp) <;> omega) _|apply Jv)) hb))
      go_ret
      refine⟨al ?_,HB⟩
      rw[aM,H.out,HZ.out,Qy]
      simp[fQ]
      omega
     ·have e9:(vk == 9)=false:=by simpa using hk9'
      obtain⟨q,hq⟩:∃q,bi bits (aT vk l) (decide (4<vk))=q:=⟨_,rfl⟩
      have hpos:=(ko vk).1 (fm H.out hk).2
      have hfit:fQ bits vk l=(rk || q):=by
       rw[fQ,Xy hk,Xy hk9']
       by_cases h9:9<vk
       ·have:rk=true:=hk9.2 h9
        rw[this];simp;omega
       ·have h8:rk=false:=by cases hh:rk;rfl;exact absurd (hk9.1 hh) h9
        have hb:eK 5 vk 8=decide (4<vk):=by rw[Qy];simp[eK];omega
        rw[h8,hb,hq,Y9 (show ¬vk=10 by omega),Y9 (show ¬vk=11 by omega)];simp
      have HF:=J0 hfit
      have HQ:=J0 hq
      have HK:=J0 hk
      clear hfit hq hpos hk9 hk hk9'
      cases rk
      all_goals
       go_enter Tryz.func115,Tryz.ntmps115
       go_wp2_with (first|(go_at_call 113;refine(dS _ _ _ _ H.out _).mono ?_;rintro e w1 ⟨rfl,hb⟩;obtain⟨hc,hf⟩:=aS hb;obtain⟨z0,z1⟩:=xA w hb (by (try simp) <;> omega);replace HB:Below w.heap.size w _:=aB (by repeat (first|exact HB|refine J8 ?_ (by dsimp only;omega) _|refine Jk ?_ (by have:=HB.size;(try simp) <;> omega) _|apply Jv)) hb))
       have g1:cG w1 (w.heap.size+1) s vk l:=⟨by rw[hc _ _ (by simp)];simp[go_sem],by rw[hc _ _ (by simp)];simp[go_sem],by rw[hc _ _ (by simp)];simp[go_sem]⟩
       have g2:eJ w1 w.heap.size vk bits tx:=⟨by rw[hc _ _ (by simp;omega)];simp[go_sem],by rw[hc _ _ (by simp;omega)];simp[go_sem],by rw[hc _ _ (by simp;omega)];simp[go_sem]⟩
       refine RW.start (fun w'=>Below w.heap.size w w'/\cG w' (w.heap.size+1) s vk l/\eJ w' w.heap.size vk bits tx) (by kernel_rfl) (by kernel_rfl) ⟨HB.drew,g1,g2⟩ ?_
       clear g1 g2 hc hf hb HB z0 z1
       repeat (first
        |(refine' RW.val (by rfl) ?_ ?_;rotate_left;(focus (intro w' hS;obtain⟨HB,⟨c0,c1,c2⟩,⟨d0,d1,d2⟩⟩:=hS;go_simp;rfl));simp only[Act.put,J1,J3,J2])
        |(refine RW.off (by rfl) ?_;simp only[Act.put,J1,J3,J2])
        |(refine' RW.call (by rfl) ?_ ?_ ?_
          rotate_left 3
          (focus (intro w' hS;obtain⟨HB,⟨c0,c1,c2⟩,⟨d0,d1,d2⟩⟩:=hS;go_simp;exact⟨rfl,rfl⟩))
          (focus
            intro w' hS
            obtain⟨HB,⟨c0,c1,c2⟩,⟨d0,d1,d2⟩⟩:=hS
            first
             |(refine(jK _ _ _ _).mono ?_;rintro e w1 ⟨rfl,hb⟩;exact⟨rfl,⟨(aB HB hb),⟨(aE (B:=0) hb c0),(aE (B:=0) hb c1),(aE (B:=0) hb c2)⟩,⟨(aE (B:=0) hb d0),(aE (B:=0) hb d1),(aE (B:=0) hb d2)⟩⟩⟩)
             |(refine(Aw _ _ _ h0 h1 _ HQ.out _).mono ?_;rintro e w1 ⟨rfl,rfl⟩;exact⟨rfl,⟨HB,⟨c0,c1,c2⟩,⟨d0,d1,d2⟩⟩⟩))
          simp only[Act.put,J1,J3,J2]))
       refine RW.done (fun w' hS=>?_)
       obtain⟨HB,⟨c0,c1,c2⟩,⟨d0,d1,d2⟩⟩:=hS
       go_wp2
       go_ret
       exact⟨al (by rw[aM,H.out,HZ.out,HF.out,Xy HK.out];simp),HB⟩
    ·have ht1:(!tx.toList.isEmpty)=true:=by simpa using ht
     have hsz:¬(tx.size:Int)=0:=by
      intro h
      apply ht
      rw[ByteArray.toList_eq]
      exact List.eq_nil_of_length_eq_zero (by have:=aZ tx;rw[bl] at this;omega)
     have HZ:=J0 hsz
     clear hsz ht hrk hk9
     go_enter Tryz.func115,Tryz.ntmps115
     go_wp2_with (first|(go_at_call 113;refine(dS _ _ _ _ H.out _).mono ?_;rintro e w1 ⟨rfl,hb⟩;obtain⟨hc,hf⟩:=aS hb;obtain⟨z0,z1⟩:=xA w hb (by (try simp) <;> omega);replace HB:Below w.heap.size w _:=aB (by repeat (first|exact HB|refine J8 ?_ (by dsimp only;omega) _|refine Jk ?_ (by have:=HB.size;(try simp) <;> omega) _|apply Jv)) hb))
     go_ret
     refine⟨al ?_,HB⟩
     rw[aM,H.out,Xy hk,Y9 HZ.out]
     simp
  ·have hv':(vk != k)=true:=by simpa using hv
   clear hrk hk9
   go_enter Tryz.func115,Tryz.ntmps115
   go_wp2_with (first|(go_at_call 113;refine(dS _ _ _ _ H.out _).mono ?_;rintro e w1 ⟨rfl,hb⟩;obtain⟨hc,hf⟩:=aS hb;obtain⟨z0,z1⟩:=xA w hb (by (try simp) <;> omega);replace HB:Below w.heap.size w _:=aB (by repeat (first|exact HB|refine J8 ?_ (by dsimp only;omega) _|refine Jk ?_ (by have:=HB.size;(try simp) <;> omega) _|apply Jv)) hb))
   go_ret
   refine⟨al ?_,HB⟩
   rw[aM,H.out]
   simp[hv]
theorem cG.far {w:EQ} {b:Nat} {s:EP} {k l:Int} (h:cG w b s k l) {p:Addr} (hp:p.block≠b) (v:ER):cG (w.setCell p v) b s k l:=
 ⟨(World.cell?_setCell_far w p _ v hp).trans h.1,(World.cell?_setCell_far w p _ v hp).trans h.2.1,(World.cell?_setCell_far w p _ v hp).trans h.2.2⟩
theorem eJ.far {w:EQ} {b:Nat} {k x:Int} {t:EP} (h:eJ w b k x t) {p:Addr} (hp:p.block≠b) (v:ER):eJ (w.setCell p v) b k x t:=
 ⟨(World.cell?_setCell_far w p _ v hp).trans h.1,(World.cell?_setCell_far w p _ v hp).trans h.2.1,(World.cell?_setCell_far w p _ v hp).trans h.2.2⟩
theorem eJ.text {w:EQ} {b:Nat} {k x:Int} {t:EP} (h:eJ w b k x t) (t':EP):eJ (w.setCell ⟨b,2,none⟩ (.string t')) b k x t':=
 ⟨(World.cell?_setCell_other w _ _ _ (by simp)).trans h.1,(World.cell?_setCell_other w _ _ _ (by simp)).trans h.2.1,World.cell?_setCell_same w _ _ h.2.2⟩
theorem vm (s:EP) (k l:Int) (h:bW k l=false) (w:EQ):
 Calls Tryz.prog 117 #[.agg #[.string s,.int .i64 k,.int .i64 l]] w fun e w'=>e=.returned (.agg #[.int .i64 0,.int .u64 0,.string ⟨#[]⟩])/\Below w.heap.size w w':=by
 have HB:=Jy w.heap.size w
 have H:=J0 h
 clear h
 go_enter Tryz.func117,Tryz.ntmps117
 go_wp2_with (first|(go_at_call 113;refine(dS _ _ _ _ H.out _).mono ?_;rintro e w1 ⟨rfl,hb⟩;obtain⟨hc,hf⟩:=aS hb;obtain⟨z0,z1⟩:=xA w hb (by (try simp) <;> omega);replace HB:Below w.heap.size w _:=aB (by repeat (first|exact HB|refine J8 ?_ (by dsimp only;omega) _|refine Jk ?_ (by have:=HB.size;(try simp) <;> omega) _|apply Jv)) hb))
 refine Xx (v:=.agg #[.int .i64 0,.int .u64 0,.string ⟨#[]⟩]) (by simp[results,Tryz.results117,go_sem, *]) rfl ⟨rfl,?_⟩
 (repeat (first|exact HB|refine J8 ?_ (by dsimp only;omega) _|refine Jk ?_ (by have:=HB.size;(try simp) <;> omega) _|apply Jv))
theorem oK (s:EP) (k:Int) (n:Nat) (h:bW k n=true) (hn:n<=64) (w:EQ):
 Calls Tryz.prog 117 #[.agg #[.string s,.int .i64 k,.int .i64 n]] w fun e w'=>e=.returned (.agg #[.int .i64 k,.int .u64 0,.string (aR (List.replicate n 0))])/\Below w.heap.size w w':=by
 have HB:=Jy w.heap.size w
 have H:=J0 h
 clear h
 go_enter Tryz.func117,Tryz.ntmps117
 go_wp2_with (first|(go_at_call 113;refine(dS _ _ _ _ H.out _).mono ?_;rintro e w1 ⟨rfl,hb⟩;obtain⟨hc,hf⟩:=aS hb;obtain⟨z0,z1⟩:=xA w hb (by (try simp) <;> omega);replace HB:Below w.heap.size w _:=aB (by repeat (first|exact HB|refine J8 ?_ (by dsimp only;omega) _|refine Jk ?_ (by have:=HB.size;(try simp) <;> omega) _|apply Jv)) hb))
 obtain⟨q,hq⟩:∃q,w1.heap.size=q:=⟨_,rfl⟩
 obtain⟨W,hW⟩:∃W:EQ,w1.alloc (.cells #[.int .i64 k,.int .u64 0,.string ⟨#[]⟩] 71)=W:=⟨_,rfl⟩
 have g1:cG W w.heap.size s k n:=by
  rw[<-hW];refine cG.alloc ?_ _
  exact⟨by rw[hc _ _ (by simp;omega)];simp[go_sem],by rw[hc _ _ (by simp;omega)];simp[go_sem],by rw[hc _ _ (by simp;omega)];simp[go_sem]⟩
 have g2:eJ W (w.heap.size+1) 0 0 ⟨#[]⟩:=by
  rw[<-hW];refine eJ.alloc ?_ _
  exact⟨by rw[hc _ _ (by simp)];simp[go_sem],by rw[hc _ _ (by simp)];simp[go_sem],by rw[hc _ _ (by simp)];simp[go_sem]⟩
 have g3:eJ W q k 0 (aR (List.replicate 0 0)):=by rw[<-hW,<-hq];exact eJ.new _ _ _ _
 have f2:∀o,W.frozen? ⟨w.heap.size+1,o,none⟩=false:=by
  intro o
  rw[<-hW,World.frozen?_alloc_past _ _ _ z1,hf _ _ (by simp)]
  simp[go_sem]
 have f3:∀o,W.frozen? ⟨q,o,none⟩=false:=by intro o;rw[<-hW,<-hq];simp[go_sem]
 have hB:Below w.heap.size w W:=hW▸HB.alloc (by omega) _
 have hs1:q<W.heap.size:=by rw[<-hW];simp;omega
 have hq1:w.heap.size+1<q:=by omega
 rw[hW,hq]
 clear hW hc hf hb HB
 go_loopw [4] (fun i wr=>∃j:Nat,j<=n/\i=.int .i64 j/\cG wr w.heap.size s k n/\eJ wr (w.heap.size+1) 0 0 ⟨#[]⟩/\eJ wr q k 0 (aR (List.replicate j 0))/\(∀o,wr.frozen? ⟨w.heap.size+1,o,none⟩=false)/\(∀o,wr.frozen? ⟨q,o,none⟩=false)/\Below w.heap.size w wr/\q<wr.heap.size) (fun i _=>n - (intOf i).toNat)
 case atStart=>exact⟨0,by omega,rfl,g1,g2,g3,f2,f3,hB,hs1⟩
 case round=>
  clear g1 g2 g3 f2 f3 hB hs1
  obtain⟨j,hj,rfl,⟨c0,c1,c2⟩,⟨r0,r1,r2⟩,⟨d0,d1,d2⟩,f2,f3,HB,hs1⟩:=hrel
  by_cases hlt:j<n
  ·have hz:¬9223372036854775807<(aR (List.replicate j 0)).size+1:=by rw[aj,List.length_replicate];omega
   have hap:aR (List.replicate j 0)++ ⟨#[0]⟩=aR (List.replicate (j+1) 0):=by
    rw[List.replicate_succ',<-bT];rfl
   have HA:=J0 hap
   clear hap
   go_wp2
   go_roundw
   case rel=>
    have n1:q≠w.heap.size:=by omega
    have n2:q≠w.heap.size+1:=by omega
    rw[HA.out]
    refine⟨j+1,by omega,by go_num,cG.far ⟨c0,c1,c2⟩ n1 _,eJ.far ⟨r0,r1,r2⟩ n2 _,eJ.text ⟨d0,d1,d2⟩ _,?_,?_,HB.setCell (by dsimp only;omega) _,by simpa using hs1⟩
    ·intro o;rw[World.frozen?_setCell];exact f2 o
    ·intro o;rw[World.frozen?_setCell];exact f3 o
   case measure=>simp[intOf];omega
  ·obtain rfl:j=n:=by omega
   go_wp2
   refine Xx (v:=.agg #[.int .i64 k,.int .u64 0,.string (aR (List.replicate j 0))]) (by simp[results,Tryz.results117,go_sem, *]) rfl ⟨rfl,?_⟩
   (repeat (first|exact HB|refine J8 ?_ (by dsimp only;omega) _|refine Jk ?_ (by have:=HB.size;(try simp) <;> omega) _|apply Jv))
theorem uE (s:EP) (k l:Int) (w:EQ):
 Calls Tryz.prog 117 #[.agg #[.string s,.int .i64 k,.int .i64 l]] w fun e w'=>e=.returned (qN k l)/\Below w.heap.size w w':=by
 by_cases h:bW k l=true
 ·rw[qN,Xz h]
  by_cases hk:k=12
  ·subst hk
   have:=br.1 (eI▸h)
   obtain⟨n,rfl⟩:∃n:Nat,l=n:=⟨l.toNat,by omega⟩
   rw[ga,Xz rfl]
   exact oK s 12 n h (by omega) w
  ·rw[ga,Xy hk]
   obtain rfl:=(fm h hk).1
   exact oK s k 0 h (by omega) w
 ·rw[qN,Xy h]
  exact vm s k l (by simpa using h) w
def rJ (n:Int) (width:Nat):EN:=if bi n width false=true then dG n width else[]
theorem AP {n:Nat} (h:af n=true):tz n=fA n - 1:=by
 have:=cC h
 rcases(by omega:n=1\/n=2\/n=4\/n=8) with rfl|rfl|rfl|rfl <;> rfl
theorem kK (n:Int) (width:Nat) (hw:width<=8) (h0:0<=n) (h1:n<18446744073709551616) (w:EQ):Calls Tryz.prog 83 #[.int .i64 width,.int .u64 n] w fun e w'=>e=.returned (.string (aR (rJ n width)))/\Below w.heap.size w w':=by
 by_cases h:bi n width false=true
 ·rw[rJ,Xz h]
  simp only[bi,Qz] at h
  exact yM n width hw h.1 h0 h1 (by rw[AP h.1];have:=h.2;simp at this;omega) w
 ·rw[rJ,Xy h]
  refine yL n width hw h0 h1 (fun hb=>?_) w
  rw[AP hb]
  simp[bi,hb] at h;omega
theorem Co (n:Int) (h0:0<=n) (h1:n<18446744073709551616) (w:EQ):Calls Tryz.prog 83 #[.int .i64 8,.int .u64 n] w fun e w'=>e=.returned (.string (aR (dG n 8)))/\Below w.heap.size w w':=by
 have:=kK n 8 (by omega) h0 h1 w
 rwa [rJ,Xz (by simp[bi,af,fA];omega)] at this
theorem aq (vk bits:Int) (tx s:EP) (k l:Int) (h0:0<=bits) (h1:bits<18446744073709551616) (r:Bool) (h:aM vk bits tx k l=r) (w:EQ):
 Calls Tryz.prog 115 #[.agg #[.int .i64 vk,.int .u64 bits,.string tx],.agg #[.string s,.int .i64 k,.int .i64 l]] w fun e w'=>e=.returned (.bool r)/\Below w.heap.size w w':=h▸pQ vk bits tx s k l h0 h1 w
def tH (vk bits:Int) (tx:EP) (k l:Int):EP:=if aM vk bits tx k l=true then aR (cR bits tx k l) else⟨#[]⟩
def tF (vk bits:Int) (tx:EP) (k l:Int):Int:=if aM vk bits tx k l=true then 0 else 50
theorem zj (n:Int) {j k:Nat} (h:j<=k):(dG n k).take j=dG n j:=by
 apply Xk
 intro i
 simp only[dG,X7,Kv]
 by_cases hi:i<j
 ·simp[hi,show i<k by omega]
 ·simp[hi,Xv (show(List.range j).length<=i by simp;omega)]
theorem kr (l:EN) (n:Nat):(aR l).extract 0 n=aR (l.take n):=by
 apply ByteArray.ext;simp[aR]
theorem pM (vk bits:Int) (tx s:EP) (k l:Int) (h0:0<=bits) (h1:bits<18446744073709551616) (w:EQ):
 Calls Tryz.prog 85 #[.agg #[.int .i64 vk,.int .u64 bits,.string tx],.agg #[.string s,.int .i64 k,.int .i64 l]] w fun e w'=>e=.returned (.tuple #[.string (tH vk bits tx k l),.int .i64 (tF vk bits tx k l)])/\Below w.heap.size w w':=by
 have HB:=Jy w.heap.size w
 by_cases hr:aM vk bits tx k l=true
 ·rw[tH,tF,Xz hr,Xz hr]
  have hm:=(bg hr).1
  have H:=J0 hr
  clear hr
  by_cases hk:k=12
  ·subst hk
   rw[cR,Xz rfl,cl]
   clear hm
   go_enter Tryz.func85,Tryz.ntmps85
   go_wp2_with (first|(go_at_call 115;refine(aq _ _ _ _ _ _ h0 h1 _ H.out _).mono ?_;rintro e w1 ⟨rfl,hb⟩;obtain⟨hc,hf⟩:=aS hb;obtain⟨z0,z1⟩:=xA w hb (by (try simp) <;> omega);replace HB:Below w.heap.size w _:=aB (by repeat (first|exact HB|refine J8 ?_ (by dsimp only;omega) _|refine Jk ?_ (by have:=HB.size;(try simp) <;> omega) _|apply Jv)) hb))
   go_ret2
   exact⟨rfl,HB⟩
  ·have hlc:=cH hm hk
   have hk':(k == 12)=false:=by simpa using hk
   obtain⟨n,hn⟩:∃n:Nat,aT k l=n:=⟨(aT k l).toNat,by omega⟩
   have hn8:n<=8:=by omega
   rw[cR,Xy hk,hn]
   have HN:=J0 hn
   clear hn hlc hm
   go_enter Tryz.func85,Tryz.ntmps85
   go_wp2_with (first|(go_at_call 115;refine(aq _ _ _ _ _ _ h0 h1 _ H.out _).mono ?_;rintro e w1 ⟨rfl,hb⟩;obtain⟨hc,hf⟩:=aS hb;obtain⟨z0,z1⟩:=xA w hb (by (try simp) <;> omega);replace HB:Below w.heap.size w _:=aB (by repeat (first|exact HB|refine J8 ?_ (by dsimp only;omega) _|refine Jk ?_ (by have:=HB.size;(try simp) <;> omega) _|apply Jv)) hb))
   have g1:cG w1 (w.heap.size+1) s k l:=⟨by rw[hc _ _ (by simp)];simp[go_sem],by rw[hc _ _ (by simp)];simp[go_sem],by rw[hc _ _ (by simp)];simp[go_sem]⟩
   have g2:eJ w1 w.heap.size vk bits tx:=⟨by rw[hc _ _ (by simp;omega)];simp[go_sem],by rw[hc _ _ (by simp;omega)];simp[go_sem],by rw[hc _ _ (by simp;omega)];simp[go_sem]⟩
   have hsz:(aR (dG bits 8)).size=8:=by rw[aj,aX]
   have hn8':(n:Int)<=8:=by omega
   refine RW.start (fun w'=>Below w.heap.size w w'/\cG w' (w.heap.size+1) s k l/\eJ w' w.heap.size vk bits tx) (by kernel_rfl) (by kernel_rfl) ⟨HB.drew,g1,g2⟩ ?_
   clear g1 g2 hc hf hb HB z0 z1
   repeat (first
    |(refine' RW.val (by rfl) ?_ ?_;rotate_left;(focus (intro w' hS;obtain⟨HB,⟨c0,c1,c2⟩,⟨d0,d1,d2⟩⟩:=hS;go_simp;rfl));simp only[Act.put,J1,J3,J2])
    |(refine RW.off (by rfl) ?_;simp only[Act.put,J1,J3,J2])
    |(refine' RW.call (by rfl) ?_ ?_ ?_
      rotate_left 3
      (focus (intro w' hS;obtain⟨HB,⟨c0,c1,c2⟩,⟨d0,d1,d2⟩⟩:=hS;go_simp;exact⟨rfl,rfl⟩))
      (focus
        intro w' hS
        obtain⟨HB,⟨c0,c1,c2⟩,⟨d0,d1,d2⟩⟩:=hS
        first
         |(refine(uB _ _ _ _ HN.out _).mono ?_;rintro e w1 ⟨rfl,hb⟩;exact⟨rfl,⟨(aB HB hb),⟨(aE (B:=0) hb c0),(aE (B:=0) hb c1),(aE (B:=0) hb c2)⟩,⟨(aE (B:=0) hb d0),(aE (B:=0) hb d1),(aE (B:=0) hb d2)⟩⟩⟩)
         |(refine(Co _ h0 h1 _).mono ?_;rintro e w1 ⟨rfl,hb⟩;exact⟨rfl,⟨(aB HB hb),⟨(aE (B:=0) hb c0),(aE (B:=0) hb c1),(aE (B:=0) hb c2)⟩,⟨(aE (B:=0) hb d0),(aE (B:=0) hb d1),(aE (B:=0) hb d2)⟩⟩⟩))
      simp only[Act.put,J1,J3,J2]))
   refine RW.done (fun w' hS=>?_)
   obtain⟨HB,⟨c0,c1,c2⟩,⟨d0,d1,d2⟩⟩:=hS
   go_wp2
   go_ret2
   exact⟨by simp[kr,zj _ hn8],HB⟩
 ·have hr':aM vk bits tx k l=false:=by simpa using hr
  rw[tH,tF,Xy hr,Xy hr]
  have H:=J0 hr'
  clear hr hr'
  go_enter Tryz.func85,Tryz.ntmps85
  go_wp2_with (first|(go_at_call 115;refine(aq _ _ _ _ _ _ h0 h1 _ H.out _).mono ?_;rintro e w1 ⟨rfl,hb⟩;obtain⟨hc,hf⟩:=aS hb;obtain⟨z0,z1⟩:=xA w hb (by (try simp) <;> omega);replace HB:Below w.heap.size w _:=aB (by repeat (first|exact HB|refine J8 ?_ (by dsimp only;omega) _|refine Jk ?_ (by have:=HB.size;(try simp) <;> omega) _|apply Jv)) hb))
  go_ret2
  exact⟨rfl,HB⟩
theorem jP (n i:Nat):dx (n:Int) i=((n / 2 ^ (8 * i) % 256:Nat):Int):=by
 unfold dx
 rw[Int.natCast_emod,Int.natCast_ediv,Int.natCast_pow]
 rfl
theorem qg (a b:EN) (i:Nat) (hi:i<a.length):dx (eV (a++b)) i=dx (eV a) i:=by
 unfold eV
 rw[jP,jP,gX]
 obtain⟨d,hd⟩:∃d,8 * a.length=8 * i+(8+d):=⟨8 * (a.length - i - 1),by omega⟩
 rw[hd,Nat.pow_add,Nat.mul_assoc,Nat.add_mul_div_left _ _ (Nat.two_pow_pos _),Nat.pow_add,Nat.mul_assoc,show(2:Nat) ^ 8=256 from rfl,Nat.add_mul_mod_self_left]
theorem um (a:EN) (x:UInt8):dx (eV (a++[x])) a.length=x.toNat:=by
 unfold eV
 rw[jP,gX]
 have h1:=jV a
 have h2:=x.toNat_lt
 rw[Nat.add_mul_div_left _ _ (Nat.two_pow_pos _),Nat.div_eq_of_lt h1]
 simp only[fJ]
 omega
theorem wc (l:EN):dG (eV l) l.length=l:=by
 apply List.ext_getElem (aX _ _)
 intro i h1 h2
 have hl:l=(l.take i++[l[i]])++l.drop (i+1):=by simp
 have hti:(l.take i).length=i:=by simp;omega
 simp only[dG,List.getElem_map,List.getElem_range]
 have e:dx (eV l) i=l[i].toNat:=by
  conv=>lhs;rw[hl]
  rw[qg _ _ _ (by simp;omega)]
  have:=um (l.take i) l[i]
  rwa [hti] at this
 rw[e];simp
theorem un (n:Int) (w i:Nat) (hw:af w=true) (hi:i<w) (h0:0<=n) (h1:n<18446744073709551616):dx (cP n w) i=dx n i:=by
 have hc:=cC hw
 rcases(by omega:w=1\/w=2\/w=4\/w=8) with rfl|rfl|rfl|rfl
 ·obtain rfl:i=0:=by omega
  rw[show ((1:Nat):Int)=1 from rfl,dw n h0 h1]
  simp[dx];split <;> omega
 ·rw[show ((2:Nat):Int)=2 from rfl,ci n h0 h1]
  rcases(by omega:i=0\/i=1) with rfl|rfl <;> simp[dx] <;> split <;> omega
 ·rw[show ((4:Nat):Int)=4 from rfl,cj n h0 h1]
  rcases(by omega:i=0\/i=1\/i=2\/i=3) with rfl|rfl|rfl|rfl <;> simp[dx] <;> split <;> omega
 ·rw[show ((8:Nat):Int)=8 from rfl,jZ n h0 h1]
theorem zi (n:Int) (w:Nat) (hw:af w=true) (h0:0<=n) (h1:n<18446744073709551616):dG (cP n w) w=dG n w:=by
 apply List.ext_getElem (by simp[aX])
 intro i h2 h3
 simp only[dG,List.getElem_map,List.getElem_range]
 rw[un n w i hw (by simpa[aX] using h2) h0 h1]
def dJ (l:EN) (k:Int):Int:=if k=12 then 0 else if eK 5 k 8=true then cP (fe l) l.length else fe l
theorem Az (l:EN) (k:Int):0<=dJ l k/\dJ l k<18446744073709551616:=by
 have:=mc l
 unfold dJ
 split
 ·omega
 ·split
  ·exact uL _ _ this.1 this.2
  ·exact this
theorem Cr (l:EN) (k long:Int):(aM k (dJ l k) (eZ l k) k long=true/\cR (dJ l k) (eZ l k) k long=l)↔fZ l k long=true:=by
 unfold fZ
 simp only[Qz,Y8]
 by_cases hk:k=12
 ·subst hk
  have e1:dJ l 12=0:=by simp[dJ]
  have e2:gA l 12 long=0:=by simp[gA,jL,eK]
  have e3:eZ l 12=aR l:=by simp[eZ]
  rw[e1,e2,e3]
  constructor
  ·rintro ⟨h,_⟩
   have hm:=bg h
   refine⟨?_,h⟩
   rw[iQ hm.1]
   have:=hm.2.2.1
   rw[Xz rfl,aj] at this
   exact this
  ·rintro ⟨_,h⟩
   exact⟨h,by rw[cR,Xz rfl,fi]⟩
 ·have e3:eZ l k=⟨#[]⟩:=by simp[eZ,hk]
  rw[e3]
  by_cases hl:(l.length:Int)=aT k long
  ·have e2:gA l k long=dJ l k:=by
    rw[gA,dJ,Xy hk]
    have:jL l k long=fe l:=by rw[jL,Xy hk,fe];simp[hl]
    rw[this]
   rw[e2]
   constructor
   ·rintro ⟨h,_⟩;exact⟨hl,h⟩
   ·rintro ⟨_,h⟩
    refine⟨h,?_⟩
    have hm:=(bg h).1
    have hlc:=cH hm hk
    have hwb:af l.length=true:=by rw[hl];simp[af];omega
    have hg:=mc l
    have hgz:fe l=eV l:=by rw[fe,Xz hwb]
    rw[cR,Xy hk,<-hl,dJ,Xy hk]
    simp only[Int.toNat_natCast]
    split
    ·rw[zi _ _ hwb hg.1 hg.2,hgz,wc]
    ·rw[hgz,wc]
  ·constructor
   ·rintro ⟨h,he⟩
    exfalso
    apply hl
    have hm:=(bg h).1
    have hlc:=cH hm hk
    rw[cR,Xy hk] at he
    have:=congrArg List.length he
    rw[aX] at this
    omega
   ·rintro ⟨h,_⟩;exact absurd h hl
theorem AA {l:EN} {k long:Int} (h:fZ l k long=true):gA l k long=dJ l k:=by
 by_cases hk:k=12
 ·subst hk;simp[dJ,gA,jL,eK]
 ·unfold fZ at h
  simp only[Qz,Y8] at h
  rw[gA,dJ,Xy hk]
  have:jL l k long=fe l:=by rw[jL,Xy hk,fe];simp[h.1]
  rw[this]
theorem cq (vk bits:Int) (tx s:EP) (k l:Int) (h0:0<=bits) (h1:bits<18446744073709551616) (r:EP) (q:Int) (hr:tH vk bits tx k l=r) (hq:tF vk bits tx k l=q) (w:EQ):
 Calls Tryz.prog 85 #[.agg #[.int .i64 vk,.int .u64 bits,.string tx],.agg #[.string s,.int .i64 k,.int .i64 l]] w fun e w'=>e=.returned (.tuple #[.string r,.int .i64 q])/\Below w.heap.size w w':=by
 subst hr hq;exact pM vk bits tx s k l h0 h1 w
theorem hU (n width:Int) (h0:0<=n) (h1:n<18446744073709551616) (r:Int) (h:cP n width=r) (w:EQ):Calls Tryz.prog 130 #[.int .u64 n,.int .i64 width] w fun e w'=>e=.returned (.int .u64 r)/\w=w':=h▸mL n width h0 h1 w
theorem jX (s:EP) (hs:s.size<=9223372036854775807) (r:Int) (h:fe (bl s)=r) (w:EQ):
 Calls Tryz.prog 90 #[.string s,.int .i64 0,.int .i64 (s.size:Int)] w fun e w'=>e=.returned (.tuple #[.int .u64 r,.bool (af s.size)])/\w=w':=by
 subst h
 by_cases hb:af s.size=true
 ·have:=qJ s 0 s.size w (ja hb) hb (by omega) hs
  rw[fe,aZ,Xz hb,hb]
  simpa[Vx (show(bl s).length<=s.size by rw[aZ];exact J9 _)] using this
 ·rw[Bool.not_eq_true] at hb
  rw[fe,aZ,hb,Xy (by simp)]
  exact qI s 0 s.size w hs (.inl hb)
theorem pL (s n:EP) (k long:Int) (hs:s.size<=9223372036854775807) (w:EQ):
 Calls Tryz.prog 93 #[.string s,.agg #[.string n,.int .i64 k,.int .i64 long]] w fun e w'=>e=.returned (.tuple #[jy (bl s) k long,.int .i64 (dq (bl s) k long)])/\Below w.heap.size w w':=by
 have hok:=Cr (bl s) k long
 have hval:=@AA (bl s) k long
 obtain⟨d0,d1⟩:=Az (bl s) k
 obtain⟨g0,g1⟩:=mc (bl s)
 have hss:=bC
 have HB:Below w.heap.size w ((w.alloc (.cells #[.string n,.int .i64 k,.int .i64 long] 68)).alloc (.cells #[.int .i64 0,.int .u64 0,.string ⟨#[]⟩] 71)):=(aA _).alloc (by simp) _
 obtain⟨es,hes⟩:∃r,tH k (dJ (bl s) k) (eZ (bl s) k) k long=r:=⟨_,rfl⟩
 obtain⟨ee,hee⟩:∃r,tF k (dJ (bl s) k) (eZ (bl s) k) k long=r:=⟨_,rfl⟩
 obtain⟨ok,hdec⟩:∃r,fZ (bl s) k long=r:=⟨_,rfl⟩
 have htest:(ee=0/\es.toList=s.toList)↔ok=true:=by
  rw[<-hdec,<-hok,<-hes,<-hee,tH,tF]
  by_cases hr:aM k (dJ (bl s) k) (eZ (bl s) k) k long=true
  ·rw[Xz hr,Xz hr]
   simp only[hr,true_and,ByteArray.toList_eq]
   rw[show (aR (cR (dJ (bl s) k) (eZ (bl s) k) k long)).data.toList=cR (dJ (bl s) k) (eZ (bl s) k) k long by simp[aR]]
   rfl
  ·rw[Xy hr,Xy hr];simp[hr]
 have hee2:ee=0\/ee=50:=by rw[<-hee,tF];split <;> simp
 have HF:=J0 hee
 have HE:=J0 hes
 have hout:(ok=true/\ee=0/\(!es.toList == s.toList)=false)\/(ok=false/\ee=50)\/(ok=false/\ee=0/\(!es.toList == s.toList)=true):=by
  cases ok
  ·rcases hee2 with h|h
   ·refine .inr (.inr ⟨rfl,h,?_⟩)
    have:¬es.toList=s.toList:=fun hh=>by have:=htest.1 ⟨h,hh⟩;cases this
    simpa using this
   ·exact .inr (.inl ⟨rfl,h⟩)
  ·have:=htest.2 rfl
   exact .inl ⟨rfl,this.1,by simpa using this.2⟩
 have hkt:(k=12/\eZ (bl s) k=s/\dJ (bl s) k=0)\/((k == 12)=false/\eZ (bl s) k=⟨#[]⟩/\((eK 5 k 8=true/\cP (fe (bl s)) s.size=dJ (bl s) k)\/(eK 5 k 8=false/\fe (bl s)=dJ (bl s) k))):=by
  by_cases hk:k=12
  ·exact .inl ⟨hk,by rw[eZ,Xz hk,cl],by rw[dJ,Xz hk]⟩
  ·refine .inr ⟨by simpa using hk,by rw[eZ,Xy hk],?_⟩
   cases hb:eK 5 k 8
   ·exact .inr ⟨rfl,by rw[dJ,Xy hk,hb];rfl⟩
   ·exact .inl ⟨rfl,by rw[dJ,Xy hk,hb,aZ];rfl⟩
 have hfin:ok=true->(jy (bl s) k long=.agg #[.int .i64 k,.int .u64 (dJ (bl s) k),.string (eZ (bl s) k)]/\dq (bl s) k long=0):=by
  intro h
  have:=kT (hdec.trans h)
  rwa [hval (hdec.trans h)] at this
 have hfin2:ok=false->(jy (bl s) k long=.agg #[.int .i64 0,.int .u64 0,.string ⟨#[]⟩]/\dq (bl s) k long=50):=fun h=>iK (hdec.trans h)
 clear hok hval htest hee2 hdec hes hee
 obtain⟨dz,hdz⟩:∃z,dJ (bl s) k=z:=⟨_,rfl⟩
 obtain⟨dt,hdt⟩:∃z,eZ (bl s) k=z:=⟨_,rfl⟩
 obtain⟨gz,hgz⟩:∃z,fe (bl s)=z:=⟨_,rfl⟩
 obtain⟨dv,hdv⟩:∃z,jy (bl s) k long=z:=⟨_,rfl⟩
 obtain⟨de,hde⟩:∃z,dq (bl s) k long=z:=⟨_,rfl⟩
 rw[hdv,hde] at hfin hfin2
 rw[hdv,hde]
 rw[hdz,hdt] at hkt hfin HE HF
 rw[hdz] at d0 d1
 rw[hgz] at hkt g0 g1
 have HG:=J0 hgz
 clear hdz hdt hgz hdv hde
 have hb12:∀(W:EQ),True:=fun _=>trivial
 rcases hkt with ⟨rfl,rfl,rfl⟩|⟨hk,rfl,⟨hb,hz⟩|⟨hb,hz⟩⟩
 ·rcases hout with ⟨ho,rfl,ht⟩|⟨ho,rfl⟩|⟨ho,rfl,ht⟩
  ·obtain⟨rfl,rfl⟩:=hfin ho
   clear hfin hfin2 hb12
   go_enter Tryz.func93,Tryz.ntmps93
   go_wp2_with (first
    |(go_at_call 85;refine(cq _ _ _ _ _ _ d0 d1 _ _ HE.out HF.out _).mono ?_;rintro e w1 ⟨rfl,hb⟩;obtain⟨hc,hf⟩:=aS hb;obtain⟨z0,z1,z2⟩:=lV w hb (by (try simp) <;> omega);replace HB:Below w.heap.size w _:=aB (by repeat (first|exact HB|refine J8 ?_ (by dsimp only;omega) _|refine Jk ?_ (by have:=HB.size;(try simp) <;> omega) _|apply Jv)) hb))
   refine Xx (v:=.tuple #[.agg #[.int .i64 12,.int .u64 0,.string dt],.int .i64 0]) (by simp[results,Tryz.results93,go_sem, *];done) rfl ⟨rfl,?_⟩
   (repeat (first|exact HB|refine J8 ?_ (by dsimp only;omega) _|refine Jk ?_ (by have:=HB.size;(try simp) <;> omega) _|apply Jv))
  ·obtain⟨rfl,rfl⟩:=hfin2 ho
   clear hfin hfin2 hb12
   go_enter Tryz.func93,Tryz.ntmps93
   go_wp2_with (first
    |(go_at_call 85;refine(cq _ _ _ _ _ _ d0 d1 _ _ HE.out HF.out _).mono ?_;rintro e w1 ⟨rfl,hb⟩;obtain⟨hc,hf⟩:=aS hb;obtain⟨z0,z1,z2⟩:=lV w hb (by (try simp) <;> omega);replace HB:Below w.heap.size w _:=aB (by repeat (first|exact HB|refine J8 ?_ (by dsimp only;omega) _|refine Jk ?_ (by have:=HB.size;(try simp) <;> omega) _|apply Jv)) hb))
   refine Xx (v:=.tuple #[.agg #[.int .i64 0,.int .u64 0,.string (⟨#[]⟩:EP)],.int .i64 50]) (by simp[results,Tryz.results93,go_sem, *];done) rfl ⟨rfl,?_⟩
   (repeat (first|exact HB|refine J8 ?_ (by dsimp only;omega) _|refine Jk ?_ (by have:=HB.size;(try simp) <;> omega) _|apply Jv))
  ·obtain⟨rfl,rfl⟩:=hfin2 ho
   clear hfin hfin2 hb12
   go_enter Tryz.func93,Tryz.ntmps93
   go_wp2_with (first
    |(go_at_call 85;refine(cq _ _ _ _ _ _ d0 d1 _ _ HE.out HF.out _).mono ?_;rintro e w1 ⟨rfl,hb⟩;obtain⟨hc,hf⟩:=aS hb;obtain⟨z0,z1,z2⟩:=lV w hb (by (try simp) <;> omega);replace HB:Below w.heap.size w _:=aB (by repeat (first|exact HB|refine J8 ?_ (by dsimp only;omega) _|refine Jk ?_ (by have:=HB.size;(try simp) <;> omega) _|apply Jv)) hb))
   refine Xx (v:=.tuple #[.agg #[.int .i64 0,.int .u64 0,.string (⟨#[]⟩:EP)],.int .i64 50]) (by simp[results,Tryz.results93,go_sem, *];done) rfl ⟨rfl,?_⟩
   (repeat (first|exact HB|refine J8 ?_ (by dsimp only;omega) _|refine Jk ?_ (by have:=HB.size;(try simp) <;> omega) _|apply Jv))
 ·have HZ:=J0 hz
  have hkk:(4<k/\k<9):=by have:=br.1 hb;omega
  obtain⟨k4,k9⟩:=hkk
  clear hz hb
  rcases hout with ⟨ho,rfl,ht⟩|⟨ho,rfl⟩|⟨ho,rfl,ht⟩
  ·obtain⟨rfl,rfl⟩:=hfin ho
   clear hfin hfin2 hb12
   go_enter Tryz.func93,Tryz.ntmps93
   go_wp2_with (first
    |(go_at_call 90;refine(jX _ hs _ HG.out _).mono ?_;rintro e w' ⟨rfl,rfl⟩)
    |(go_at_call 130;refine(hU _ _ g0 g1 _ HZ.out _).mono ?_;rintro e w' ⟨rfl,rfl⟩)
    |(go_at_call 85;refine(cq _ _ _ _ _ _ d0 d1 _ _ HE.out HF.out _).mono ?_;rintro e w1 ⟨rfl,hb⟩;obtain⟨hc,hf⟩:=aS hb;obtain⟨z0,z1,z2⟩:=lV w hb (by (try simp) <;> omega);replace HB:Below w.heap.size w _:=aB (by repeat (first|exact HB|refine J8 ?_ (by dsimp only;omega) _|refine Jk ?_ (by have:=HB.size;(try simp) <;> omega) _|apply Jv)) hb))
   refine Xx (v:=.tuple #[.agg #[.int .i64 k,.int .u64 dz,.string (⟨#[]⟩:EP)],.int .i64 0]) (by simp[results,Tryz.results93,go_sem, *];done) rfl ⟨rfl,?_⟩
   (repeat (first|exact HB|refine J8 ?_ (by dsimp only;omega) _|refine Jk ?_ (by have:=HB.size;(try simp) <;> omega) _|apply Jv))
  ·obtain⟨rfl,rfl⟩:=hfin2 ho
   clear hfin hfin2 hb12
   go_enter Tryz.func93,Tryz.ntmps93
   go_wp2_with (first
    |(go_at_call 90;refine(jX _ hs _ HG.out _).mono ?_;rintro e w' ⟨rfl,rfl⟩)
    |(go_at_call 130;refine(hU _ _ g0 g1 _ HZ.out _).mono ?_;rintro e w' ⟨rfl,rfl⟩)
    |(go_at_call 85;refine(cq _ _ _ _ _ _ d0 d1 _ _ HE.out HF.out _).mono ?_;rintro e w1 ⟨rfl,hb⟩;obtain⟨hc,hf⟩:=aS hb;obtain⟨z0,z1,z2⟩:=lV w hb (by (try simp) <;> omega);replace HB:Below w.heap.size w _:=aB (by repeat (first|exact HB|refine J8 ?_ (by dsimp only;omega) _|refine Jk ?_ (by have:=HB.size;(try simp) <;> omega) _|apply Jv)) hb))
   refine Xx (v:=.tuple #[.agg #[.int .i64 0,.int .u64 0,.string (⟨#[]⟩:EP)],.int .i64 50]) (by simp[results,Tryz.results93,go_sem, *];done) rfl ⟨rfl,?_⟩
   (repeat (first|exact HB|refine J8 ?_ (by dsimp only;omega) _|refine Jk ?_ (by have:=HB.size;(try simp) <;> omega) _|apply Jv))
  ·obtain⟨rfl,rfl⟩:=hfin2 ho
   clear hfin hfin2 hb12
   go_enter Tryz.func93,Tryz.ntmps93
   go_wp2_with (first
    |(go_at_call 90;refine(jX _ hs _ HG.out _).mono ?_;rintro e w' ⟨rfl,rfl⟩)
    |(go_at_call 130;refine(hU _ _ g0 g1 _ HZ.out _).mono ?_;rintro e w' ⟨rfl,rfl⟩)
    |(go_at_call 85;refine(cq _ _ _ _ _ _ d0 d1 _ _ HE.out HF.out _).mono ?_;rintro e w1 ⟨rfl,hb⟩;obtain⟨hc,hf⟩:=aS hb;obtain⟨z0,z1,z2⟩:=lV w hb (by (try simp) <;> omega);replace HB:Below w.heap.size w _:=aB (by repeat (first|exact HB|refine J8 ?_ (by dsimp only;omega) _|refine Jk ?_ (by have:=HB.size;(try simp) <;> omega) _|apply Jv)) hb))
   refine Xx (v:=.tuple #[.agg #[.int .i64 0,.int .u64 0,.string (⟨#[]⟩:EP)],.int .i64 50]) (by simp[results,Tryz.results93,go_sem, *];done) rfl ⟨rfl,?_⟩
   (repeat (first|exact HB|refine J8 ?_ (by dsimp only;omega) _|refine Jk ?_ (by have:=HB.size;(try simp) <;> omega) _|apply Jv))
 ·subst hz
  have HZ:Hid (cP gz s.size=cP gz s.size):=J0 rfl
  have hkk:k<=4\/(4<k/\9<=k):=by have:=qa.1 hb;omega
  clear hb
  rcases hkk with k4|⟨k4,k9⟩
  all_goals
   rcases hout with ⟨ho,rfl,ht⟩|⟨ho,rfl⟩|⟨ho,rfl,ht⟩
   ·obtain⟨rfl,rfl⟩:=hfin ho
    clear hfin hfin2 hb12
    go_enter Tryz.func93,Tryz.ntmps93
    go_wp2_with (first
     |(go_at_call 90;refine(jX _ hs _ HG.out _).mono ?_;rintro e w' ⟨rfl,rfl⟩)
     |(go_at_call 130;refine(hU _ _ g0 g1 _ HZ.out _).mono ?_;rintro e w' ⟨rfl,rfl⟩)
     |(go_at_call 85;refine(cq _ _ _ _ _ _ d0 d1 _ _ HE.out HF.out _).mono ?_;rintro e w1 ⟨rfl,hb⟩;obtain⟨hc,hf⟩:=aS hb;obtain⟨z0,z1,z2⟩:=lV w hb (by (try simp) <;> omega);replace HB:Below w.heap.size w _:=aB (by repeat (first|exact HB|refine J8 ?_ (by dsimp only;omega) _|refine Jk ?_ (by have:=HB.size;(try simp) <;> omega) _|apply Jv)) hb))
    refine Xx (v:=.tuple #[.agg #[.int .i64 k,.int .u64 gz,.string (⟨#[]⟩:EP)],.int .i64 0]) (by simp[results,Tryz.results93,go_sem, *];done) rfl ⟨rfl,?_⟩
    (repeat (first|exact HB|refine J8 ?_ (by dsimp only;omega) _|refine Jk ?_ (by have:=HB.size;(try simp) <;> omega) _|apply Jv))
   ·obtain⟨rfl,rfl⟩:=hfin2 ho
    clear hfin hfin2 hb12
    go_enter Tryz.func93,Tryz.ntmps93
    go_wp2_with (first
     |(go_at_call 90;refine(jX _ hs _ HG.out _).mono ?_;rintro e w' ⟨rfl,rfl⟩)
     |(go_at_call 130;refine(hU _ _ g0 g1 _ HZ.out _).mono ?_;rintro e w' ⟨rfl,rfl⟩)
     |(go_at_call 85;refine(cq _ _ _ _ _ _ d0 d1 _ _ HE.out HF.out _).mono ?_;rintro e w1 ⟨rfl,hb⟩;obtain⟨hc,hf⟩:=aS hb;obtain⟨z0,z1,z2⟩:=lV w hb (by (try simp) <;> omega);replace HB:Below w.heap.size w _:=aB (by repeat (first|exact HB|refine J8 ?_ (by dsimp only;omega) _|refine Jk ?_ (by have:=HB.size;(try simp) <;> omega) _|apply Jv)) hb))
    refine Xx (v:=.tuple #[.agg #[.int .i64 0,.int .u64 0,.string (⟨#[]⟩:EP)],.int .i64 50]) (by simp[results,Tryz.results93,go_sem, *];done) rfl ⟨rfl,?_⟩
    (repeat (first|exact HB|refine J8 ?_ (by dsimp only;omega) _|refine Jk ?_ (by have:=HB.size;(try simp) <;> omega) _|apply Jv))
   ·obtain⟨rfl,rfl⟩:=hfin2 ho
    clear hfin hfin2 hb12
    go_enter Tryz.func93,Tryz.ntmps93
    go_wp2_with (first
     |(go_at_call 90;refine(jX _ hs _ HG.out _).mono ?_;rintro e w' ⟨rfl,rfl⟩)
     |(go_at_call 130;refine(hU _ _ g0 g1 _ HZ.out _).mono ?_;rintro e w' ⟨rfl,rfl⟩)
     |(go_at_call 85;refine(cq _ _ _ _ _ _ d0 d1 _ _ HE.out HF.out _).mono ?_;rintro e w1 ⟨rfl,hb⟩;obtain⟨hc,hf⟩:=aS hb;obtain⟨z0,z1,z2⟩:=lV w hb (by (try simp) <;> omega);replace HB:Below w.heap.size w _:=aB (by repeat (first|exact HB|refine J8 ?_ (by dsimp only;omega) _|refine Jk ?_ (by have:=HB.size;(try simp) <;> omega) _|apply Jv)) hb))
    refine Xx (v:=.tuple #[.agg #[.int .i64 0,.int .u64 0,.string (⟨#[]⟩:EP)],.int .i64 50]) (by simp[results,Tryz.results93,go_sem, *];done) rfl ⟨rfl,?_⟩
    (repeat (first|exact HB|refine J8 ?_ (by dsimp only;omega) _|refine Jk ?_ (by have:=HB.size;(try simp) <;> omega) _|apply Jv))
theorem fu (k l:Int):aT k l=0↔bW k l=false:=by
 cases hm:bW k l
 ·simp[aT,hm]
 ·simp only[Bool.true_eq_false,iff_false]
  by_cases hk:k=12
  ·subst hk
   have:=br.1 (eI▸hm)
   rw[iQ hm];omega
  ·have:=cH hm hk;omega
theorem qu (k l:Int):0<=aT k l/\aT k l<=64:=by
 cases hm:bW k l
 ·have:=(fu k l).2 hm;omega
 ·by_cases hk:k=12
  ·subst hk
   have:=br.1 (eI▸hm)
   rw[iQ hm];omega
  ·have:=cH hm hk;omega
def vJ (fs:List Fd) (i:Nat) (f:Fd):Bool:=bI f.s && bW f.k f.l && decide (aW fs f.s=i)
def aK (fs:List Fd):Bool:=decide (∀i,∀h:i<fs.length,vJ fs i (fs[i]'h)=true) && decide (fs.length<=16)
theorem fM {fs:List Fd} {i:Nat} {f:Fd} (hi:fs[i]?=some f) (h:vJ fs i f=false):aK fs=false:=by
 rw[aK,Y9,Bool.false_and]
 intro ha
 obtain⟨hi1,hi2⟩:=J6.1 hi
 have:=ha i hi1
 rw[hi2,h] at this;cases this
theorem oP {fs:List Fd} (h:∀i f,i<fs.length->fs[i]?=some f->vJ fs i f=true):aK fs=decide (fs.length<=16):=by
 rw[aK,Yx (fun i hi=>h i _ hi (J4 hi)),Bool.true_and]
theorem zR (fs:List Fd) (nm:EP) (k:Nat) (f:Fd) (hk:fs[k]?=some f) (h:f.s=nm):0<=aW fs nm/\aW fs nm<=k:=by
 induction fs generalizing k with
 |nil=>simp at hk
 |cons g r ih=>
  rw[aW]
  split
  ·omega
  ·cases k with
   |zero=>simp at hk;subst hk;contradiction
   |succ k=>
    have:=ih k (by simpa using hk)
    split <;> omega
theorem eH (s:EP) (r:Bool) (h:bI s=r) (w:EQ):Calls Tryz.prog 50 #[.string s] w fun e w'=>e=.returned (.bool r)/\Below w.heap.size w w':=h▸ug s w
theorem fW (s:EP) (hs:s.size<=9223372036854775807) (r:Bool) (h:bI s=r) (w:EQ):Calls Tryz.prog 57 #[.string s] w fun e w'=>e=.returned (.bool r)/\Below w.heap.size w w':=h▸eS s hs w
theorem kO (A:EL) (c:Nat) (fs:List Fd) (nm:EP) (r:Int) (h:aW fs nm=r) (w:EQ) (hA:Rd w A (aC fs)) (hl:fs.length<=9223372036854775807):
 Calls Tryz.prog 96 #[.slice A fs.length c,.string nm] w fun e w'=>e=.returned (.int .i64 r)/\Below w.heap.size w w':=h▸ue A c fs nm w hA hl
theorem oJ (A:EL) (c:Nat) (fs:List Fd) (nm:EP) (r:Int) (h:aW fs nm=r) (w:EQ) (hA:Rd w A (aC fs)) (hl:fs.length<=9223372036854775807):
 Calls Tryz.prog 114 #[.slice A fs.length c,.string nm] w fun e w'=>e=.returned (.int .i64 r)/\w=w':=h▸tt A c fs nm w hA hl
theorem Rd.fld {w:EQ} {A:EL} {fs:List Fd} (h:Rd w A (aC fs)) {k:Nat} {f:Fd} (hf:fs[k]?=some f):∃ad,A=some ad/\w.cell? (ad.add (k * 3))=some (.string f.s)/\w.cell? ⟨(ad.add (k * 3)).block,(ad.add (k * 3)).off+(0+1),none⟩=some (.int .i64 f.k)/\w.cell? ⟨(ad.add (k * 3)).block,(ad.add (k * 3)).off+(1+1),none⟩=some (.int .i64 f.l):=by
 obtain⟨g0,g1,g2⟩:=dK fs k f hf
 obtain⟨ad,rfl,h0⟩:=h.at g0
 obtain⟨_,e1,h1⟩:=h.at g1
 obtain⟨_,e2,h2⟩:=h.at g2
 cases e1;cases e2
 rw[ba _ _ 0] at h1
 rw[ba _ _ 1] at h2
 exact⟨ad,rfl,h0,h1,h2⟩
theorem py (fs:List Fd) (k:Nat) (f:Fd):vJ fs k f=false/\bI f.s=false\/vJ fs k f=false/\bI f.s=true/\bW f.k f.l=false\/vJ fs k f=false/\bI f.s=true/\bW f.k f.l=true/\¬aW fs f.s=k\/vJ fs k f=true/\bI f.s=true/\bW f.k f.l=true/\aW fs f.s=k:=by
 unfold vJ
 cases bI f.s <;> cases bW f.k f.l <;> by_cases h:aW fs f.s=k <;> simp[h]
theorem qU (A:EL) (c:Nat) (fs:List Fd) (w:EQ) (hA:Rd w A (aC fs)) (hl:fs.length<=9223372036854775807):
 Calls Tryz.prog 62 #[.slice A fs.length c] w fun e w'=>e=.returned (.bool (aK fs))/\Below w.heap.size w w':=by
 obtain⟨r,hr⟩:∃r,aK fs=r:=⟨_,rfl⟩
 rw[hr]
 have HR:=J0 hr
 clear hr
 go_enter Tryz.func62,Tryz.ntmps62
 go_wp2
 go_loopw [3,4,7] (fun _ _ i wr=>∃k:Nat,k<=fs.length/\i=.int .i64 k/\Below w.heap.size w wr/\Hid (∀i f,i<k->fs[i]?=some f->vJ fs i f=true)) (fun _ _ i _=>fs.length - (intOf i).toNat)
 case atStart=>exact⟨0,by omega,rfl,Jy _ _,J0 fun i f h=>by omega⟩
 case round=>
  obtain⟨k,hk,rfl,HB,hall⟩:=hrel
  have hAr:=hA.below HB
  by_cases hlt:k<fs.length
  ·obtain⟨f,hf⟩:∃f,fs[k]?=some f:=⟨_,J4 hlt⟩
   obtain⟨ad,rfl,h0,h1,h2⟩:=hAr.fld hf
   have hB1:=HB.alloc HB.size (.cells #[.string f.s,.int .i64 f.k,.int .i64 f.l] 68)
   have F0:=cG.new wr f.s f.k f.l
   have hA1:=hAr.below (aA (.cells #[.string f.s,.int .i64 f.k,.int .i64 f.l] 68))
   clear hA hAr
   rcases py fs k f with ⟨ho,hn⟩|⟨ho,hn,hm⟩|⟨ho,hn,hm,hz⟩|⟨ho,hn,hm,hz⟩
   ·obtain rfl:r=false:=HR.out.symm.trans (fM hf ho)
    have HN:=J0 hn
    clear ho hn hf HR hA1
    go_wp2_with (go_at_call 50;refine(eH _ _ HN.out _).mono ?_;rintro e w1 ⟨rfl,hb1⟩)
    go_ret
    exact⟨rfl,hB1.trans (hb1.mono hB1.size)⟩
   ·obtain rfl:r=false:=HR.out.symm.trans (fM hf ho)
    have HN:=J0 hn
    have HL:=J0 ((fu _ _).2 hm)
    clear ho hn hf HR hA1 hm
    go_wp2_with (first
     |(go_at_call 50;refine(eH _ _ HN.out _).mono ?_;rintro e w1 ⟨rfl,hb1⟩;obtain⟨c0,c1,c2⟩:=F0.below hb1;clear F0)
     |(go_at_call 89;refine(eX _ _ _ _ HL.out _).mono ?_;rintro e w2 ⟨rfl,hb2⟩))
    go_ret
    exact⟨rfl,(hB1.trans (hb1.mono hB1.size)).trans (hb2.mono (Q7 hB1.size hb1.size))⟩
   ·obtain rfl:r=false:=HR.out.symm.trans (fM hf ho)
    have HN:=J0 hn
    obtain⟨z,hz2⟩:∃z,aW fs f.s=z:=⟨_,rfl⟩
    obtain⟨y,hy2⟩:∃y,aT f.k f.l=y:=⟨_,rfl⟩
    have ht:(z != (k:Int))=true:=by rw[<-hz2];simpa using hz
    have hy:(y == 0)=false:=by
     rw[<-hy2,beq_eq_false_iff_ne]
     intro h;rw[(fu _ _).1 h] at hm;cases hm
    have HL:=J0 hy2
    have HZ:=J0 hz2
    clear ho hn hf HR hm hz hz2 hy2
    go_wp2_with (first
     |(go_at_call 50;refine(eH _ _ HN.out _).mono ?_;rintro e w1 ⟨rfl,hb1⟩;obtain⟨c0,c1,c2⟩:=F0.below hb1;clear F0)
     |(go_at_call 89;refine(eX _ _ _ _ HL.out _).mono ?_;rintro e w2 ⟨rfl,hb2⟩;obtain⟨d0,d1,d2⟩:=cG.below ⟨c0,c1,c2⟩ hb2;clear c0 c1 c2)
     |(go_at_call 96;refine(kO _ _ _ _ _ HZ.out _ ((hA1.below hb1).below hb2) hl).mono ?_;rintro e w3 ⟨rfl,hb3⟩))
    go_ret
    exact⟨rfl,((hB1.trans (hb1.mono hB1.size)).trans (hb2.mono (Q7 hB1.size hb1.size))).trans (hb3.mono (Q7 hB1.size (Q7 hb1.size hb2.size)))⟩
   ·have hall2:Hid (∀i f,i<k+1->fs[i]?=some f->vJ fs i f=true):=J0 fun i g hi hg=>by
     rcases(by omega:i<k\/i=k) with h2|rfl
     ·exact hall.out i g h2 hg
     ·rw[hf] at hg;cases hg;exact ho
    have HN:=J0 hn
    obtain⟨z,hz2⟩:∃z,aW fs f.s=z:=⟨_,rfl⟩
    obtain⟨y,hy2⟩:∃y,aT f.k f.l=y:=⟨_,rfl⟩
    have ht:(z != (k:Int))=false:=by rw[<-hz2,hz];simp
    have hy:(y == 0)=false:=by
     rw[<-hy2,beq_eq_false_iff_ne]
     intro h;rw[(fu _ _).1 h] at hm;cases hm
    have HL:=J0 hy2
    have HZ:=J0 hz2
    clear ho hn hf HR hm hz hz2 hy2 hall
    go_wp2_with (first
     |(go_at_call 50;refine(eH _ _ HN.out _).mono ?_;rintro e w1 ⟨rfl,hb1⟩;obtain⟨c0,c1,c2⟩:=F0.below hb1;clear F0)
     |(go_at_call 89;refine(eX _ _ _ _ HL.out _).mono ?_;rintro e w2 ⟨rfl,hb2⟩;obtain⟨d0,d1,d2⟩:=cG.below ⟨c0,c1,c2⟩ hb2;clear c0 c1 c2)
     |(go_at_call 96;refine(kO _ _ _ _ _ HZ.out _ ((hA1.below hb1).below hb2) hl).mono ?_;rintro e w3 ⟨rfl,hb3⟩))
    go_roundw
    case rel=>exact⟨k+1,by omega,by go_num,((hB1.trans (hb1.mono hB1.size)).trans (hb2.mono (Q7 hB1.size hb1.size))).trans (hb3.mono (Q7 hB1.size (Q7 hb1.size hb2.size))),hall2⟩
    case measure=>simp[intOf];omega
  ·obtain rfl:k=fs.length:=by omega
   have hn:=oP hall.out
   rw[HR.out] at hn
   subst hn
   clear HR hall hAr hA
   go_wp2
   go_ret
   refine⟨al ?_,HB⟩
   rw[Qy]
   simp only[Y8]
   constructor <;> intro h <;> omega
theorem pO (A:EL) (c:Nat) (fs:List Fd) (w:EQ) (hA:Rd w A (aC fs)) (hl:fs.length<=9223372036854775807) (hs:∀f∈fs,f.s.size<=9223372036854775807):
 Calls Tryz.prog 77 #[.slice A fs.length c] w fun e w'=>e=.returned (.bool (aK fs))/\Below w.heap.size w w':=by
 obtain⟨r,hr⟩:∃r,aK fs=r:=⟨_,rfl⟩
 rw[hr]
 have HR:=J0 hr
 clear hr
 go_enter Tryz.func77,Tryz.ntmps77
 go_wp2
 go_loopw [3] (fun i wr=>∃k:Nat,k<=fs.length/\i=.int .i64 k/\Below w.heap.size w wr/\Hid (∀i f,i<k->fs[i]?=some f->vJ fs i f=true)) (fun i _=>fs.length - (intOf i).toNat)
 case atStart=>exact⟨0,by omega,rfl,Jy _ _,J0 fun i f h=>by omega⟩
 case round=>
  obtain⟨k,hk,rfl,HB,hall⟩:=hrel
  have hAr:=hA.below HB
  by_cases hlt:k<fs.length
  ·obtain⟨f,hf⟩:∃f,fs[k]?=some f:=⟨_,J4 hlt⟩
   have hsz:=hs f (J7 hf)
   obtain⟨ad,rfl,h0,h1,h2⟩:=hAr.fld hf
   clear hA hs
   rcases py fs k f with ⟨ho,hn⟩|⟨ho,hn,hm⟩|⟨ho,hn,hm,hz⟩|⟨ho,hn,hm,hz⟩
   ·obtain rfl:r=false:=HR.out.symm.trans (fM hf ho)
    have HN:=J0 hn
    clear ho hn hf HR hAr
    go_wp2_with (go_at_call 57;refine(fW _ hsz _ HN.out _).mono ?_;rintro e w1 ⟨rfl,hb1⟩)
    go_ret
    exact⟨rfl,HB.trans (hb1.mono HB.size)⟩
   ·obtain rfl:r=false:=HR.out.symm.trans (fM hf ho)
    have HN:=J0 hn
    have HL:=J0 hm
    clear ho hn hf HR hm
    go_wp2_with (first
     |(go_at_call 57;refine(fW _ hsz _ HN.out _).mono ?_;rintro e w1 ⟨rfl,hb1⟩;have c0:=aE (B:=0) hb1 h0;have c1:=aE (B:=0) hb1 h1;have c2:=aE (B:=0) hb1 h2;clear h0 h1 h2)
     |(go_at_call 113;refine(dS _ _ _ _ HL.out _).mono ?_;rintro e w2 ⟨rfl,hb2⟩))
    go_ret
    exact⟨rfl,(HB.trans (hb1.mono HB.size)).trans (hb2.mono (Q7 HB.size hb1.size))⟩
   ·obtain rfl:r=false:=HR.out.symm.trans (fM hf ho)
    have HN:=J0 hn
    have HL:=J0 hm
    have hle:=zR fs f.s k f hf rfl
    obtain⟨z,hz2⟩:∃z,aW fs f.s=z:=⟨_,rfl⟩
    rw[hz2] at hle
    have ht:decide (z<(k:Int))=true:=by rw[hz2] at hz;simp;omega
    have HZ:=J0 hz2
    clear ho hn hf HR hm hz hz2
    go_wp2_with (first
     |(go_at_call 57;refine(fW _ hsz _ HN.out _).mono ?_;rintro e w1 ⟨rfl,hb1⟩;have c0:=aE (B:=0) hb1 h0;have c1:=aE (B:=0) hb1 h1;have c2:=aE (B:=0) hb1 h2;clear h0 h1 h2)
     |(go_at_call 113;refine(dS _ _ _ _ HL.out _).mono ?_;rintro e w2 ⟨rfl,hb2⟩;have d0:=aE (B:=0) hb2 c0;clear c0 c1 c2)
     |(go_at_call 114;refine(oJ _ _ _ _ _ HZ.out _ ((hAr.below hb1).below hb2) hl).mono ?_;rintro e w3 ⟨rfl,rfl⟩))
    go_ret
    exact⟨rfl,(HB.trans (hb1.mono HB.size)).trans (hb2.mono (Q7 HB.size hb1.size))⟩
   ·have hall2:Hid (∀i f,i<k+1->fs[i]?=some f->vJ fs i f=true):=J0 fun i g hi hg=>by
     rcases(by omega:i<k\/i=k) with h2|rfl
     ·exact hall.out i g h2 hg
     ·rw[hf] at hg;cases hg;exact ho
    have HN:=J0 hn
    have HL:=J0 hm
    obtain⟨z,hz2⟩:∃z,aW fs f.s=z:=⟨_,rfl⟩
    have ht:decide (z<(k:Int))=false:=by rw[<-hz2,hz];simp
    have HZ:=J0 hz2
    clear ho hn hf HR hm hz hz2 hall
    go_wp2_with (first
     |(go_at_call 57;refine(fW _ hsz _ HN.out _).mono ?_;rintro e w1 ⟨rfl,hb1⟩;have c0:=aE (B:=0) hb1 h0;have c1:=aE (B:=0) hb1 h1;have c2:=aE (B:=0) hb1 h2;clear h0 h1 h2)
     |(go_at_call 113;refine(dS _ _ _ _ HL.out _).mono ?_;rintro e w2 ⟨rfl,hb2⟩;have d0:=aE (B:=0) hb2 c0;clear c0 c1 c2)
     |(go_at_call 114;refine(oJ _ _ _ _ _ HZ.out _ ((hAr.below hb1).below hb2) hl).mono ?_;rintro e w3 ⟨rfl,rfl⟩))
    go_roundw
    case rel=>exact⟨k+1,by omega,by go_num,(HB.trans (hb1.mono HB.size)).trans (hb2.mono (Q7 HB.size hb1.size)),hall2⟩
    case measure=>simp[intOf];omega
  ·obtain rfl:k=fs.length:=by omega
   have hn:=oP hall.out
   rw[HR.out] at hn
   subst hn
   clear HR hall hAr hA
   go_wp2
   go_ret
   refine⟨al ?_,HB⟩
   rw[Qy]
   simp only[Y8]
   constructor <;> intro h <;> omega
end
end Go.Proofs.YteembinfgbapgaaGreat
