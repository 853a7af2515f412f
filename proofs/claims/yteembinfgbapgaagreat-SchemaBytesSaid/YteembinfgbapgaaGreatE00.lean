/- Short names. -/
import Derived.WalkKit
import Derived.KernelRfl
import Derived.Deep.QuietTactic
import Derived.BigQuiet
import Derived.WideLaws
import Derived.Laws.BytesArg
import Derived.Lib.ConvBytes
import Derived.Lib.Hide
import Derived.IntWalk
import Derived.Below
import Derived.Maps.AppendAt
import Derived.Laws.AppendOwn
import Derived.OrdersHeld
import Derived.Tactics
import Derived.RangeFuncRecord
import Derived.Test.YteembinfgbapgaaGreatProg
namespace Go.Proofs.YteembinfgbapgaaGreat
open Go.RowKit Go.Lib
theorem J0 : type_of% @Lib.hid := @Lib.hid
theorem J1 : type_of% @List.setIfInBounds_toArray := @List.setIfInBounds_toArray
theorem J2 : type_of% @List.set_cons_succ := @List.set_cons_succ
theorem J3 : type_of% @List.set_cons_zero := @List.set_cons_zero
theorem J4 : type_of% @List.getElem?_eq_getElem := @List.getElem?_eq_getElem
theorem J5 : type_of% @Below.heap_setCell := @Below.heap_setCell
theorem J6 : type_of% @List.getElem?_eq_some_iff := @List.getElem?_eq_some_iff
theorem J7 : type_of% @List.mem_of_getElem? := @List.mem_of_getElem?
theorem J8 : type_of% @Below.setCell := @Below.setCell
theorem J9 : type_of% @Nat.le_refl := @Nat.le_refl
theorem Jj : type_of% @Option.some.inj := @Option.some.inj
theorem Jk : type_of% @Below.alloc := @Below.alloc
theorem Jq : type_of% @World.size_alloc := @World.size_alloc
theorem Jv : type_of% @Below.drew := @Below.drew
theorem Jy : type_of% @Below.refl := @Below.refl
theorem Jz : type_of% @List.getElem_cons_zero := @List.getElem_cons_zero
theorem K9 : type_of% @List.getElem_cons_succ := @List.getElem_cons_succ
theorem Kv : type_of% @List.getElem?_map := @List.getElem?_map
theorem Ky : type_of% @List.getElem_toArray := @List.getElem_toArray
theorem Kz : type_of% @List.length_map := @List.length_map
theorem Q7 : type_of% @Nat.le_trans := @Nat.le_trans
theorem Qk : type_of% @List.getElem?_append_right := @List.getElem?_append_right
theorem Qq : type_of% @Array.getElem?_eq_some_iff := @Array.getElem?_eq_some_iff
theorem Qv : type_of% @List.mem_iff_getElem? := @List.mem_iff_getElem?
theorem Qx : type_of% @List.length_take := @List.length_take
theorem Qy : type_of% @Bool.eq_iff_iff := @Bool.eq_iff_iff
theorem Qz : type_of% @Bool.and_eq_true := @Bool.and_eq_true
theorem Vq : type_of% @List.length_append := @List.length_append
theorem Vv : type_of% @List.take_add_one := @List.take_add_one
theorem Vx : type_of% @List.take_of_length_le := @List.take_of_length_le
theorem Vy : type_of% @List.mem_map := @List.mem_map
theorem Vz : type_of% @List.getElem?_set_ne := @List.getElem?_set_ne
theorem X5 : type_of% @List.mem_append := @List.mem_append
theorem X6 : type_of% @Nat.zero_le := @Nat.zero_le
theorem X7 : type_of% @List.getElem?_take := @List.getElem?_take
theorem X8 : type_of% @List.append_assoc := @List.append_assoc
theorem X9 : type_of% @List.getElem?_append_left := @List.getElem?_append_left
theorem Xj : type_of% @IntWalk.i64_in := @IntWalk.i64_in
theorem Xk : type_of% @List.ext_getElem? := @List.ext_getElem?
theorem Xq : type_of% @List.length_cons := @List.length_cons
theorem Xv : type_of% @List.getElem?_eq_none := @List.getElem?_eq_none
theorem Xx : type_of% @bodyPost_ret := @bodyPost_ret
theorem Xy : type_of% @if_neg := @if_neg
theorem Xz : type_of% @if_pos := @if_pos
theorem Y3 : type_of% @ownsRow_setCell_below := @ownsRow_setCell_below
theorem Y4 : type_of% @wpList_append_own_at := @wpList_append_own_at
theorem Y5 : type_of% @wpList_append_own := @wpList_append_own
theorem Y6 : type_of% @wpAnyH_take := @wpAnyH_take
theorem Y7 : type_of% @World.alloc_heap_new := @World.alloc_heap_new
theorem Y8 : type_of% @decide_eq_true_eq := @decide_eq_true_eq
theorem Y9 : type_of% @decide_eq_false := @decide_eq_false
theorem Yv : type_of% @of_decide_eq_true := @of_decide_eq_true
theorem Yx : type_of% @decide_eq_true := @decide_eq_true
theorem Yy : type_of% @List.getD_eq_getElem?_getD := @List.getD_eq_getElem?_getD
theorem Yz : type_of% @True.intro := @True.intro
abbrev EL := Option Addr
abbrev EN := List UInt8
abbrev EO := List Value
abbrev EP := ByteArray
abbrev EQ := World
abbrev ER := Value
abbrev ES := TypeId
end Go.Proofs.YteembinfgbapgaaGreat
