/- Short names. -/
import Derived.WalkKit
import Derived.KernelRfl
import Derived.Deep.QuietTactic
import Derived.BigQuiet
import Derived.WideLaws
import Derived.Laws.BytesArg
import Derived.Lib.ConvBytes
import Derived.Lib.Hide
import Derived.IntWalk
import Derived.Below
import Derived.Test.YteembinfgbapgaaGreatProg
namespace Go.Proofs.YteembinfgbapgaaGreat
open Go.RowKit Go.Lib
theorem J0 : type_of% @Lib.hid := @Lib.hid
theorem J1 : type_of% @List.setIfInBounds_toArray := @List.setIfInBounds_toArray
theorem J2 : type_of% @List.set_cons_succ := @List.set_cons_succ
theorem J3 : type_of% @List.set_cons_zero := @List.set_cons_zero
theorem J4 : type_of% @List.getElem?_eq_getElem := @List.getElem?_eq_getElem
theorem J5 : type_of% @Below.heap_setCell := @Below.heap_setCell
theorem J6 : type_of% @List.getElem?_eq_some_iff := @List.getElem?_eq_some_iff
theorem J7 : type_of% @List.mem_of_getElem? := @List.mem_of_getElem?
theorem J8 : type_of% @Below.setCell := @Below.setCell
theorem J9 : type_of% @Nat.le_refl := @Nat.le_refl
theorem Jj : type_of% @Option.some.inj := @Option.some.inj
theorem Jk : type_of% @Below.alloc := @Below.alloc
theorem Jq : type_of% @World.size_alloc := @World.size_alloc
theorem Jv : type_of% @Below.drew := @Below.drew
theorem Jy : type_of% @Below.refl := @Below.refl
theorem Jz : type_of% @List.getElem_cons_zero := @List.getElem_cons_zero
theorem K9 : type_of% @List.getElem_cons_succ := @List.getElem_cons_succ
theorem Kv : type_of% @List.getElem?_map := @List.getElem?_map
theorem Ky : type_of% @List.getElem_toArray := @List.getElem_toArray
theorem Kz : type_of% @List.length_map := @List.length_map
theorem Q7 : type_of% @Nat.le_trans := @Nat.le_trans
theorem Q8 : type_of% @List.getElem?_append_right := @List.getElem?_append_right
theorem Qk : type_of% @Array.getElem?_eq_some_iff := @Array.getElem?_eq_some_iff
theorem Qq : type_of% @List.mem_iff_getElem? := @List.mem_iff_getElem?
theorem Qv : type_of% @List.length_take := @List.length_take
theorem Qx : type_of% @Bool.eq_iff_iff := @Bool.eq_iff_iff
theorem Qy : type_of% @Bool.and_eq_true := @Bool.and_eq_true
theorem Qz : type_of% @List.length_append := @List.length_append
theorem Vq : type_of% @List.take_add_one := @List.take_add_one
theorem Vz : type_of% @List.take_of_length_le := @List.take_of_length_le
theorem X5 : type_of% @List.mem_map := @List.mem_map
theorem X6 : type_of% @List.getElem?_set_ne := @List.getElem?_set_ne
theorem X7 : type_of% @List.mem_append := @List.mem_append
theorem X8 : type_of% @Nat.zero_le := @Nat.zero_le
theorem X9 : type_of% @List.getElem?_take := @List.getElem?_take
theorem Xj : type_of% @List.append_assoc := @List.append_assoc
theorem Xk : type_of% @List.getElem?_append_left := @List.getElem?_append_left
theorem Xq : type_of% @IntWalk.i64_in := @IntWalk.i64_in
theorem Xv : type_of% @List.ext_getElem? := @List.ext_getElem?
theorem Xx : type_of% @List.length_cons := @List.length_cons
theorem Xy : type_of% @List.getElem?_eq_none := @List.getElem?_eq_none
end Go.Proofs.YteembinfgbapgaaGreat
