/-
  What the library's own functions answer: sums and differences with what goes over, products, lengths.
-/
import Derived.Test.YtpikjhpbldocnaaL0
import Derived.Shelf.Spec.BitsCarry
import Derived.Test.YtpikjhpbldocnaaSh
import Derived.Shelf.Bits.Mul64
import Derived.Shelf.Strconv.Itoa0
namespace Go.Proofs.Ytpikjhpbldocnaa
open Go Go.Ab
set_option linter.unusedSimpArgs false
set_option linter.unusedVariables false

theorem add64_x (x y c : Nat) (hc : c ≤ 1) : ExtC Try.prog 40 [.s (.v (.int .u64 (x : Int))), .s (.v (.int .u64 (y : Int))), .s (.v (.int .u64 (c : Int)))]
    (.tup [.s (.v (.int .u64 (((x + y + c) % 18446744073709551616 : Nat) : Int))), .s (.v (.int .u64 (((x + y + c) / 18446744073709551616 : Nat) : Int)))]) := by
  intro β w
  show (callFunc 40 #[.int .u64 (x : Int), .int .u64 (y : Int), .int .u64 (c : Int)]).run _ _ = _
  rw [run_callFunc_extern Try.func40 (by kernel_rfl) (by kernel_rfl) (by kernel_rfl) (e := add64Entry) (by kernel_rfl), run_add64 _ _ _ (by omega) (by omega) (by omega) (by omega)]
  rfl
theorem sub64_x (x y c : Nat) (hc : c ≤ 1) : ExtC Try.prog 41 [.s (.v (.int .u64 (x : Int))), .s (.v (.int .u64 (y : Int))), .s (.v (.int .u64 (c : Int)))]
    (.tup [.s (.v (.int .u64 (((x + 18446744073709551616 - y - c) % 18446744073709551616 : Nat) : Int))), .s (.v (.int .u64 ((if x < y + c then 1 else 0 : Nat) : Int)))]) := by
  intro β w
  show (callFunc 41 #[.int .u64 (x : Int), .int .u64 (y : Int), .int .u64 (c : Int)]).run _ _ = _
  rw [run_callFunc_extern Try.func41 (by kernel_rfl) (by kernel_rfl) (by kernel_rfl) (e := sub64Entry) (by kernel_rfl), run_sub64 _ _ _ hc]
  rfl
theorem mul64_p (x y : Nat) (hx : x < 18446744073709551616) (hy : y < 18446744073709551616) : PureC Try.prog 49 [.s (.v (.int .u64 (x : Int))), .s (.v (.int .u64 (y : Int)))]
    (.tup [.s (.v (.int .u64 ((x * y / 18446744073709551616 : Nat) : Int))), .s (.v (.int .u64 ((x * y % 18446744073709551616 : Nat) : Int)))]) :=
  pureC_lib (fun _ => rfl) (fun _ => rfl) fun w => Any.bits_Mul64 Ytpikjhpbldocnaalays264 x y hx hy w
theorem len64_p (x : Nat) (hx : x < 18446744073709551616) : PureC Try.prog 38 [.s (.v (.int .u64 (x : Int)))]
    (.s (.v (.int .i64 (Lib.bitLen x : Int)))) :=
  pureC_lib (fun _ => rfl) (fun _ => rfl) fun w => Any.bits_Len64 Ytpikjhpbldocnaalays129 x w (by omega) (by omega)
end Go.Proofs.Ytpikjhpbldocnaa
