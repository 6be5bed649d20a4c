/- Wa: the types of the program that the walks meet, as a table. Conditions: none. -/
import Derived.Test.YtoeifjooljkpaaaProg
import Derived.Test.YtoeifjooljkpaaaEI
import Derived.KernelRfl
set_option linter.unusedVariables false
set_option linter.unusedSimpArgs false
namespace Go.Proofs.Ytoeifjooljkpaaa
open Go.E
set_option maxRecDepth 100000
set_option maxHeartbeats 4000000
def tab : Tab := [
  (3, ⟨TypeDesc.int IntKind.i64, 1, 8, [.i .i64 ((0 : Int))]⟩),
  (4, ⟨TypeDesc.bool, 1, 1, [.b (false)]⟩),
  (5, ⟨TypeDesc.int IntKind.u8, 1, 1, [.i .u8 ((0 : Int))]⟩),
  (20, ⟨TypeDesc.interface #[], 1, 16, [.nili]⟩),
  (21, ⟨TypeDesc.int IntKind.i32, 1, 4, [.i .i32 ((0 : Int))]⟩),
  (22, ⟨TypeDesc.slice (3 : Nat), 1, 24, [.nl]⟩),
  (38, ⟨TypeDesc.slice (22 : Nat), 1, 24, [.nl]⟩),
  (24, ⟨TypeDesc.struct #[{ name := "Rep", type := (3 : Nat), offset := (0 : Nat), embedded := false, tag := "", pkgPath := "", byteOffset := (0 : Nat) : Field }, { name := "Num", type := (3 : Nat), offset := (1 : Nat), embedded := false, tag := "", pkgPath := "", byteOffset := (8 : Nat) : Field }], 2, 16, [.i .i64 ((0 : Int)), .i .i64 ((0 : Int))]⟩),
  (27, ⟨TypeDesc.int IntKind.i64, 1, 8, [.i .i64 ((0 : Int))]⟩),
  (49, ⟨TypeDesc.slice (53 : Nat), 1, 24, [.nl]⟩),
  (53, ⟨TypeDesc.struct #[{ name := "Rep", type := (3 : Nat), offset := (0 : Nat), embedded := false, tag := "", pkgPath := "", byteOffset := (0 : Nat) : Field }, { name := "Lo", type := (3 : Nat), offset := (1 : Nat), embedded := false, tag := "", pkgPath := "", byteOffset := (8 : Nat) : Field }, { name := "Hi", type := (3 : Nat), offset := (2 : Nat), embedded := false, tag := "", pkgPath := "", byteOffset := (16 : Nat) : Field }], 3, 24, [.i .i64 ((0 : Int)), .i .i64 ((0 : Int)), .i .i64 ((0 : Int))]⟩),
  (61, ⟨TypeDesc.array (16 : Nat) (3 : Nat), 16, 128, [.i .i64 ((0 : Int)), .i .i64 ((0 : Int)), .i .i64 ((0 : Int)), .i .i64 ((0 : Int)), .i .i64 ((0 : Int)), .i .i64 ((0 : Int)), .i .i64 ((0 : Int)), .i .i64 ((0 : Int)), .i .i64 ((0 : Int)), .i .i64 ((0 : Int)), .i .i64 ((0 : Int)), .i .i64 ((0 : Int)), .i .i64 ((0 : Int)), .i .i64 ((0 : Int)), .i .i64 ((0 : Int)), .i .i64 ((0 : Int))]⟩),
  (62, ⟨TypeDesc.array (16 : Nat) (3 : Nat), 16, 128, [.i .i64 ((0 : Int)), .i .i64 ((0 : Int)), .i .i64 ((0 : Int)), .i .i64 ((0 : Int)), .i .i64 ((0 : Int)), .i .i64 ((0 : Int)), .i .i64 ((0 : Int)), .i .i64 ((0 : Int)), .i .i64 ((0 : Int)), .i .i64 ((0 : Int)), .i .i64 ((0 : Int)), .i .i64 ((0 : Int)), .i .i64 ((0 : Int)), .i .i64 ((0 : Int)), .i .i64 ((0 : Int)), .i .i64 ((0 : Int))]⟩),
  (70, ⟨TypeDesc.slice (62 : Nat), 1, 24, [.nl]⟩),
  (72, ⟨TypeDesc.func #[(3 : Nat), (3 : Nat)] #[(4 : Nat)] false, 1, 8, [.nilf]⟩),
  (9, ⟨TypeDesc.string, 1, 16, [.s ({ data := #[] : ByteArray })]⟩),
  (91, ⟨TypeDesc.int IntKind.u64, 1, 8, [.i .u64 ((0 : Int))]⟩),
  (85, ⟨TypeDesc.struct #[{ name := "Less", type := (72 : Nat), offset := (0 : Nat), embedded := false, tag := "", pkgPath := "", byteOffset := (0 : Nat) : Field }, { name := "Swap", type := (81 : Nat), offset := (1 : Nat), embedded := false, tag := "", pkgPath := "", byteOffset := (8 : Nat) : Field }], 2, 16, [.nilf, .nilf]⟩),
  (81, ⟨TypeDesc.func #[(3 : Nat), (3 : Nat)] #[] false, 1, 8, [.nilf]⟩)]
theorem tab_ok : TabOk Proofs.Try.prog tab :=
  tabOk_cons 3 _ (by kernel_rfl) (by kernel_rfl) (
  tabOk_cons 4 _ (by kernel_rfl) (by kernel_rfl) (
  tabOk_cons 5 _ (by kernel_rfl) (by kernel_rfl) (
  tabOk_cons 20 _ (by kernel_rfl) (by kernel_rfl) (
  tabOk_cons 21 _ (by kernel_rfl) (by kernel_rfl) (
  tabOk_cons 22 _ (by kernel_rfl) (by kernel_rfl) (
  tabOk_cons 38 _ (by kernel_rfl) (by kernel_rfl) (
  tabOk_cons 24 _ (by kernel_rfl) (by kernel_rfl) (
  tabOk_cons 27 _ (by kernel_rfl) (by kernel_rfl) (
  tabOk_cons 49 _ (by kernel_rfl) (by kernel_rfl) (
  tabOk_cons 53 _ (by kernel_rfl) (by kernel_rfl) (
  tabOk_cons 61 _ (by kernel_rfl) (by kernel_rfl) (
  tabOk_cons 62 _ (by kernel_rfl) (by kernel_rfl) (
  tabOk_cons 70 _ (by kernel_rfl) (by kernel_rfl) (
  tabOk_cons 72 _ (by kernel_rfl) (by kernel_rfl) (
  tabOk_cons 9 _ (by kernel_rfl) (by kernel_rfl) (
  tabOk_cons 91 _ (by kernel_rfl) (by kernel_rfl) (
  tabOk_cons 85 _ (by kernel_rfl) (by kernel_rfl) (
  tabOk_cons 81 _ (by kernel_rfl) (by kernel_rfl) (
  tabOk_nil _)))))))))))))))))))
end Go.Proofs.Ytoeifjooljkpaaa
