/- Wa: the types of the program that the walks meet, as a table. Conditions: none. -/
import Derived.Test.YtjngmlkaijpbgaaProg
import Derived.Test.YtjngmlkaijpbgaaEI
import Derived.KernelRfl
set_option linter.unusedVariables false
set_option linter.unusedSimpArgs false
namespace Go.Proofs.Ytjngmlkaijpbgaa
open Go.E
set_option maxRecDepth 100000
set_option maxHeartbeats 4000000
def tab : Tab := [
  (3, ⟨TypeDesc.int IntKind.i64, 1, 8, [.i .i64 ((0 : Int))]⟩),
  (4, ⟨TypeDesc.bool, 1, 1, [.b (false)]⟩),
  (5, ⟨TypeDesc.int IntKind.u8, 1, 1, [.i .u8 ((0 : Int))]⟩),
  (20, ⟨TypeDesc.interface #[], 1, 16, [.nili]⟩),
  (21, ⟨TypeDesc.int IntKind.i32, 1, 4, [.i .i32 ((0 : Int))]⟩),
  (33, ⟨TypeDesc.slice (3 : Nat), 1, 24, [.nl]⟩),
  (26, ⟨TypeDesc.struct #[{ name := "Rep", type := (3 : Nat), offset := (0 : Nat), embedded := false, tag := "", pkgPath := "", byteOffset := (0 : Nat) : Field }, { name := "Num", type := (3 : Nat), offset := (1 : Nat), embedded := false, tag := "", pkgPath := "", byteOffset := (8 : Nat) : Field }], 2, 16, [.i .i64 ((0 : Int)), .i .i64 ((0 : Int))]⟩),
  (23, ⟨TypeDesc.int IntKind.i64, 1, 8, [.i .i64 ((0 : Int))]⟩),
  (34, ⟨TypeDesc.slice (81 : Nat), 1, 24, [.nl]⟩),
  (81, ⟨TypeDesc.struct #[{ name := "Rep", type := (3 : Nat), offset := (0 : Nat), embedded := false, tag := "", pkgPath := "", byteOffset := (0 : Nat) : Field }, { name := "Lo", type := (3 : Nat), offset := (1 : Nat), embedded := false, tag := "", pkgPath := "", byteOffset := (8 : Nat) : Field }, { name := "Hi", type := (3 : Nat), offset := (2 : Nat), embedded := false, tag := "", pkgPath := "", byteOffset := (16 : Nat) : Field }], 3, 24, [.i .i64 ((0 : Int)), .i .i64 ((0 : Int)), .i .i64 ((0 : Int))]⟩),
  (73, ⟨TypeDesc.func #[(3 : Nat), (3 : Nat)] #[(4 : Nat)] false, 1, 8, [.nilf]⟩),
  (9, ⟨TypeDesc.string, 1, 16, [.s ({ data := #[] : ByteArray })]⟩),
  (124, ⟨TypeDesc.int IntKind.u64, 1, 8, [.i .u64 ((0 : Int))]⟩),
  (28, ⟨TypeDesc.struct #[{ name := "Dot", type := (26 : Nat), offset := (0 : Nat), embedded := false, tag := "", pkgPath := "", byteOffset := (0 : Nat) : Field }, { name := "Sku", type := (9 : Nat), offset := (2 : Nat), embedded := false, tag := "", pkgPath := "", byteOffset := (16 : Nat) : Field }, { name := "Qty", type := (3 : Nat), offset := (3 : Nat), embedded := false, tag := "", pkgPath := "", byteOffset := (32 : Nat) : Field }], 4, 40, [.i .i64 ((0 : Int)), .i .i64 ((0 : Int)), .s ({ data := #[] : ByteArray }), .i .i64 ((0 : Int))]⟩),
  (22, ⟨TypeDesc.slice (28 : Nat), 1, 24, [.nl]⟩),
  (36, ⟨TypeDesc.struct #[{ name := "Vec", type := (33 : Nat), offset := (0 : Nat), embedded := false, tag := "", pkgPath := "", byteOffset := (0 : Nat) : Field }, { name := "Cloud", type := (34 : Nat), offset := (1 : Nat), embedded := false, tag := "", pkgPath := "", byteOffset := (24 : Nat) : Field }], 2, 48, [.nl, .nl]⟩),
  (55, ⟨TypeDesc.struct #[{ name := "Sku", type := (9 : Nat), offset := (0 : Nat), embedded := false, tag := "", pkgPath := "", byteOffset := (0 : Nat) : Field }, { name := "Qty", type := (3 : Nat), offset := (1 : Nat), embedded := false, tag := "", pkgPath := "", byteOffset := (16 : Nat) : Field }, { name := "Parts", type := (3 : Nat), offset := (2 : Nat), embedded := false, tag := "", pkgPath := "", byteOffset := (24 : Nat) : Field }], 3, 32, [.s ({ data := #[] : ByteArray }), .i .i64 ((0 : Int)), .i .i64 ((0 : Int))]⟩),
  (51, ⟨TypeDesc.slice (55 : Nat), 1, 24, [.nl]⟩),
  (108, ⟨TypeDesc.struct #[{ name := "Lo", type := (3 : Nat), offset := (0 : Nat), embedded := false, tag := "", pkgPath := "", byteOffset := (0 : Nat) : Field }, { name := "Hi", type := (3 : Nat), offset := (1 : Nat), embedded := false, tag := "", pkgPath := "", byteOffset := (8 : Nat) : Field }], 2, 16, [.i .i64 ((0 : Int)), .i .i64 ((0 : Int))]⟩),
  (104, ⟨TypeDesc.slice (108 : Nat), 1, 24, [.nl]⟩),
  (77, ⟨TypeDesc.slice (26 : Nat), 1, 24, [.nl]⟩),
  (99, ⟨TypeDesc.slice (22 : Nat), 1, 24, [.nl]⟩),
  (105, ⟨TypeDesc.array (16 : Nat) (104 : Nat), 16, 384, [.nl, .nl, .nl, .nl, .nl, .nl, .nl, .nl, .nl, .nl, .nl, .nl, .nl, .nl, .nl, .nl]⟩),
  (106, ⟨TypeDesc.array (16 : Nat) (104 : Nat), 16, 384, [.nl, .nl, .nl, .nl, .nl, .nl, .nl, .nl, .nl, .nl, .nl, .nl, .nl, .nl, .nl, .nl]⟩),
  (136, ⟨TypeDesc.array (16 : Nat) (33 : Nat), 16, 384, [.nl, .nl, .nl, .nl, .nl, .nl, .nl, .nl, .nl, .nl, .nl, .nl, .nl, .nl, .nl, .nl]⟩),
  (138, ⟨TypeDesc.struct #[{ name := "At", type := (136 : Nat), offset := (0 : Nat), embedded := false, tag := "", pkgPath := "", byteOffset := (0 : Nat) : Field }], 16, 384, [.nl, .nl, .nl, .nl, .nl, .nl, .nl, .nl, .nl, .nl, .nl, .nl, .nl, .nl, .nl, .nl]⟩),
  (150, ⟨TypeDesc.slice (36 : Nat), 1, 24, [.nl]⟩),
  (70, ⟨TypeDesc.func #[(28 : Nat)] #[(4 : Nat)] false, 1, 8, [.nilf]⟩),
  (114, ⟨TypeDesc.func #[(81 : Nat)] #[(4 : Nat)] false, 1, 8, [.nilf]⟩),
  (101, ⟨TypeDesc.int IntKind.u64, 1, 8, [.i .u64 ((0 : Int))]⟩),
  (38, ⟨TypeDesc.struct #[{ name := "A", type := (22 : Nat), offset := (0 : Nat), embedded := false, tag := "", pkgPath := "", byteOffset := (0 : Nat) : Field }, { name := "B", type := (22 : Nat), offset := (1 : Nat), embedded := false, tag := "", pkgPath := "", byteOffset := (24 : Nat) : Field }, { name := "P", type := (36 : Nat), offset := (2 : Nat), embedded := false, tag := "", pkgPath := "", byteOffset := (48 : Nat) : Field }, { name := "D", type := (26 : Nat), offset := (4 : Nat), embedded := false, tag := "", pkgPath := "", byteOffset := (96 : Nat) : Field }, { name := "Rep", type := (3 : Nat), offset := (6 : Nat), embedded := false, tag := "", pkgPath := "", byteOffset := (112 : Nat) : Field }, { name := "Sku", type := (9 : Nat), offset := (7 : Nat), embedded := false, tag := "", pkgPath := "", byteOffset := (120 : Nat) : Field }], 8, 136, [.nl, .nl, .nl, .nl, .i .i64 ((0 : Int)), .i .i64 ((0 : Int)), .i .i64 ((0 : Int)), .s ({ data := #[] : ByteArray })]⟩),
  (96, ⟨TypeDesc.struct #[{ name := "Less", type := (73 : Nat), offset := (0 : Nat), embedded := false, tag := "", pkgPath := "", byteOffset := (0 : Nat) : Field }, { name := "Swap", type := (92 : Nat), offset := (1 : Nat), embedded := false, tag := "", pkgPath := "", byteOffset := (8 : Nat) : Field }], 2, 16, [.nilf, .nilf]⟩),
  (92, ⟨TypeDesc.func #[(3 : Nat), (3 : Nat)] #[] false, 1, 8, [.nilf]⟩)]
theorem tab_ok : TabOk Proofs.Try.prog tab :=
  tabOk_cons 3 _ (by kernel_rfl) (by kernel_rfl) (
  tabOk_cons 4 _ (by kernel_rfl) (by kernel_rfl) (
  tabOk_cons 5 _ (by kernel_rfl) (by kernel_rfl) (
  tabOk_cons 20 _ (by kernel_rfl) (by kernel_rfl) (
  tabOk_cons 21 _ (by kernel_rfl) (by kernel_rfl) (
  tabOk_cons 33 _ (by kernel_rfl) (by kernel_rfl) (
  tabOk_cons 26 _ (by kernel_rfl) (by kernel_rfl) (
  tabOk_cons 23 _ (by kernel_rfl) (by kernel_rfl) (
  tabOk_cons 34 _ (by kernel_rfl) (by kernel_rfl) (
  tabOk_cons 81 _ (by kernel_rfl) (by kernel_rfl) (
  tabOk_cons 73 _ (by kernel_rfl) (by kernel_rfl) (
  tabOk_cons 9 _ (by kernel_rfl) (by kernel_rfl) (
  tabOk_cons 124 _ (by kernel_rfl) (by kernel_rfl) (
  tabOk_cons 28 _ (by kernel_rfl) (by kernel_rfl) (
  tabOk_cons 22 _ (by kernel_rfl) (by kernel_rfl) (
  tabOk_cons 36 _ (by kernel_rfl) (by kernel_rfl) (
  tabOk_cons 55 _ (by kernel_rfl) (by kernel_rfl) (
  tabOk_cons 51 _ (by kernel_rfl) (by kernel_rfl) (
  tabOk_cons 108 _ (by kernel_rfl) (by kernel_rfl) (
  tabOk_cons 104 _ (by kernel_rfl) (by kernel_rfl) (
  tabOk_cons 77 _ (by kernel_rfl) (by kernel_rfl) (
  tabOk_cons 99 _ (by kernel_rfl) (by kernel_rfl) (
  tabOk_cons 105 _ (by kernel_rfl) (by kernel_rfl) (
  tabOk_cons 106 _ (by kernel_rfl) (by kernel_rfl) (
  tabOk_cons 136 _ (by kernel_rfl) (by kernel_rfl) (
  tabOk_cons 138 _ (by kernel_rfl) (by kernel_rfl) (
  tabOk_cons 150 _ (by kernel_rfl) (by kernel_rfl) (
  tabOk_cons 70 _ (by kernel_rfl) (by kernel_rfl) (
  tabOk_cons 114 _ (by kernel_rfl) (by kernel_rfl) (
  tabOk_cons 101 _ (by kernel_rfl) (by kernel_rfl) (
  tabOk_cons 38 _ (by kernel_rfl) (by kernel_rfl) (
  tabOk_cons 96 _ (by kernel_rfl) (by kernel_rfl) (
  tabOk_cons 92 _ (by kernel_rfl) (by kernel_rfl) (
  tabOk_nil _)))))))))))))))))))))))))))))))))
end Go.Proofs.Ytjngmlkaijpbgaa
