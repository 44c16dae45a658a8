/- The compiled texts of the functions that are walked here, each checked against the loaded program; facts on its types. Printed by a program of this session. -/
import Derived.Test.YthippanonfbboaaDoorSxSimp
import Derived.Test.YthippanonfbboaaDoorProg
set_option linter.unusedVariables false
namespace Go.SX.G
open Go Go.SX Go.Proofs
theorem mixed : Tryd.prog.follows .mixedOrders = true := by kernel_rfl
theorem ar42 : arE Tryd.prog 42 = some (20, 3, 1) := by kernel_rfl
theorem by3 : byP Tryd.prog 3 = some 8 := by kernel_rfl
theorem by5 : byP Tryd.prog 5 = some 1 := by kernel_rfl
theorem by59 : byP Tryd.prog 59 = some 32 := by kernel_rfl
theorem by74 : byP Tryd.prog 74 = some 56 := by kernel_rfl
theorem by87 : byP Tryd.prog 87 = some 8 := by kernel_rfl
theorem fo38_3 : foff Tryd.prog 38 3 = some 3 := by kernel_rfl
theorem fo38_4 : foff Tryd.prog 38 4 = some 4 := by kernel_rfl
theorem fo59_0 : foff Tryd.prog 59 0 = some 0 := by kernel_rfl
theorem fo59_1 : foff Tryd.prog 59 1 = some 1 := by kernel_rfl
theorem fo59_2 : foff Tryd.prog 59 2 = some 2 := by kernel_rfl
theorem fo69_0 : foff Tryd.prog 69 0 = some 0 := by kernel_rfl
theorem fo69_1 : foff Tryd.prog 69 1 = some 1 := by kernel_rfl
theorem fo69_2 : foff Tryd.prog 69 2 = some 2 := by kernel_rfl
theorem fo69_3 : foff Tryd.prog 69 3 = some 3 := by kernel_rfl
theorem fo69_4 : foff Tryd.prog 69 4 = some 4 := by kernel_rfl
theorem fo69_5 : foff Tryd.prog 69 5 = some 5 := by kernel_rfl
theorem fo69_6 : foff Tryd.prog 69 6 = some 6 := by kernel_rfl
theorem fo72_0 : foff Tryd.prog 72 0 = some 0 := by kernel_rfl
theorem fo89_0 : foff Tryd.prog 89 0 = some 0 := by kernel_rfl
theorem fo89_1 : foff Tryd.prog 89 1 = some 1 := by kernel_rfl
theorem fo89_2 : foff Tryd.prog 89 2 = some 2 := by kernel_rfl
theorem fo89_3 : foff Tryd.prog 89 3 = some 3 := by kernel_rfl
theorem fo89_4 : foff Tryd.prog 89 4 = some 4 := by kernel_rfl
theorem fo89_5 : foff Tryd.prog 89 5 = some 5 := by kernel_rfl
theorem fo89_6 : foff Tryd.prog 89 6 = some 6 := by kernel_rfl
theorem fo89_7 : foff Tryd.prog 89 7 = some 7 := by kernel_rfl
theorem fo92_0 : foff Tryd.prog 92 0 = some 0 := by kernel_rfl
theorem pl38_0 : place Tryd.prog 38 0 = some (0, 1) := by kernel_rfl
theorem pl38_1 : place Tryd.prog 38 1 = some (1, 1) := by kernel_rfl
theorem pl38_2 : place Tryd.prog 38 2 = some (2, 1) := by kernel_rfl
theorem pl38_3 : place Tryd.prog 38 3 = some (3, 1) := by kernel_rfl
theorem pl38_4 : place Tryd.prog 38 4 = some (4, 1) := by kernel_rfl
theorem pl59_0 : place Tryd.prog 59 0 = some (0, 1) := by kernel_rfl
theorem pl59_1 : place Tryd.prog 59 1 = some (1, 1) := by kernel_rfl
theorem pl59_2 : place Tryd.prog 59 2 = some (2, 1) := by kernel_rfl
theorem pl69_0 : place Tryd.prog 69 0 = some (0, 1) := by kernel_rfl
theorem pl69_1 : place Tryd.prog 69 1 = some (1, 1) := by kernel_rfl
theorem pl69_2 : place Tryd.prog 69 2 = some (2, 1) := by kernel_rfl
theorem pl69_4 : place Tryd.prog 69 4 = some (4, 1) := by kernel_rfl
theorem pl69_5 : place Tryd.prog 69 5 = some (5, 1) := by kernel_rfl
theorem pl72_0 : place Tryd.prog 72 0 = some (0, 1) := by kernel_rfl
theorem pl89_0 : place Tryd.prog 89 0 = some (0, 1) := by kernel_rfl
theorem pl89_1 : place Tryd.prog 89 1 = some (1, 1) := by kernel_rfl
theorem pl89_2 : place Tryd.prog 89 2 = some (2, 1) := by kernel_rfl
theorem pl89_3 : place Tryd.prog 89 3 = some (3, 1) := by kernel_rfl
theorem pl89_5 : place Tryd.prog 89 5 = some (5, 1) := by kernel_rfl
theorem pl89_6 : place Tryd.prog 89 6 = some (6, 1) := by kernel_rfl
theorem pl92_0 : place Tryd.prog 92 0 = some (0, 1) := by kernel_rfl
theorem sd38 : sized Tryd.prog 38 = true := by kernel_rfl
theorem sd59 : sized Tryd.prog 59 = true := by kernel_rfl
theorem sd69 : sized Tryd.prog 69 = true := by kernel_rfl
theorem sd72 : sized Tryd.prog 72 = true := by kernel_rfl
theorem sd89 : sized Tryd.prog 89 = true := by kernel_rfl
theorem sd92 : sized Tryd.prog 92 = true := by kernel_rfl
theorem sh23 : shP Tryd.prog 23 = some .one := by kernel_rfl
theorem sh3 : shP Tryd.prog 3 = some .one := by kernel_rfl
theorem sh38 : shP Tryd.prog 38 = some (.agg 5) := by kernel_rfl
theorem sh5 : shP Tryd.prog 5 = some .one := by kernel_rfl
theorem sh55 : shP Tryd.prog 55 = some .one := by kernel_rfl
theorem sh59 : shP Tryd.prog 59 = some (.agg 3) := by kernel_rfl
theorem sh70 : shP Tryd.prog 70 = some .one := by kernel_rfl
theorem sh74 : shP Tryd.prog 74 = some (.agg 4) := by kernel_rfl
theorem sh87 : shP Tryd.prog 87 = some .one := by kernel_rfl
theorem sh9 : shP Tryd.prog 9 = some .one := by kernel_rfl
theorem sh90 : shP Tryd.prog 90 = some .one := by kernel_rfl
theorem sl23 : slE Tryd.prog 23 = some (5, 1) := by kernel_rfl
theorem sl43 : slE Tryd.prog 43 = some (3, 1) := by kernel_rfl
theorem sl55 : slE Tryd.prog 55 = some (59, 3) := by kernel_rfl
theorem sl66 : slE Tryd.prog 66 = some (74, 4) := by kernel_rfl
theorem sl90 : slE Tryd.prog 90 = some (87, 1) := by kernel_rfl
theorem sz23 : szP Tryd.prog 23 = some 1 := by kernel_rfl
theorem sz3 : szP Tryd.prog 3 = some 1 := by kernel_rfl
theorem sz38 : szP Tryd.prog 38 = some 5 := by kernel_rfl
theorem sz5 : szP Tryd.prog 5 = some 1 := by kernel_rfl
theorem sz55 : szP Tryd.prog 55 = some 1 := by kernel_rfl
theorem sz59 : szP Tryd.prog 59 = some 3 := by kernel_rfl
theorem sz74 : szP Tryd.prog 74 = some 4 := by kernel_rfl
theorem sz87 : szP Tryd.prog 87 = some 1 := by kernel_rfl
theorem sz90 : szP Tryd.prog 90 = some 1 := by kernel_rfl
theorem zc38 : zc Tryd.prog 38 = some [(.int .i64 0), (.int .i64 0), (.int .i64 0), (.int .i64 0), (.int .i64 0)] := by kernel_rfl
theorem zc42 : zc Tryd.prog 42 = some [(.int .i64 0), (.int .i64 0), (.int .i64 0), (.int .i64 0), (.int .i64 0), (.int .i64 0), (.int .i64 0), (.int .i64 0), (.int .i64 0), (.int .i64 0), (.int .i64 0), (.int .i64 0), (.int .i64 0), (.int .i64 0), (.int .i64 0), (.int .i64 0), (.int .i64 0), (.int .i64 0), (.int .i64 0), (.int .i64 0)] := by kernel_rfl
theorem zc59 : zc Tryd.prog 59 = some [(.string ⟨#[]⟩), (.int .i64 0), (.int .i64 0)] := by kernel_rfl
theorem zc69 : zc Tryd.prog 69 = some [(.int .i64 0), (.int .i64 0), (.slice none 0 0), (.slice none 0 0), (.int .i64 0), (.int .i64 0), (.int .i64 0)] := by kernel_rfl
theorem zc72 : zc Tryd.prog 72 = some [(.map none)] := by kernel_rfl
theorem zc74 : zc Tryd.prog 74 = some [(.string ⟨#[]⟩), (.int .i64 0), (.int .i64 0), (.slice none 0 0)] := by kernel_rfl
theorem zc89 : zc Tryd.prog 89 = some [(.int .i64 0), (.int .i64 0), (.int .i64 0), (.slice none 0 0), (.slice none 0 0), (.int .i64 0), (.int .i64 0), (.int .i64 0)] := by kernel_rfl
theorem zc92 : zc Tryd.prog 92 = some [(.slice none 0 0)] := by kernel_rfl
theorem ze3 : zeroP Tryd.prog 3 = some (.int .i64 0) := by kernel_rfl
theorem ze5 : zeroP Tryd.prog 5 = some (.int .u8 0) := by kernel_rfl
theorem ze59 : zeroP Tryd.prog 59 = some (.agg #[(.string ⟨#[]⟩), (.int .i64 0), (.int .i64 0)]) := by kernel_rfl
theorem ze67 : zeroP Tryd.prog 67 = some (.pointer none) := by kernel_rfl
theorem ze74 : zeroP Tryd.prog 74 = some (.agg #[(.string ⟨#[]⟩), (.int .i64 0), (.int .i64 0), (.slice none 0 0)]) := by kernel_rfl
theorem ze87 : zeroP Tryd.prog 87 = some (.pointer none) := by kernel_rfl
-- marionette/marionettelaw15.NodeNumbers
abbrev kp4 : List Nat := [2]
def s4 : SC :=
 .seq (.ops [⟨some 2, .assign (.const (.bool false)), false, none⟩]) <|
 .seq (.keep [0]) <|
 .seq (.ops [⟨some 16, .call ⟨.value (.func 7), #[(.const (.slice none 0 0))], #[66]⟩, true, none⟩,
  ⟨some 15, .move (.tmp 16), false, none⟩,
  ⟨some 17, .extract (.tmp 15) 0, false, none⟩,
  ⟨some 18, .extract (.tmp 15) 1, false, none⟩,
  ⟨some 3, .assign (.tmp 17), false, none⟩,
  ⟨some 4, .assign (.tmp 18), false, none⟩]) <|
 .seq (.keep [0, 3, 4]) <|
 .seq (.seq (.ops [⟨some 19, .call ⟨.value (.func 8), #[], #[]⟩, true, none⟩,
  ⟨some 20, .unOp .not 4 (.tmp 19), false, none⟩,
  ⟨some 21, .move (.tmp 20), false, none⟩,
  ⟨some 22, .move (.tmp 4), false, some (21, false)⟩,
  ⟨some 23, .binOp .neq 26 (.tmp 22) (.const (.int .i64 0)) 26, false, some (21, false)⟩,
  ⟨some 24, .pick (.tmp 21) (.const (.bool true)) (.tmp 23), false, none⟩]) <|
 .seq (.keep [0, 3, 24]) <|
 .cond (.tmp 24) (.seq (.ops [⟨some 2, .assign (.const (.bool false)), false, none⟩]) <|
 .seq (.keep [2]) <|
 .ret) <|
 .skip) <|
 .seq (.keep [0, 3]) <|
 .seq (.ops [⟨some 5, .alloc 42, true, none⟩]) <|
 .seq (.keep [0, 3, 5]) <|
 .seq (.ops [⟨some 25, .makeSlice 43 (.const (.int .i64 40)) (.const (.int .i64 40)), true, none⟩,
  ⟨some 6, .assign (.tmp 25), false, none⟩]) <|
 .seq (.keep [0, 3, 5, 6]) <|
 .seq (.ops [⟨some 26, .move (.tmp 6), false, none⟩,
  ⟨some 27, .indexAddr 43 (.tmp 26) (.const (.int .i64 1)), false, none⟩,
  ⟨none, .store 3 (.tmp 27) (.const (.int .i64 1)), true, none⟩]) <|
 .seq (.keep [0, 3, 5, 6]) <|
 .seq (.seq (.ops [⟨some 7, .assign (.const (.int .i64 0)), false, none⟩]) <|
 .seq (.keep [0, 3, 5, 6, 7]) <|
 .block 0 <| .loop <| .seq (.seq (.seq (.ops [⟨some 28, .move (.tmp 7), false, none⟩,
  ⟨some 29, .move (.tmp 0), false, none⟩,
  ⟨some 30, .call ⟨.builtin .len, #[(.tmp 29)], #[23]⟩, false, none⟩,
  ⟨some 31, .binOp .lss 3 (.tmp 28) (.tmp 30) 3, false, none⟩,
  ⟨some 32, .move (.tmp 31), false, none⟩,
  ⟨some 33, .move (.tmp 7), false, some (32, true)⟩,
  ⟨some 34, .binOp .lss 3 (.tmp 33) (.const (.int .i64 100)) 3, false, some (32, true)⟩,
  ⟨some 35, .pick (.tmp 32) (.tmp 34) (.const (.bool false)), false, none⟩]) <|
 .seq (.keep [0, 3, 5, 6, 7, 35]) <|
 .cond (.tmp 35) (.skip) <|
 .exit 0) <|
 .seq (.keep [0, 3, 5, 6, 7]) <|
 .seq (.block 1 <| .seq (.ops [⟨some 38, .move (.tmp 0), false, none⟩,
  ⟨some 39, .move (.tmp 7), false, none⟩,
  ⟨some 40, .indexAddr 23 (.tmp 38) (.tmp 39), false, none⟩,
  ⟨some 41, .load 5 (.tmp 40), false, none⟩,
  ⟨some 42, .binOp .rem 5 (.tmp 41) (.const (.int .u8 20)) 5, false, none⟩,
  ⟨some 43, .convert 5 3 (.tmp 42), false, none⟩,
  ⟨some 8, .assign (.tmp 43), false, none⟩]) <|
 .seq (.keep [0, 3, 5, 6, 7, 8]) <|
 .seq (.ops [⟨some 44, .move (.tmp 8), false, none⟩,
  ⟨some 45, .call ⟨.value (.func 15), #[(.tmp 44)], #[3]⟩, true, none⟩,
  ⟨some 46, .binOp .add 9 (.const (.string ⟨#[110]⟩)) (.tmp 45) 9, false, none⟩,
  ⟨some 9, .assign (.tmp 46), false, none⟩]) <|
 .seq (.keep [0, 3, 5, 6, 7, 8, 9]) <|
 .seq (.ops [⟨some 47, .move (.tmp 8), false, none⟩,
  ⟨some 48, .indexAddr 42 (.tmp 5) (.tmp 47), false, none⟩,
  ⟨some 49, .load 3 (.tmp 48), false, none⟩,
  ⟨some 50, .binOp .eql 3 (.tmp 49) (.const (.int .i64 0)) 3, false, none⟩]) <|
 .seq (.keep [0, 3, 5, 6, 7, 8, 9, 50]) <|
 .cond (.tmp 50) (.seq (.ops [⟨some 10, .assign (.const (.int .i64 1)), false, none⟩]) <|
 .seq (.keep [0, 3, 5, 6, 7, 8, 9, 10]) <|
 .seq (.block 2 <| .loop <| .seq (.seq (.seq (.ops [⟨some 51, .move (.tmp 6), false, none⟩,
  ⟨some 52, .move (.tmp 10), false, none⟩,
  ⟨some 53, .indexAddr 43 (.tmp 51) (.tmp 52), false, none⟩,
  ⟨some 54, .load 3 (.tmp 53), false, none⟩,
  ⟨some 55, .binOp .eql 3 (.tmp 54) (.const (.int .i64 1)) 3, false, none⟩]) <|
 .seq (.keep [0, 3, 5, 6, 7, 8, 9, 10, 55]) <|
 .cond (.tmp 55) (.skip) <|
 .exit 2) <|
 .seq (.keep [0, 3, 5, 6, 7, 8, 9, 10]) <|
 .block 3 <| .ops [⟨some 56, .move (.tmp 10), false, none⟩,
  ⟨some 57, .binOp .add 3 (.tmp 56) (.const (.int .i64 1)) 3, false, none⟩,
  ⟨some 10, .assign (.tmp 57), false, none⟩]) <|
 .keep [0, 3, 5, 6, 7, 8, 9, 10]) <|
 .seq (.keep [0, 3, 5, 6, 7, 8, 9, 10]) <|
 .seq (.ops [⟨some 59, .move (.tmp 3), false, none⟩,
  ⟨some 60, .move (.tmp 9), false, none⟩,
  ⟨some 61, .move (.tmp 0), false, none⟩,
  ⟨some 62, .move (.tmp 7), false, none⟩,
  ⟨some 63, .indexAddr 23 (.tmp 61) (.tmp 62), false, none⟩,
  ⟨some 64, .load 5 (.tmp 63), false, none⟩,
  ⟨some 65, .buildSlice 23 1 #[(0, (.tmp 64))], true, none⟩,
  ⟨some 66, .call ⟨.value (.func 9), #[(.tmp 59), (.const (.int .i64 1)), (.tmp 60), (.const (.int .i64 1)), (.const (.int .i64 0)), (.tmp 65)], #[25, 3, 9, 3, 3, 23]⟩, true, none⟩,
  ⟨some 58, .move (.tmp 66), false, none⟩,
  ⟨some 67, .extract (.tmp 58) 0, false, none⟩,
  ⟨some 68, .extract (.tmp 58) 1, false, none⟩,
  ⟨some 11, .assign (.tmp 67), false, none⟩,
  ⟨some 12, .assign (.tmp 68), false, none⟩]) <|
 .seq (.keep [0, 3, 5, 6, 7, 8, 10, 11, 12]) <|
 .seq (.ops [⟨some 70, .move (.tmp 3), false, none⟩,
  ⟨some 71, .move (.tmp 11), false, none⟩,
  ⟨some 72, .call ⟨.value (.func 11), #[(.tmp 70), (.tmp 71), (.const (.int .i64 0)), (.const (.int .i64 5))], #[25, 3, 3, 3]⟩, true, none⟩,
  ⟨some 69, .move (.tmp 72), false, none⟩,
  ⟨some 73, .extract (.tmp 69) 0, false, none⟩,
  ⟨some 74, .extract (.tmp 69) 1, false, none⟩,
  ⟨some 13, .assign (.tmp 73), false, none⟩,
  ⟨some 14, .assign (.tmp 74), false, none⟩]) <|
 .seq (.keep [0, 3, 5, 6, 7, 8, 10, 11, 12, 13, 14]) <|
 .seq (.seq (.seq (.ops [⟨some 75, .move (.tmp 12), false, none⟩]) <|
 .seq (.ops [⟨some 76, .binOp .neq 26 (.tmp 75) (.const (.int .i64 0)) 26, false, none⟩]) <|
 .seq (.ops [⟨some 77, .move (.tmp 76), false, none⟩]) <|
 .seq (.ops [⟨some 78, .move (.tmp 11), false, some (77, false)⟩]) <|
 .seq (.ops [⟨some 79, .move (.tmp 10), false, some (77, false)⟩]) <|
 .seq (.ops [⟨some 80, .binOp .neq 3 (.tmp 78) (.tmp 79) 3, false, some (77, false)⟩]) <|
 .seq (.ops [⟨some 81, .pick (.tmp 77) (.const (.bool true)) (.tmp 80), false, none⟩]) <|
 .seq (.ops [⟨some 82, .move (.tmp 81), false, none⟩]) <|
 .seq (.ops [⟨some 83, .move (.tmp 14), false, some (82, false)⟩]) <|
 .seq (.ops [⟨some 84, .binOp .neq 26 (.tmp 83) (.const (.int .i64 0)) 26, false, some (82, false)⟩]) <|
 .seq (.ops [⟨some 85, .pick (.tmp 82) (.const (.bool true)) (.tmp 84), false, none⟩]) <|
 .seq (.ops [⟨some 86, .move (.tmp 85), false, none⟩]) <|
 .seq (.ops [⟨some 87, .move (.tmp 13), false, some (86, false)⟩]) <|
 .seq (.ops [⟨some 88, .call ⟨.builtin .len, #[(.tmp 87)], #[23]⟩, false, some (86, false)⟩]) <|
 .seq (.ops [⟨some 89, .binOp .neq 3 (.tmp 88) (.const (.int .i64 1)) 3, false, some (86, false)⟩]) <|
 .seq (.ops [⟨some 90, .pick (.tmp 86) (.const (.bool true)) (.tmp 89), false, none⟩]) <|
 .seq (.ops [⟨some 91, .move (.tmp 90), false, none⟩]) <|
 .seq (.ops [⟨some 92, .move (.tmp 13), false, some (91, false)⟩]) <|
 .seq (.ops [⟨some 93, .indexAddr 23 (.tmp 92) (.const (.int .i64 0)), false, some (91, false)⟩]) <|
 .seq (.ops [⟨some 94, .load 5 (.tmp 93), false, some (91, false)⟩]) <|
 .seq (.ops [⟨some 95, .move (.tmp 0), false, some (91, false)⟩]) <|
 .seq (.ops [⟨some 96, .move (.tmp 7), false, some (91, false)⟩]) <|
 .seq (.ops [⟨some 97, .indexAddr 23 (.tmp 95) (.tmp 96), false, some (91, false)⟩]) <|
 .seq (.ops [⟨some 98, .load 5 (.tmp 97), false, some (91, false)⟩]) <|
 .seq (.ops [⟨some 99, .binOp .neq 5 (.tmp 94) (.tmp 98) 5, false, some (91, false)⟩]) <|
 .seq (.ops [⟨some 100, .pick (.tmp 91) (.const (.bool true)) (.tmp 99), false, none⟩]) <|
 .skip) <|
 .seq (.keep [0, 3, 5, 6, 7, 8, 11, 100]) <|
 .cond (.tmp 100) (.seq (.ops [⟨some 2, .assign (.const (.bool false)), false, none⟩]) <|
 .seq (.keep [2]) <|
 .ret) <|
 .skip) <|
 .seq (.keep [0, 3, 5, 6, 7, 8, 11]) <|
 .seq (.ops [⟨some 101, .move (.tmp 8), false, none⟩,
  ⟨some 102, .move (.tmp 11), false, none⟩,
  ⟨some 103, .indexAddr 42 (.tmp 5) (.tmp 101), false, none⟩,
  ⟨none, .store 3 (.tmp 103) (.tmp 102), true, none⟩]) <|
 .seq (.keep [0, 3, 5, 6, 7, 11]) <|
 .ops [⟨some 104, .move (.tmp 6), false, none⟩,
  ⟨some 105, .move (.tmp 11), false, none⟩,
  ⟨some 106, .indexAddr 43 (.tmp 104) (.tmp 105), false, none⟩,
  ⟨none, .store 3 (.tmp 106) (.const (.int .i64 1)), true, none⟩]) <|
 .seq (.seq (.ops [⟨some 107, .move (.tmp 3), false, none⟩,
  ⟨some 108, .move (.tmp 9), false, none⟩,
  ⟨some 109, .call ⟨.value (.func 16), #[(.tmp 107), (.const (.int .i64 1)), (.tmp 108), (.const (.bool false))], #[25, 3, 9, 4]⟩, true, none⟩,
  ⟨some 110, .binOp .neq 26 (.tmp 109) (.const (.int .i64 0)) 26, false, none⟩]) <|
 .seq (.keep [0, 3, 5, 6, 7, 8, 110]) <|
 .cond (.tmp 110) (.seq (.ops [⟨some 2, .assign (.const (.bool false)), false, none⟩]) <|
 .seq (.keep [2]) <|
 .ret) <|
 .skip) <|
 .seq (.keep [0, 3, 5, 6, 7, 8]) <|
 .seq (.ops [⟨some 111, .move (.tmp 6), false, none⟩,
  ⟨some 112, .move (.tmp 8), false, none⟩,
  ⟨some 113, .indexAddr 42 (.tmp 5) (.tmp 112), false, none⟩,
  ⟨some 114, .load 3 (.tmp 113), false, none⟩,
  ⟨some 115, .indexAddr 43 (.tmp 111) (.tmp 114), false, none⟩,
  ⟨none, .store 3 (.tmp 115) (.const (.int .i64 0)), true, none⟩]) <|
 .seq (.keep [0, 3, 5, 6, 7, 8]) <|
 .ops [⟨some 116, .move (.tmp 8), false, none⟩,
  ⟨some 117, .indexAddr 42 (.tmp 5) (.tmp 116), false, none⟩,
  ⟨none, .store 3 (.tmp 117) (.const (.int .i64 0)), true, none⟩]) <|
 .seq (.keep [0, 3, 5, 6, 7]) <|
 .ops [⟨some 36, .move (.tmp 7), false, none⟩,
  ⟨some 37, .binOp .add 3 (.tmp 36) (.const (.int .i64 1)) 3, false, none⟩,
  ⟨some 7, .assign (.tmp 37), false, none⟩]) <|
 .keep [0, 3, 5, 6, 7]) <|
 .seq (.keep []) <|
 .seq (.ops [⟨some 2, .assign (.const (.bool true)), false, none⟩]) <|
 .seq (.keep [2]) <|
 .ret
theorem c4 : Tryd.f4.body.map (fun c => ((compile Tryd.prog kp4 [] kp4 c).map (·.1), fits Tryd.f4.ntmps c)) = some (some s4, true) := by kernel_rfl
theorem r4 : Tryd.f4.results.toList = [.tmp 2] := by kernel_rfl
-- marionette/node.New
abbrev kp7 : List Nat := [2, 3]
def s7 : SC :=
 .seq (.ops [⟨some 2, .assign (.const (.pointer none)), false, none⟩,
  ⟨some 3, .assign (.const (.int .i64 0)), false, none⟩]) <|
 .seq (.keep [0]) <|
 .seq (.ops [⟨some 8, .makeMap 70 none, true, none⟩,
  ⟨some 9, .build 69 #[(0, (.const (.int .i64 2))), (1, (.const (.int .i64 493))), (4, (.const (.int .i64 1)))], false, none⟩,
  ⟨some 10, .box 69 (.tmp 9), true, none⟩,
  ⟨none, .insert 70 (.tmp 8) (.const (.int .i64 1)) (.tmp 10), true, none⟩,
  ⟨some 11, .move (.tmp 8), false, none⟩,
  ⟨some 12, .build 72 #[(0, (.tmp 11))], false, none⟩,
  ⟨some 13, .box 72 (.tmp 12), true, none⟩,
  ⟨some 4, .assign (.tmp 13), false, none⟩]) <|
 .seq (.keep [0, 4]) <|
 .seq (.seq (.ops [⟨some 14, .move (.tmp 0), false, none⟩,
  ⟨some 15, .call ⟨.builtin .len, #[(.tmp 14)], #[66]⟩, false, none⟩,
  ⟨some 16, .move (.const (.int .i64 0)), false, none⟩]) <|
 .seq (.keep [4, 14, 15, 16]) <|
 .block 0 <| .loop <| .seq (.seq (.ops [⟨some 17, .binOp .lss 3 (.tmp 16) (.tmp 15) 3, false, none⟩]) <|
 .seq (.keep [4, 14, 15, 16, 17]) <|
 .seq (.cond (.tmp 17) (.skip) <|
 .exit 0) <|
 .seq (.keep [4, 14, 15, 16]) <|
 .seq (.block 1 <| .seq (.ops [⟨some 18, .indexAddr 66 (.tmp 14) (.tmp 16), false, none⟩,
  ⟨some 19, .load 74 (.tmp 18), false, none⟩,
  ⟨some 6, .alloc 74, true, none⟩,
  ⟨none, .store 74 (.tmp 6) (.tmp 19), true, none⟩]) <|
 .seq (.keep [4, 6, 14, 15, 16]) <|
 .seq (.ops [⟨some 20, .move (.tmp 4), false, none⟩,
  ⟨some 21, .load 74 (.tmp 6), false, none⟩,
  ⟨some 22, .call ⟨.value (.func 27), #[(.tmp 20), (.tmp 21)], #[25, 74]⟩, true, none⟩,
  ⟨some 7, .assign (.tmp 22), false, none⟩]) <|
 .seq (.keep [4, 7, 14, 15, 16]) <|
 .seq (.ops [⟨some 23, .move (.tmp 7), false, none⟩,
  ⟨some 24, .binOp .neq 26 (.tmp 23) (.const (.int .i64 0)) 26, false, none⟩]) <|
 .seq (.keep [4, 7, 14, 15, 16, 24]) <|
 .cond (.tmp 24) (.seq (.ops [⟨some 25, .move (.tmp 7), false, none⟩,
  ⟨some 2, .assign (.const (.pointer none)), false, none⟩,
  ⟨some 3, .assign (.tmp 25), false, none⟩]) <|
 .seq (.keep [2, 3]) <|
 .ret) <|
 .skip) <|
 .seq (.keep [4, 14, 15, 16]) <|
 .ops [⟨some 26, .binOp .add 3 (.tmp 16) (.const (.int .i64 1)) 3, false, none⟩,
  ⟨some 16, .move (.tmp 26), false, none⟩]) <|
 .keep [4, 14, 15, 16]) <|
 .seq (.keep [4]) <|
 .seq (.ops [⟨some 27, .move (.tmp 4), false, none⟩,
  ⟨some 2, .assign (.tmp 27), false, none⟩,
  ⟨some 3, .assign (.const (.int .i64 0)), false, none⟩]) <|
 .seq (.keep [2, 3]) <|
 .ret
theorem c7 : Tryd.f7.body.map (fun c => ((compile Tryd.prog kp7 [] kp7 c).map (·.1), fits Tryd.f7.ntmps c)) = some (some s7, true) := by kernel_rfl
theorem r7 : Tryd.f7.results.toList = [.tmp 2, .tmp 3] := by kernel_rfl
-- marionette/marionettelaw15.answers
abbrev kp8 : List Nat := [0]
def s8 : SC :=
 .seq (.ops [⟨some 0, .assign (.const (.bool false)), false, none⟩]) <|
 .seq (.keep []) <|
 .seq (.ops [⟨some 6, .call ⟨.value (.func 7), #[(.const (.slice none 0 0))], #[66]⟩, true, none⟩,
  ⟨some 5, .move (.tmp 6), false, none⟩,
  ⟨some 7, .extract (.tmp 5) 0, false, none⟩,
  ⟨some 8, .extract (.tmp 5) 1, false, none⟩,
  ⟨some 1, .assign (.tmp 7), false, none⟩,
  ⟨some 2, .assign (.tmp 8), false, none⟩]) <|
 .seq (.keep [1, 2]) <|
 .seq (.seq (.ops [⟨some 9, .move (.tmp 2), false, none⟩,
  ⟨some 10, .binOp .neq 26 (.tmp 9) (.const (.int .i64 0)) 26, false, none⟩,
  ⟨some 11, .move (.tmp 10), false, none⟩,
  ⟨some 12, .move (.tmp 1), false, some (11, false)⟩,
  ⟨some 13, .binOp .eql 25 (.tmp 12) (.const (.pointer none)) 25, false, some (11, false)⟩,
  ⟨some 14, .pick (.tmp 11) (.const (.bool true)) (.tmp 13), false, none⟩]) <|
 .seq (.keep [1, 14]) <|
 .cond (.tmp 14) (.seq (.ops [⟨some 0, .assign (.const (.bool false)), false, none⟩]) <|
 .seq (.keep [0]) <|
 .ret) <|
 .skip) <|
 .seq (.keep [1]) <|
 .seq (.ops [⟨some 16, .move (.tmp 1), false, none⟩,
  ⟨some 17, .buildSlice 23 1 #[(0, (.const (.int .u8 120)))], true, none⟩,
  ⟨some 18, .convert 23 23 (.tmp 17), true, none⟩,
  ⟨some 19, .call ⟨.value (.func 9), #[(.tmp 16), (.const (.int .i64 1)), (.const (.string ⟨#[97]⟩)), (.const (.int .i64 1)), (.const (.int .i64 420)), (.tmp 18)], #[25, 3, 9, 3, 3, 23]⟩, true, none⟩,
  ⟨some 15, .move (.tmp 19), false, none⟩,
  ⟨some 20, .extract (.tmp 15) 0, false, none⟩,
  ⟨some 21, .extract (.tmp 15) 1, false, none⟩,
  ⟨some 3, .assign (.tmp 20), false, none⟩,
  ⟨some 4, .assign (.tmp 21), false, none⟩]) <|
 .seq (.keep [1, 3, 4]) <|
 .seq (.ops [⟨some 22, .move (.tmp 4), false, none⟩,
  ⟨some 23, .binOp .eql 26 (.tmp 22) (.const (.int .i64 0)) 26, false, none⟩,
  ⟨some 24, .move (.tmp 23), false, none⟩,
  ⟨some 25, .move (.tmp 3), false, some (24, true)⟩,
  ⟨some 26, .binOp .eql 3 (.tmp 25) (.const (.int .i64 2)) 3, false, some (24, true)⟩,
  ⟨some 27, .pick (.tmp 24) (.tmp 26) (.const (.bool false)), false, none⟩,
  ⟨some 28, .move (.tmp 27), false, none⟩,
  ⟨some 29, .move (.tmp 1), false, some (28, true)⟩,
  ⟨some 30, .call ⟨.value (.func 26), #[(.tmp 29)], #[25]⟩, true, some (28, true)⟩,
  ⟨some 31, .binOp .eql 3 (.tmp 30) (.const (.int .i64 2)) 3, false, some (28, true)⟩,
  ⟨some 32, .pick (.tmp 28) (.tmp 31) (.const (.bool false)), false, none⟩,
  ⟨some 0, .assign (.tmp 32), false, none⟩]) <|
 .seq (.keep [0]) <|
 .ret
theorem c8 : Tryd.f8.body.map (fun c => ((compile Tryd.prog kp8 [] kp8 c).map (·.1), fits Tryd.f8.ntmps c)) = some (some s8, true) := by kernel_rfl
theorem r8 : Tryd.f8.results.toList = [.tmp 0] := by kernel_rfl
-- (*marionette/node.Tree).Make
abbrev kp9 : List Nat := [12, 13]
def s9 : SC :=
 .seq (.ops [⟨some 12, .assign (.const (.int .i64 0)), false, none⟩,
  ⟨some 13, .assign (.const (.int .i64 0)), false, none⟩]) <|
 .seq (.keep [0, 1, 2, 3, 4, 5]) <|
 .seq (.ops [⟨some 19, .move (.tmp 0), false, none⟩,
  ⟨some 20, .move (.tmp 1), false, none⟩,
  ⟨some 21, .move (.tmp 2), false, none⟩,
  ⟨some 22, .call ⟨.value (.func 28), #[(.tmp 19), (.tmp 20), (.tmp 21)], #[25, 3, 9]⟩, true, none⟩,
  ⟨some 18, .move (.tmp 22), false, none⟩,
  ⟨some 23, .extract (.tmp 18) 0, false, none⟩,
  ⟨some 24, .extract (.tmp 18) 1, false, none⟩,
  ⟨some 14, .assign (.tmp 23), false, none⟩,
  ⟨some 15, .assign (.tmp 24), false, none⟩]) <|
 .seq (.keep [0, 1, 2, 3, 4, 5, 14, 15]) <|
 .seq (.block 0 <| .seq (.seq (.ops [⟨some 26, .move (.tmp 15), false, none⟩,
  ⟨some 27, .binOp .eql 26 (.tmp 26) (.const (.int .i64 2)) 26, false, none⟩,
  ⟨some 28, .move (.tmp 27), false, none⟩,
  ⟨some 29, .move (.tmp 0), false, some (28, true)⟩,
  ⟨some 30, .move (.tmp 1), false, some (28, true)⟩,
  ⟨some 31, .call ⟨.value (.func 29), #[(.tmp 29), (.tmp 30)], #[25, 3]⟩, true, some (28, true)⟩,
  ⟨some 32, .binOp .eql 67 (.tmp 31) (.const (.pointer none)) 67, false, some (28, true)⟩,
  ⟨some 33, .pick (.tmp 28) (.tmp 32) (.const (.bool false)), false, none⟩,
  ⟨some 25, .assign (.tmp 33), false, none⟩]) <|
 .seq (.keep [0, 1, 2, 3, 4, 5, 14, 15, 25]) <|
 .cond (.tmp 25) (.skip) <|
 .ops [⟨some 34, .move (.tmp 15), false, none⟩,
  ⟨some 35, .binOp .eql 26 (.tmp 34) (.const (.int .i64 20)) 26, false, none⟩,
  ⟨some 25, .assign (.tmp 35), false, none⟩]) <|
 .seq (.keep [0, 1, 2, 3, 4, 5, 14, 15, 25]) <|
 .cond (.tmp 25) (.seq (.ops [⟨some 36, .move (.tmp 15), false, none⟩,
  ⟨some 12, .assign (.const (.int .i64 0)), false, none⟩,
  ⟨some 13, .assign (.tmp 36), false, none⟩]) <|
 .seq (.keep [12, 13]) <|
 .ret) <|
 .seq (.ops [⟨some 38, .move (.tmp 3), false, none⟩,
  ⟨some 39, .move (.tmp 4), false, none⟩,
  ⟨some 40, .move (.tmp 5), false, none⟩,
  ⟨some 41, .call ⟨.value (.func 30), #[(.tmp 38), (.tmp 39), (.tmp 40)], #[3, 3, 23]⟩, true, none⟩,
  ⟨some 42, .unOp .not 4 (.tmp 41), false, none⟩,
  ⟨some 37, .assign (.tmp 42), false, none⟩]) <|
 .seq (.keep [0, 1, 2, 3, 4, 5, 14, 15, 37]) <|
 .cond (.tmp 37) (.seq (.ops [⟨some 12, .assign (.const (.int .i64 0)), false, none⟩,
  ⟨some 13, .assign (.const (.int .i64 22)), false, none⟩]) <|
 .seq (.keep [12, 13]) <|
 .ret) <|
 .seq (.ops [⟨some 44, .move (.tmp 15), false, none⟩,
  ⟨some 45, .binOp .neq 26 (.tmp 44) (.const (.int .i64 0)) 26, false, none⟩,
  ⟨some 43, .assign (.tmp 45), false, none⟩]) <|
 .seq (.keep [0, 1, 2, 3, 4, 5, 14, 15, 43]) <|
 .cond (.tmp 43) (.seq (.ops [⟨some 46, .move (.tmp 15), false, none⟩,
  ⟨some 12, .assign (.const (.int .i64 0)), false, none⟩,
  ⟨some 13, .assign (.tmp 46), false, none⟩]) <|
 .seq (.keep [12, 13]) <|
 .ret) <|
 .seq (.ops [⟨some 48, .move (.tmp 0), false, none⟩,
  ⟨some 49, .nilCheck (.tmp 48), false, none⟩,
  ⟨some 50, .fieldAddr 72 (.tmp 49) 0, false, none⟩,
  ⟨some 51, .load 70 (.tmp 50), false, none⟩,
  ⟨some 52, .call ⟨.builtin .len, #[(.tmp 51)], #[70]⟩, false, none⟩,
  ⟨some 53, .binOp .geq 3 (.tmp 52) (.const (.int .i64 1024)) 3, false, none⟩,
  ⟨some 47, .assign (.tmp 53), false, none⟩]) <|
 .seq (.keep [0, 1, 2, 3, 4, 5, 14, 47]) <|
 .cond (.tmp 47) (.seq (.ops [⟨some 12, .assign (.const (.int .i64 0)), false, none⟩,
  ⟨some 13, .assign (.const (.int .i64 28)), false, none⟩]) <|
 .seq (.keep [12, 13]) <|
 .ret) <|
 .skip) <|
 .seq (.keep [0, 1, 2, 3, 4, 5, 14]) <|
 .seq (.ops [⟨some 54, .move (.tmp 0), false, none⟩,
  ⟨some 55, .call ⟨.value (.func 31), #[(.tmp 54)], #[25]⟩, true, none⟩,
  ⟨some 16, .assign (.tmp 55), false, none⟩]) <|
 .seq (.keep [0, 1, 2, 3, 4, 5, 14, 16]) <|
 .seq (.ops [⟨some 56, .move (.tmp 3), false, none⟩,
  ⟨some 57, .move (.tmp 4), false, none⟩,
  ⟨some 58, .move (.tmp 5), false, none⟩,
  ⟨some 59, .call ⟨.value (.func 32), #[(.tmp 58)], #[23]⟩, true, none⟩,
  ⟨some 60, .build 69 #[(0, (.tmp 56)), (1, (.tmp 57)), (2, (.tmp 59)), (5, (.const (.int .i64 1)))], false, none⟩,
  ⟨some 61, .box 69 (.tmp 60), true, none⟩,
  ⟨some 17, .assign (.tmp 61), false, none⟩]) <|
 .seq (.keep [0, 1, 2, 3, 14, 16, 17]) <|
 .seq (.seq (.ops [⟨some 62, .move (.tmp 3), false, none⟩,
  ⟨some 63, .binOp .eql 3 (.tmp 62) (.const (.int .i64 2)) 3, false, none⟩]) <|
 .seq (.keep [0, 1, 2, 3, 14, 16, 17, 63]) <|
 .cond (.tmp 63) (.ops [⟨some 64, .move (.tmp 17), false, none⟩,
  ⟨some 65, .move (.tmp 1), false, none⟩,
  ⟨some 66, .nilCheck (.tmp 64), false, none⟩,
  ⟨some 67, .fieldAddr 69 (.tmp 66) 4, false, none⟩,
  ⟨none, .store 3 (.tmp 67) (.tmp 65), true, none⟩]) <|
 .skip) <|
 .seq (.keep [0, 2, 3, 14, 16, 17]) <|
 .seq (.ops [⟨some 68, .move (.tmp 0), false, none⟩,
  ⟨some 69, .nilCheck (.tmp 68), false, none⟩,
  ⟨some 70, .fieldAddr 72 (.tmp 69) 0, false, none⟩,
  ⟨some 71, .load 70 (.tmp 70), false, none⟩,
  ⟨some 72, .move (.tmp 16), false, none⟩,
  ⟨some 73, .move (.tmp 17), false, none⟩,
  ⟨none, .mapUpdate 70 (.tmp 71) (.tmp 72) (.tmp 73), true, none⟩]) <|
 .seq (.keep [2, 3, 14, 16]) <|
 .seq (.ops [⟨some 74, .move (.tmp 14), false, none⟩,
  ⟨some 75, .move (.tmp 14), false, none⟩,
  ⟨some 76, .nilCheck (.tmp 75), false, none⟩,
  ⟨some 77, .fieldAddr 69 (.tmp 76) 3, false, none⟩,
  ⟨some 78, .load 55 (.tmp 77), false, none⟩,
  ⟨some 79, .move (.tmp 2), false, none⟩,
  ⟨some 80, .move (.tmp 16), false, none⟩,
  ⟨some 81, .move (.tmp 3), false, none⟩,
  ⟨some 82, .build 59 #[(0, (.tmp 79)), (1, (.tmp 80)), (2, (.tmp 81))], false, none⟩,
  ⟨some 83, .buildSlice 55 1 #[(0, (.tmp 82))], true, none⟩,
  ⟨some 84, .call ⟨.builtin .append, #[(.tmp 78), (.tmp 83)], #[55, 55]⟩, true, none⟩,
  ⟨some 85, .nilCheck (.tmp 74), false, none⟩,
  ⟨some 86, .fieldAddr 69 (.tmp 85) 3, false, none⟩,
  ⟨none, .store 55 (.tmp 86) (.tmp 84), true, none⟩]) <|
 .seq (.keep [16]) <|
 .seq (.ops [⟨some 87, .move (.tmp 16), false, none⟩,
  ⟨some 12, .assign (.tmp 87), false, none⟩,
  ⟨some 13, .assign (.const (.int .i64 0)), false, none⟩]) <|
 .seq (.keep [12, 13]) <|
 .ret
theorem c9 : Tryd.f9.body.map (fun c => ((compile Tryd.prog kp9 [] kp9 c).map (·.1), fits Tryd.f9.ntmps c)) = some (some s9, true) := by kernel_rfl
theorem r9 : Tryd.f9.results.toList = [.tmp 12, .tmp 13] := by kernel_rfl
-- (*marionette/node.Tree).Write
abbrev kp10 : List Nat := [8, 9]
def s10 : SC :=
 .seq (.ops [⟨some 8, .assign (.const (.int .i64 0)), false, none⟩,
  ⟨some 9, .assign (.const (.int .i64 0)), false, none⟩]) <|
 .seq (.keep [0, 1, 2, 3]) <|
 .seq (.ops [⟨some 14, .move (.tmp 0), false, none⟩,
  ⟨some 15, .move (.tmp 1), false, none⟩,
  ⟨some 16, .call ⟨.value (.func 33), #[(.tmp 14), (.tmp 15)], #[25, 3]⟩, true, none⟩,
  ⟨some 13, .move (.tmp 16), false, none⟩,
  ⟨some 17, .extract (.tmp 13) 0, false, none⟩,
  ⟨some 18, .extract (.tmp 13) 1, false, none⟩,
  ⟨some 10, .assign (.tmp 17), false, none⟩,
  ⟨some 11, .assign (.tmp 18), false, none⟩]) <|
 .seq (.keep [2, 3, 10, 11]) <|
 .seq (.block 0 <| .seq (.ops [⟨some 20, .move (.tmp 11), false, none⟩,
  ⟨some 21, .binOp .neq 26 (.tmp 20) (.const (.int .i64 0)) 26, false, none⟩,
  ⟨some 19, .assign (.tmp 21), false, none⟩]) <|
 .seq (.keep [2, 3, 10, 11, 19]) <|
 .cond (.tmp 19) (.seq (.ops [⟨some 22, .move (.tmp 11), false, none⟩,
  ⟨some 8, .assign (.const (.int .i64 0)), false, none⟩,
  ⟨some 9, .assign (.tmp 22), false, none⟩]) <|
 .seq (.keep [8, 9]) <|
 .ret) <|
 .seq (.ops [⟨some 24, .move (.tmp 2), false, none⟩,
  ⟨some 25, .binOp .lss 3 (.tmp 24) (.const (.int .i64 0)) 3, false, none⟩,
  ⟨some 23, .assign (.tmp 25), false, none⟩]) <|
 .seq (.keep [2, 3, 10, 23]) <|
 .cond (.tmp 23) (.seq (.ops [⟨some 8, .assign (.const (.int .i64 0)), false, none⟩,
  ⟨some 9, .assign (.const (.int .i64 22)), false, none⟩]) <|
 .seq (.keep [8, 9]) <|
 .ret) <|
 .seq (.ops [⟨some 27, .move (.tmp 10), false, none⟩,
  ⟨some 28, .nilCheck (.tmp 27), false, none⟩,
  ⟨some 29, .fieldAddr 69 (.tmp 28) 0, false, none⟩,
  ⟨some 30, .load 3 (.tmp 29), false, none⟩,
  ⟨some 31, .binOp .neq 3 (.tmp 30) (.const (.int .i64 1)) 3, false, none⟩,
  ⟨some 32, .move (.tmp 31), false, none⟩,
  ⟨some 33, .move (.tmp 3), false, some (32, false)⟩,
  ⟨some 34, .call ⟨.builtin .len, #[(.tmp 33)], #[23]⟩, false, some (32, false)⟩,
  ⟨some 35, .binOp .eql 3 (.tmp 34) (.const (.int .i64 0)) 3, false, some (32, false)⟩,
  ⟨some 36, .pick (.tmp 32) (.const (.bool true)) (.tmp 35), false, none⟩,
  ⟨some 26, .assign (.tmp 36), false, none⟩]) <|
 .seq (.keep [2, 3, 10, 26]) <|
 .cond (.tmp 26) (.seq (.ops [⟨some 37, .move (.tmp 3), false, none⟩,
  ⟨some 38, .call ⟨.builtin .len, #[(.tmp 37)], #[23]⟩, false, none⟩,
  ⟨some 8, .assign (.tmp 38), false, none⟩,
  ⟨some 9, .assign (.const (.int .i64 0)), false, none⟩]) <|
 .seq (.keep [8, 9]) <|
 .ret) <|
 .seq (.ops [⟨some 40, .move (.tmp 2), false, none⟩,
  ⟨some 41, .binOp .gtr 3 (.tmp 40) (.const (.int .i64 1048576)) 3, false, none⟩,
  ⟨some 42, .move (.tmp 41), false, none⟩,
  ⟨some 43, .move (.tmp 3), false, some (42, false)⟩,
  ⟨some 44, .call ⟨.builtin .len, #[(.tmp 43)], #[23]⟩, false, some (42, false)⟩,
  ⟨some 45, .move (.tmp 2), false, some (42, false)⟩,
  ⟨some 46, .binOp .sub 3 (.const (.int .i64 1048576)) (.tmp 45) 3, false, some (42, false)⟩,
  ⟨some 47, .binOp .gtr 3 (.tmp 44) (.tmp 46) 3, false, some (42, false)⟩,
  ⟨some 48, .pick (.tmp 42) (.const (.bool true)) (.tmp 47), false, none⟩,
  ⟨some 39, .assign (.tmp 48), false, none⟩]) <|
 .seq (.keep [2, 3, 10, 39]) <|
 .cond (.tmp 39) (.seq (.ops [⟨some 8, .assign (.const (.int .i64 0)), false, none⟩,
  ⟨some 9, .assign (.const (.int .i64 27)), false, none⟩]) <|
 .seq (.keep [8, 9]) <|
 .ret) <|
 .skip) <|
 .seq (.keep [2, 3, 10]) <|
 .seq (.seq (.ops [⟨some 49, .move (.tmp 2), false, none⟩,
  ⟨some 50, .move (.tmp 3), false, none⟩,
  ⟨some 51, .call ⟨.builtin .len, #[(.tmp 50)], #[23]⟩, false, none⟩,
  ⟨some 52, .binOp .add 3 (.tmp 49) (.tmp 51) 3, false, none⟩,
  ⟨some 12, .assign (.tmp 52), false, none⟩]) <|
 .seq (.keep [2, 3, 10, 12]) <|
 .seq (.ops [⟨some 53, .move (.tmp 12), false, none⟩,
  ⟨some 54, .move (.tmp 10), false, none⟩,
  ⟨some 55, .nilCheck (.tmp 54), false, none⟩,
  ⟨some 56, .fieldAddr 69 (.tmp 55) 2, false, none⟩,
  ⟨some 57, .load 23 (.tmp 56), false, none⟩,
  ⟨some 58, .call ⟨.builtin .len, #[(.tmp 57)], #[23]⟩, false, none⟩,
  ⟨some 59, .binOp .gtr 3 (.tmp 53) (.tmp 58) 3, false, none⟩]) <|
 .seq (.keep [2, 3, 10, 12, 59]) <|
 .cond (.tmp 59) (.seq (.ops [⟨some 60, .move (.tmp 10), false, none⟩]) <|
 .seq (.ops [⟨some 61, .move (.tmp 10), false, none⟩]) <|
 .seq (.ops [⟨some 62, .nilCheck (.tmp 61), false, none⟩]) <|
 .seq (.ops [⟨some 63, .fieldAddr 69 (.tmp 62) 2, false, none⟩]) <|
 .seq (.ops [⟨some 64, .load 23 (.tmp 63), false, none⟩]) <|
 .seq (.ops [⟨some 65, .move (.tmp 12), false, none⟩]) <|
 .seq (.ops [⟨some 66, .move (.tmp 10), false, none⟩]) <|
 .seq (.ops [⟨some 67, .nilCheck (.tmp 66), false, none⟩]) <|
 .seq (.ops [⟨some 68, .fieldAddr 69 (.tmp 67) 2, false, none⟩]) <|
 .seq (.ops [⟨some 69, .load 23 (.tmp 68), false, none⟩]) <|
 .seq (.ops [⟨some 70, .call ⟨.builtin .len, #[(.tmp 69)], #[23]⟩, false, none⟩]) <|
 .seq (.ops [⟨some 71, .binOp .sub 3 (.tmp 65) (.tmp 70) 3, false, none⟩]) <|
 .seq (.ops [⟨some 72, .call ⟨.builtin .append, #[(.tmp 64), (.tmp 71)], #[23, 3]⟩, true, none⟩]) <|
 .seq (.ops [⟨some 73, .nilCheck (.tmp 60), false, none⟩]) <|
 .seq (.ops [⟨some 74, .fieldAddr 69 (.tmp 73) 2, false, none⟩]) <|
 .seq (.ops [⟨none, .store 23 (.tmp 74) (.tmp 72), true, none⟩]) <|
 .skip) <|
 .skip) <|
 .seq (.keep [2, 3, 10]) <|
 .seq (.ops [⟨some 75, .move (.tmp 10), false, none⟩,
  ⟨some 76, .nilCheck (.tmp 75), false, none⟩,
  ⟨some 77, .fieldAddr 69 (.tmp 76) 2, false, none⟩,
  ⟨some 78, .load 23 (.tmp 77), false, none⟩,
  ⟨some 79, .move (.tmp 2), false, none⟩,
  ⟨some 80, .slice 23 (.tmp 78) (some (.tmp 79)) none none, false, none⟩,
  ⟨some 81, .move (.tmp 3), false, none⟩,
  ⟨some 82, .call ⟨.builtin .copy, #[(.tmp 80), (.tmp 81)], #[23, 23]⟩, true, none⟩]) <|
 .seq (.keep [3]) <|
 .seq (.ops [⟨some 83, .move (.tmp 3), false, none⟩,
  ⟨some 84, .call ⟨.builtin .len, #[(.tmp 83)], #[23]⟩, false, none⟩,
  ⟨some 8, .assign (.tmp 84), false, none⟩,
  ⟨some 9, .assign (.const (.int .i64 0)), false, none⟩]) <|
 .seq (.keep [8, 9]) <|
 .ret
theorem c10 : Tryd.f10.body.map (fun c => ((compile Tryd.prog kp10 [] kp10 c).map (·.1), fits Tryd.f10.ntmps c)) = some (some s10, true) := by kernel_rfl
theorem r10 : Tryd.f10.results.toList = [.tmp 8, .tmp 9] := by kernel_rfl
-- (*marionette/node.Tree).Read
abbrev kp11 : List Nat := [8, 9]
def s11 : SC :=
 .seq (.ops [⟨some 8, .assign (.const (.slice none 0 0)), false, none⟩,
  ⟨some 9, .assign (.const (.int .i64 0)), false, none⟩]) <|
 .seq (.keep [0, 1, 2, 3]) <|
 .seq (.ops [⟨some 13, .move (.tmp 0), false, none⟩,
  ⟨some 14, .move (.tmp 1), false, none⟩,
  ⟨some 15, .call ⟨.value (.func 33), #[(.tmp 13), (.tmp 14)], #[25, 3]⟩, true, none⟩,
  ⟨some 12, .move (.tmp 15), false, none⟩,
  ⟨some 16, .extract (.tmp 12) 0, false, none⟩,
  ⟨some 17, .extract (.tmp 12) 1, false, none⟩,
  ⟨some 10, .assign (.tmp 16), false, none⟩,
  ⟨some 11, .assign (.tmp 17), false, none⟩]) <|
 .seq (.keep [2, 3, 10, 11]) <|
 .seq (.block 0 <| .seq (.ops [⟨some 19, .move (.tmp 11), false, none⟩,
  ⟨some 20, .binOp .neq 26 (.tmp 19) (.const (.int .i64 0)) 26, false, none⟩,
  ⟨some 18, .assign (.tmp 20), false, none⟩]) <|
 .seq (.keep [2, 3, 10, 11, 18]) <|
 .cond (.tmp 18) (.seq (.ops [⟨some 21, .move (.tmp 11), false, none⟩,
  ⟨some 8, .assign (.const (.slice none 0 0)), false, none⟩,
  ⟨some 9, .assign (.tmp 21), false, none⟩]) <|
 .seq (.keep [8, 9]) <|
 .ret) <|
 .seq (.ops [⟨some 23, .move (.tmp 2), false, none⟩,
  ⟨some 24, .binOp .lss 3 (.tmp 23) (.const (.int .i64 0)) 3, false, none⟩,
  ⟨some 25, .move (.tmp 24), false, none⟩,
  ⟨some 26, .move (.tmp 3), false, some (25, false)⟩,
  ⟨some 27, .binOp .lss 3 (.tmp 26) (.const (.int .i64 0)) 3, false, some (25, false)⟩,
  ⟨some 28, .pick (.tmp 25) (.const (.bool true)) (.tmp 27), false, none⟩,
  ⟨some 22, .assign (.tmp 28), false, none⟩]) <|
 .seq (.keep [2, 3, 10, 22]) <|
 .cond (.tmp 22) (.seq (.ops [⟨some 8, .assign (.const (.slice none 0 0)), false, none⟩,
  ⟨some 9, .assign (.const (.int .i64 22)), false, none⟩]) <|
 .seq (.keep [8, 9]) <|
 .ret) <|
 .skip) <|
 .seq (.keep [2, 3, 10]) <|
 .seq (.ops [⟨some 29, .move (.tmp 3), false, none⟩,
  ⟨some 30, .call ⟨.builtin .min, #[(.tmp 29), (.const (.int .i64 65536))], #[3, 3]⟩, false, none⟩,
  ⟨some 3, .assign (.tmp 30), false, none⟩]) <|
 .seq (.keep [2, 3, 10]) <|
 .seq (.block 1 <| .seq (.ops [⟨some 32, .move (.tmp 10), false, none⟩,
  ⟨some 33, .nilCheck (.tmp 32), false, none⟩,
  ⟨some 34, .fieldAddr 69 (.tmp 33) 0, false, none⟩,
  ⟨some 35, .load 3 (.tmp 34), false, none⟩,
  ⟨some 36, .binOp .eql 3 (.tmp 35) (.const (.int .i64 5)) 3, false, none⟩,
  ⟨some 31, .assign (.tmp 36), false, none⟩]) <|
 .seq (.keep [2, 3, 10, 31]) <|
 .cond (.tmp 31) (.seq (.ops [⟨some 37, .move (.tmp 3), false, none⟩,
  ⟨some 38, .makeSlice 23 (.tmp 37) (.tmp 37), true, none⟩,
  ⟨some 8, .assign (.tmp 38), false, none⟩,
  ⟨some 9, .assign (.const (.int .i64 0)), false, none⟩]) <|
 .seq (.keep [8, 9]) <|
 .ret) <|
 .seq (.ops [⟨some 40, .move (.tmp 10), false, none⟩,
  ⟨some 41, .nilCheck (.tmp 40), false, none⟩,
  ⟨some 42, .fieldAddr 69 (.tmp 41) 0, false, none⟩,
  ⟨some 43, .load 3 (.tmp 42), false, none⟩,
  ⟨some 44, .binOp .eql 3 (.tmp 43) (.const (.int .i64 4)) 3, false, none⟩,
  ⟨some 45, .move (.tmp 44), false, none⟩,
  ⟨some 46, .move (.tmp 2), false, some (45, false)⟩,
  ⟨some 47, .move (.tmp 10), false, some (45, false)⟩,
  ⟨some 48, .nilCheck (.tmp 47), false, some (45, false)⟩,
  ⟨some 49, .fieldAddr 69 (.tmp 48) 2, false, some (45, false)⟩,
  ⟨some 50, .load 23 (.tmp 49), false, some (45, false)⟩,
  ⟨some 51, .call ⟨.builtin .len, #[(.tmp 50)], #[23]⟩, false, some (45, false)⟩,
  ⟨some 52, .binOp .geq 3 (.tmp 46) (.tmp 51) 3, false, some (45, false)⟩,
  ⟨some 53, .pick (.tmp 45) (.const (.bool true)) (.tmp 52), false, none⟩,
  ⟨some 39, .assign (.tmp 53), false, none⟩]) <|
 .seq (.keep [2, 3, 10, 39]) <|
 .cond (.tmp 39) (.seq (.ops [⟨some 8, .assign (.const (.slice none 0 0)), false, none⟩,
  ⟨some 9, .assign (.const (.int .i64 0)), false, none⟩]) <|
 .seq (.keep [8, 9]) <|
 .ret) <|
 .skip) <|
 .seq (.keep [2, 3, 10]) <|
 .seq (.seq (.ops [⟨some 54, .move (.tmp 10), false, none⟩]) <|
 .seq (.ops [⟨some 55, .nilCheck (.tmp 54), false, none⟩]) <|
 .seq (.ops [⟨some 56, .fieldAddr 69 (.tmp 55) 2, false, none⟩]) <|
 .seq (.ops [⟨some 57, .load 23 (.tmp 56), false, none⟩]) <|
 .seq (.ops [⟨some 58, .move (.tmp 2), false, none⟩]) <|
 .seq (.ops [⟨some 59, .move (.tmp 2), false, none⟩]) <|
 .seq (.ops [⟨some 60, .move (.tmp 3), false, none⟩]) <|
 .seq (.ops [⟨some 61, .binOp .add 3 (.tmp 59) (.tmp 60) 3, false, none⟩]) <|
 .seq (.ops [⟨some 62, .move (.tmp 10), false, none⟩]) <|
 .seq (.ops [⟨some 63, .nilCheck (.tmp 62), false, none⟩]) <|
 .seq (.ops [⟨some 64, .fieldAddr 69 (.tmp 63) 2, false, none⟩]) <|
 .seq (.ops [⟨some 65, .load 23 (.tmp 64), false, none⟩]) <|
 .seq (.ops [⟨some 66, .call ⟨.builtin .len, #[(.tmp 65)], #[23]⟩, false, none⟩]) <|
 .seq (.ops [⟨some 67, .call ⟨.builtin .min, #[(.tmp 61), (.tmp 66)], #[3, 3]⟩, false, none⟩]) <|
 .seq (.ops [⟨some 68, .slice 23 (.tmp 57) (some (.tmp 58)) (some (.tmp 67)) none, false, none⟩]) <|
 .seq (.ops [⟨some 69, .call ⟨.value (.func 32), #[(.tmp 68)], #[23]⟩, true, none⟩]) <|
 .seq (.ops [⟨some 8, .assign (.tmp 69), false, none⟩]) <|
 .seq (.ops [⟨some 9, .assign (.const (.int .i64 0)), false, none⟩]) <|
 .skip) <|
 .seq (.keep [8, 9]) <|
 .ret
theorem c11 : Tryd.f11.body.map (fun c => ((compile Tryd.prog kp11 [] kp11 c).map (·.1), fits Tryd.f11.ntmps c)) = some (some s11, true) := by kernel_rfl
theorem r11 : Tryd.f11.results.toList = [.tmp 8, .tmp 9] := by kernel_rfl
-- (*marionette/node.Tree).Cut
abbrev kp13 : List Nat := [6]
def s13 : SC :=
 .seq (.ops [⟨some 6, .assign (.const (.int .i64 0)), false, none⟩]) <|
 .seq (.keep [0, 1, 2]) <|
 .seq (.ops [⟨some 10, .move (.tmp 0), false, none⟩,
  ⟨some 11, .move (.tmp 1), false, none⟩,
  ⟨some 12, .call ⟨.value (.func 33), #[(.tmp 10), (.tmp 11)], #[25, 3]⟩, true, none⟩,
  ⟨some 9, .move (.tmp 12), false, none⟩,
  ⟨some 13, .extract (.tmp 9) 0, false, none⟩,
  ⟨some 14, .extract (.tmp 9) 1, false, none⟩,
  ⟨some 7, .assign (.tmp 13), false, none⟩,
  ⟨some 8, .assign (.tmp 14), false, none⟩]) <|
 .seq (.keep [2, 7, 8]) <|
 .seq (.block 0 <| .seq (.ops [⟨some 16, .move (.tmp 8), false, none⟩,
  ⟨some 17, .binOp .neq 26 (.tmp 16) (.const (.int .i64 0)) 26, false, none⟩,
  ⟨some 15, .assign (.tmp 17), false, none⟩]) <|
 .seq (.keep [2, 7, 8, 15]) <|
 .cond (.tmp 15) (.seq (.ops [⟨some 18, .move (.tmp 8), false, none⟩,
  ⟨some 6, .assign (.tmp 18), false, none⟩]) <|
 .seq (.keep [6]) <|
 .ret) <|
 .seq (.ops [⟨some 20, .move (.tmp 7), false, none⟩,
  ⟨some 21, .nilCheck (.tmp 20), false, none⟩,
  ⟨some 22, .fieldAddr 69 (.tmp 21) 0, false, none⟩,
  ⟨some 23, .load 3 (.tmp 22), false, none⟩,
  ⟨some 24, .binOp .neq 3 (.tmp 23) (.const (.int .i64 1)) 3, false, none⟩,
  ⟨some 25, .move (.tmp 24), false, none⟩,
  ⟨some 26, .move (.tmp 2), false, some (25, false)⟩,
  ⟨some 27, .binOp .lss 3 (.tmp 26) (.const (.int .i64 0)) 3, false, some (25, false)⟩,
  ⟨some 28, .pick (.tmp 25) (.const (.bool true)) (.tmp 27), false, none⟩,
  ⟨some 19, .assign (.tmp 28), false, none⟩]) <|
 .seq (.keep [2, 7, 19]) <|
 .cond (.tmp 19) (.seq (.ops [⟨some 6, .assign (.const (.int .i64 22)), false, none⟩]) <|
 .seq (.keep [6]) <|
 .ret) <|
 .seq (.ops [⟨some 30, .move (.tmp 2), false, none⟩,
  ⟨some 31, .binOp .gtr 3 (.tmp 30) (.const (.int .i64 1048576)) 3, false, none⟩,
  ⟨some 29, .assign (.tmp 31), false, none⟩]) <|
 .seq (.keep [2, 7, 29]) <|
 .cond (.tmp 29) (.seq (.ops [⟨some 6, .assign (.const (.int .i64 27)), false, none⟩]) <|
 .seq (.keep [6]) <|
 .ret) <|
 .skip) <|
 .seq (.keep [2, 7]) <|
 .seq (.seq (.ops [⟨some 32, .move (.tmp 2), false, none⟩,
  ⟨some 33, .move (.tmp 7), false, none⟩,
  ⟨some 34, .nilCheck (.tmp 33), false, none⟩,
  ⟨some 35, .fieldAddr 69 (.tmp 34) 2, false, none⟩,
  ⟨some 36, .load 23 (.tmp 35), false, none⟩,
  ⟨some 37, .call ⟨.builtin .len, #[(.tmp 36)], #[23]⟩, false, none⟩,
  ⟨some 38, .binOp .leq 3 (.tmp 32) (.tmp 37) 3, false, none⟩]) <|
 .seq (.keep [2, 7, 38]) <|
 .cond (.tmp 38) (.ops [⟨some 39, .move (.tmp 7), false, none⟩,
  ⟨some 40, .move (.tmp 7), false, none⟩,
  ⟨some 41, .nilCheck (.tmp 40), false, none⟩,
  ⟨some 42, .fieldAddr 69 (.tmp 41) 2, false, none⟩,
  ⟨some 43, .load 23 (.tmp 42), false, none⟩,
  ⟨some 44, .move (.tmp 2), false, none⟩,
  ⟨some 45, .move (.tmp 2), false, none⟩,
  ⟨some 46, .slice 23 (.tmp 43) none (some (.tmp 44)) (some (.tmp 45)), false, none⟩,
  ⟨some 47, .nilCheck (.tmp 39), false, none⟩,
  ⟨some 48, .fieldAddr 69 (.tmp 47) 2, false, none⟩,
  ⟨none, .store 23 (.tmp 48) (.tmp 46), true, none⟩]) <|
 .seq (.ops [⟨some 49, .move (.tmp 7), false, none⟩]) <|
 .seq (.ops [⟨some 50, .move (.tmp 7), false, none⟩]) <|
 .seq (.ops [⟨some 51, .nilCheck (.tmp 50), false, none⟩]) <|
 .seq (.ops [⟨some 52, .fieldAddr 69 (.tmp 51) 2, false, none⟩]) <|
 .seq (.ops [⟨some 53, .load 23 (.tmp 52), false, none⟩]) <|
 .seq (.ops [⟨some 54, .move (.tmp 2), false, none⟩]) <|
 .seq (.ops [⟨some 55, .move (.tmp 7), false, none⟩]) <|
 .seq (.ops [⟨some 56, .nilCheck (.tmp 55), false, none⟩]) <|
 .seq (.ops [⟨some 57, .fieldAddr 69 (.tmp 56) 2, false, none⟩]) <|
 .seq (.ops [⟨some 58, .load 23 (.tmp 57), false, none⟩]) <|
 .seq (.ops [⟨some 59, .call ⟨.builtin .len, #[(.tmp 58)], #[23]⟩, false, none⟩]) <|
 .seq (.ops [⟨some 60, .binOp .sub 3 (.tmp 54) (.tmp 59) 3, false, none⟩]) <|
 .seq (.ops [⟨some 61, .call ⟨.builtin .append, #[(.tmp 53), (.tmp 60)], #[23, 3]⟩, true, none⟩]) <|
 .seq (.ops [⟨some 62, .nilCheck (.tmp 49), false, none⟩]) <|
 .seq (.ops [⟨some 63, .fieldAddr 69 (.tmp 62) 2, false, none⟩]) <|
 .seq (.ops [⟨none, .store 23 (.tmp 63) (.tmp 61), true, none⟩]) <|
 .skip) <|
 .seq (.keep []) <|
 .seq (.ops [⟨some 6, .assign (.const (.int .i64 0)), false, none⟩]) <|
 .seq (.keep [6]) <|
 .ret
theorem c13 : Tryd.f13.body.map (fun c => ((compile Tryd.prog kp13 [] kp13 c).map (·.1), fits Tryd.f13.ntmps c)) = some (some s13, true) := by kernel_rfl
theorem r13 : Tryd.f13.results.toList = [.tmp 6] := by kernel_rfl
-- (*marionette/node.Tree).Info
abbrev kp14 : List Nat := [4, 5]
def s14 : SC :=
 .seq (.ops [⟨some 4, .alloc 38, true, none⟩,
  ⟨some 5, .assign (.const (.bool false)), false, none⟩]) <|
 .seq (.keep [0, 1, 4]) <|
 .seq (.ops [⟨some 10, .move (.tmp 0), false, none⟩,
  ⟨some 11, .move (.tmp 1), false, none⟩,
  ⟨some 12, .call ⟨.value (.func 29), #[(.tmp 10), (.tmp 11)], #[25, 3]⟩, true, none⟩,
  ⟨some 6, .assign (.tmp 12), false, none⟩]) <|
 .seq (.keep [1, 4, 6]) <|
 .seq (.seq (.ops [⟨some 13, .move (.tmp 6), false, none⟩,
  ⟨some 14, .binOp .eql 67 (.tmp 13) (.const (.pointer none)) 67, false, none⟩]) <|
 .seq (.keep [1, 4, 6, 14]) <|
 .cond (.tmp 14) (.seq (.ops [⟨some 15, .build 38 #[], false, none⟩,
  ⟨none, .store 38 (.tmp 4) (.tmp 15), true, none⟩,
  ⟨some 5, .assign (.const (.bool false)), false, none⟩]) <|
 .seq (.keep [4, 5]) <|
 .ret) <|
 .skip) <|
 .seq (.keep [1, 4, 6]) <|
 .seq (.seq (.ops [⟨some 16, .move (.tmp 1), false, none⟩]) <|
 .seq (.ops [⟨some 17, .move (.tmp 6), false, none⟩]) <|
 .seq (.ops [⟨some 18, .nilCheck (.tmp 17), false, none⟩]) <|
 .seq (.ops [⟨some 19, .fieldAddr 69 (.tmp 18) 0, false, none⟩]) <|
 .seq (.ops [⟨some 21, .move (.tmp 6), false, none⟩]) <|
 .seq (.ops [⟨some 22, .nilCheck (.tmp 21), false, none⟩]) <|
 .seq (.ops [⟨some 23, .fieldAddr 69 (.tmp 22) 1, false, none⟩]) <|
 .seq (.ops [⟨some 25, .move (.tmp 6), false, none⟩]) <|
 .seq (.ops [⟨some 26, .nilCheck (.tmp 25), false, none⟩]) <|
 .seq (.ops [⟨some 27, .fieldAddr 69 (.tmp 26) 5, false, none⟩]) <|
 .seq (.ops [⟨some 29, .move (.tmp 6), false, none⟩]) <|
 .seq (.ops [⟨some 30, .nilCheck (.tmp 29), false, none⟩]) <|
 .seq (.ops [⟨some 31, .fieldAddr 69 (.tmp 30) 2, false, none⟩]) <|
 .amb (.seq (.ops [⟨some 20, .load 3 (.tmp 19), false, none⟩]) <|
 .amb (.seq (.ops [⟨some 24, .load 3 (.tmp 23), false, none⟩]) <|
 .amb (.seq (.ops [⟨some 28, .load 3 (.tmp 27), false, none⟩]) <|
 .amb (.seq (.ops [⟨some 32, .load 23 (.tmp 31), false, none⟩]) <|
 .seq (.ops [⟨some 33, .call ⟨.builtin .len, #[(.tmp 32)], #[23]⟩, false, none⟩]) <|
 .seq (.ops [⟨some 34, .build 38 #[(0, (.tmp 16)), (1, (.tmp 20)), (2, (.tmp 24)), (3, (.tmp 28)), (4, (.tmp 33))], false, none⟩]) <|
 .seq (.ops [⟨some 7, .alloc 38, true, none⟩]) <|
 .seq (.ops [⟨none, .store 38 (.tmp 7) (.tmp 34), true, none⟩]) <|
 .skip) (.seq (.ops [⟨some 7, .alloc 38, true, none⟩]) <|
 .seq (.ops [⟨some 32, .load 23 (.tmp 31), false, none⟩]) <|
 .seq (.ops [⟨some 33, .call ⟨.builtin .len, #[(.tmp 32)], #[23]⟩, false, none⟩]) <|
 .seq (.ops [⟨some 34, .build 38 #[(0, (.tmp 16)), (1, (.tmp 20)), (2, (.tmp 24)), (3, (.tmp 28)), (4, (.tmp 33))], false, none⟩]) <|
 .seq (.ops [⟨none, .store 38 (.tmp 7) (.tmp 34), true, none⟩]) <|
 .skip)) (.amb (.seq (.ops [⟨some 32, .load 23 (.tmp 31), false, none⟩]) <|
 .seq (.ops [⟨some 33, .call ⟨.builtin .len, #[(.tmp 32)], #[23]⟩, false, none⟩]) <|
 .seq (.ops [⟨some 7, .alloc 38, true, none⟩]) <|
 .seq (.ops [⟨some 28, .load 3 (.tmp 27), false, none⟩]) <|
 .seq (.ops [⟨some 34, .build 38 #[(0, (.tmp 16)), (1, (.tmp 20)), (2, (.tmp 24)), (3, (.tmp 28)), (4, (.tmp 33))], false, none⟩]) <|
 .seq (.ops [⟨none, .store 38 (.tmp 7) (.tmp 34), true, none⟩]) <|
 .skip) (.seq (.ops [⟨some 7, .alloc 38, true, none⟩]) <|
 .seq (.ops [⟨some 28, .load 3 (.tmp 27), false, none⟩]) <|
 .seq (.ops [⟨some 32, .load 23 (.tmp 31), false, none⟩]) <|
 .seq (.ops [⟨some 33, .call ⟨.builtin .len, #[(.tmp 32)], #[23]⟩, false, none⟩]) <|
 .seq (.ops [⟨some 34, .build 38 #[(0, (.tmp 16)), (1, (.tmp 20)), (2, (.tmp 24)), (3, (.tmp 28)), (4, (.tmp 33))], false, none⟩]) <|
 .seq (.ops [⟨none, .store 38 (.tmp 7) (.tmp 34), true, none⟩]) <|
 .skip))) (.amb (.seq (.ops [⟨some 28, .load 3 (.tmp 27), false, none⟩]) <|
 .amb (.seq (.ops [⟨some 32, .load 23 (.tmp 31), false, none⟩]) <|
 .seq (.ops [⟨some 33, .call ⟨.builtin .len, #[(.tmp 32)], #[23]⟩, false, none⟩]) <|
 .seq (.ops [⟨some 7, .alloc 38, true, none⟩]) <|
 .seq (.ops [⟨some 24, .load 3 (.tmp 23), false, none⟩]) <|
 .seq (.ops [⟨some 34, .build 38 #[(0, (.tmp 16)), (1, (.tmp 20)), (2, (.tmp 24)), (3, (.tmp 28)), (4, (.tmp 33))], false, none⟩]) <|
 .seq (.ops [⟨none, .store 38 (.tmp 7) (.tmp 34), true, none⟩]) <|
 .skip) (.seq (.ops [⟨some 7, .alloc 38, true, none⟩]) <|
 .seq (.ops [⟨some 24, .load 3 (.tmp 23), false, none⟩]) <|
 .seq (.ops [⟨some 32, .load 23 (.tmp 31), false, none⟩]) <|
 .seq (.ops [⟨some 33, .call ⟨.builtin .len, #[(.tmp 32)], #[23]⟩, false, none⟩]) <|
 .seq (.ops [⟨some 34, .build 38 #[(0, (.tmp 16)), (1, (.tmp 20)), (2, (.tmp 24)), (3, (.tmp 28)), (4, (.tmp 33))], false, none⟩]) <|
 .seq (.ops [⟨none, .store 38 (.tmp 7) (.tmp 34), true, none⟩]) <|
 .skip)) (.amb (.seq (.ops [⟨some 32, .load 23 (.tmp 31), false, none⟩]) <|
 .seq (.ops [⟨some 33, .call ⟨.builtin .len, #[(.tmp 32)], #[23]⟩, false, none⟩]) <|
 .seq (.ops [⟨some 7, .alloc 38, true, none⟩]) <|
 .seq (.ops [⟨some 24, .load 3 (.tmp 23), false, none⟩]) <|
 .seq (.ops [⟨some 28, .load 3 (.tmp 27), false, none⟩]) <|
 .seq (.ops [⟨some 34, .build 38 #[(0, (.tmp 16)), (1, (.tmp 20)), (2, (.tmp 24)), (3, (.tmp 28)), (4, (.tmp 33))], false, none⟩]) <|
 .seq (.ops [⟨none, .store 38 (.tmp 7) (.tmp 34), true, none⟩]) <|
 .skip) (.seq (.ops [⟨some 7, .alloc 38, true, none⟩]) <|
 .seq (.ops [⟨some 24, .load 3 (.tmp 23), false, none⟩]) <|
 .seq (.ops [⟨some 28, .load 3 (.tmp 27), false, none⟩]) <|
 .seq (.ops [⟨some 32, .load 23 (.tmp 31), false, none⟩]) <|
 .seq (.ops [⟨some 33, .call ⟨.builtin .len, #[(.tmp 32)], #[23]⟩, false, none⟩]) <|
 .seq (.ops [⟨some 34, .build 38 #[(0, (.tmp 16)), (1, (.tmp 20)), (2, (.tmp 24)), (3, (.tmp 28)), (4, (.tmp 33))], false, none⟩]) <|
 .seq (.ops [⟨none, .store 38 (.tmp 7) (.tmp 34), true, none⟩]) <|
 .skip)))) (.amb (.seq (.ops [⟨some 24, .load 3 (.tmp 23), false, none⟩]) <|
 .amb (.seq (.ops [⟨some 28, .load 3 (.tmp 27), false, none⟩]) <|
 .amb (.seq (.ops [⟨some 32, .load 23 (.tmp 31), false, none⟩]) <|
 .seq (.ops [⟨some 33, .call ⟨.builtin .len, #[(.tmp 32)], #[23]⟩, false, none⟩]) <|
 .seq (.ops [⟨some 7, .alloc 38, true, none⟩]) <|
 .seq (.ops [⟨some 20, .load 3 (.tmp 19), false, none⟩]) <|
 .seq (.ops [⟨some 34, .build 38 #[(0, (.tmp 16)), (1, (.tmp 20)), (2, (.tmp 24)), (3, (.tmp 28)), (4, (.tmp 33))], false, none⟩]) <|
 .seq (.ops [⟨none, .store 38 (.tmp 7) (.tmp 34), true, none⟩]) <|
 .skip) (.seq (.ops [⟨some 7, .alloc 38, true, none⟩]) <|
 .seq (.ops [⟨some 20, .load 3 (.tmp 19), false, none⟩]) <|
 .seq (.ops [⟨some 32, .load 23 (.tmp 31), false, none⟩]) <|
 .seq (.ops [⟨some 33, .call ⟨.builtin .len, #[(.tmp 32)], #[23]⟩, false, none⟩]) <|
 .seq (.ops [⟨some 34, .build 38 #[(0, (.tmp 16)), (1, (.tmp 20)), (2, (.tmp 24)), (3, (.tmp 28)), (4, (.tmp 33))], false, none⟩]) <|
 .seq (.ops [⟨none, .store 38 (.tmp 7) (.tmp 34), true, none⟩]) <|
 .skip)) (.amb (.seq (.ops [⟨some 32, .load 23 (.tmp 31), false, none⟩]) <|
 .seq (.ops [⟨some 33, .call ⟨.builtin .len, #[(.tmp 32)], #[23]⟩, false, none⟩]) <|
 .seq (.ops [⟨some 7, .alloc 38, true, none⟩]) <|
 .seq (.ops [⟨some 20, .load 3 (.tmp 19), false, none⟩]) <|
 .seq (.ops [⟨some 28, .load 3 (.tmp 27), false, none⟩]) <|
 .seq (.ops [⟨some 34, .build 38 #[(0, (.tmp 16)), (1, (.tmp 20)), (2, (.tmp 24)), (3, (.tmp 28)), (4, (.tmp 33))], false, none⟩]) <|
 .seq (.ops [⟨none, .store 38 (.tmp 7) (.tmp 34), true, none⟩]) <|
 .skip) (.seq (.ops [⟨some 7, .alloc 38, true, none⟩]) <|
 .seq (.ops [⟨some 20, .load 3 (.tmp 19), false, none⟩]) <|
 .seq (.ops [⟨some 28, .load 3 (.tmp 27), false, none⟩]) <|
 .seq (.ops [⟨some 32, .load 23 (.tmp 31), false, none⟩]) <|
 .seq (.ops [⟨some 33, .call ⟨.builtin .len, #[(.tmp 32)], #[23]⟩, false, none⟩]) <|
 .seq (.ops [⟨some 34, .build 38 #[(0, (.tmp 16)), (1, (.tmp 20)), (2, (.tmp 24)), (3, (.tmp 28)), (4, (.tmp 33))], false, none⟩]) <|
 .seq (.ops [⟨none, .store 38 (.tmp 7) (.tmp 34), true, none⟩]) <|
 .skip))) (.amb (.seq (.ops [⟨some 28, .load 3 (.tmp 27), false, none⟩]) <|
 .amb (.seq (.ops [⟨some 32, .load 23 (.tmp 31), false, none⟩]) <|
 .seq (.ops [⟨some 33, .call ⟨.builtin .len, #[(.tmp 32)], #[23]⟩, false, none⟩]) <|
 .seq (.ops [⟨some 7, .alloc 38, true, none⟩]) <|
 .seq (.ops [⟨some 20, .load 3 (.tmp 19), false, none⟩]) <|
 .seq (.ops [⟨some 24, .load 3 (.tmp 23), false, none⟩]) <|
 .seq (.ops [⟨some 34, .build 38 #[(0, (.tmp 16)), (1, (.tmp 20)), (2, (.tmp 24)), (3, (.tmp 28)), (4, (.tmp 33))], false, none⟩]) <|
 .seq (.ops [⟨none, .store 38 (.tmp 7) (.tmp 34), true, none⟩]) <|
 .skip) (.seq (.ops [⟨some 7, .alloc 38, true, none⟩]) <|
 .seq (.ops [⟨some 20, .load 3 (.tmp 19), false, none⟩]) <|
 .seq (.ops [⟨some 24, .load 3 (.tmp 23), false, none⟩]) <|
 .seq (.ops [⟨some 32, .load 23 (.tmp 31), false, none⟩]) <|
 .seq (.ops [⟨some 33, .call ⟨.builtin .len, #[(.tmp 32)], #[23]⟩, false, none⟩]) <|
 .seq (.ops [⟨some 34, .build 38 #[(0, (.tmp 16)), (1, (.tmp 20)), (2, (.tmp 24)), (3, (.tmp 28)), (4, (.tmp 33))], false, none⟩]) <|
 .seq (.ops [⟨none, .store 38 (.tmp 7) (.tmp 34), true, none⟩]) <|
 .skip)) (.amb (.seq (.ops [⟨some 32, .load 23 (.tmp 31), false, none⟩]) <|
 .seq (.ops [⟨some 33, .call ⟨.builtin .len, #[(.tmp 32)], #[23]⟩, false, none⟩]) <|
 .seq (.ops [⟨some 7, .alloc 38, true, none⟩]) <|
 .seq (.ops [⟨some 20, .load 3 (.tmp 19), false, none⟩]) <|
 .seq (.ops [⟨some 24, .load 3 (.tmp 23), false, none⟩]) <|
 .seq (.ops [⟨some 28, .load 3 (.tmp 27), false, none⟩]) <|
 .seq (.ops [⟨some 34, .build 38 #[(0, (.tmp 16)), (1, (.tmp 20)), (2, (.tmp 24)), (3, (.tmp 28)), (4, (.tmp 33))], false, none⟩]) <|
 .seq (.ops [⟨none, .store 38 (.tmp 7) (.tmp 34), true, none⟩]) <|
 .skip) (.seq (.ops [⟨some 7, .alloc 38, true, none⟩]) <|
 .seq (.ops [⟨some 20, .load 3 (.tmp 19), false, none⟩]) <|
 .seq (.ops [⟨some 24, .load 3 (.tmp 23), false, none⟩]) <|
 .seq (.ops [⟨some 28, .load 3 (.tmp 27), false, none⟩]) <|
 .seq (.ops [⟨some 32, .load 23 (.tmp 31), false, none⟩]) <|
 .seq (.ops [⟨some 33, .call ⟨.builtin .len, #[(.tmp 32)], #[23]⟩, false, none⟩]) <|
 .seq (.ops [⟨some 34, .build 38 #[(0, (.tmp 16)), (1, (.tmp 20)), (2, (.tmp 24)), (3, (.tmp 28)), (4, (.tmp 33))], false, none⟩]) <|
 .seq (.ops [⟨none, .store 38 (.tmp 7) (.tmp 34), true, none⟩]) <|
 .skip))))) <|
 .seq (.keep [4, 6, 7]) <|
 .seq (.seq (.ops [⟨some 35, .move (.tmp 6), false, none⟩,
  ⟨some 36, .nilCheck (.tmp 35), false, none⟩,
  ⟨some 37, .fieldAddr 69 (.tmp 36) 0, false, none⟩,
  ⟨some 38, .load 3 (.tmp 37), false, none⟩,
  ⟨some 39, .binOp .eql 3 (.tmp 38) (.const (.int .i64 2)) 3, false, none⟩]) <|
 .seq (.keep [4, 6, 7, 39]) <|
 .cond (.tmp 39) (.seq (.ops [⟨some 40, .move (.tmp 6), false, none⟩,
  ⟨some 41, .nilCheck (.tmp 40), false, none⟩,
  ⟨some 42, .fieldAddr 69 (.tmp 41) 3, false, none⟩,
  ⟨some 43, .load 55 (.tmp 42), false, none⟩,
  ⟨some 44, .call ⟨.builtin .len, #[(.tmp 43)], #[55]⟩, false, none⟩,
  ⟨some 45, .fieldAddr 38 (.tmp 7) 4, false, none⟩,
  ⟨none, .store 3 (.tmp 45) (.tmp 44), true, none⟩,
  ⟨some 46, .fieldAddr 38 (.tmp 7) 3, false, none⟩,
  ⟨none, .store 3 (.tmp 46) (.const (.int .i64 2)), true, none⟩]) <|
 .seq (.keep [4, 6, 7]) <|
 .seq (.seq (.ops [⟨some 47, .move (.tmp 6), false, none⟩,
  ⟨some 48, .nilCheck (.tmp 47), false, none⟩,
  ⟨some 49, .fieldAddr 69 (.tmp 48) 3, false, none⟩,
  ⟨some 50, .load 55 (.tmp 49), false, none⟩,
  ⟨some 51, .call ⟨.builtin .len, #[(.tmp 50)], #[55]⟩, false, none⟩,
  ⟨some 52, .move (.const (.int .i64 0)), false, none⟩]) <|
 .seq (.keep [4, 6, 7, 50, 51, 52]) <|
 .block 0 <| .loop <| .seq (.seq (.ops [⟨some 53, .binOp .lss 3 (.tmp 52) (.tmp 51) 3, false, none⟩]) <|
 .seq (.keep [4, 6, 7, 50, 51, 52, 53]) <|
 .seq (.cond (.tmp 53) (.skip) <|
 .exit 0) <|
 .seq (.keep [4, 6, 7, 50, 51, 52]) <|
 .seq (.block 1 <| .seq (.ops [⟨some 54, .indexAddr 55 (.tmp 50) (.tmp 52), false, none⟩,
  ⟨some 55, .load 59 (.tmp 54), false, none⟩,
  ⟨some 9, .alloc 59, true, none⟩,
  ⟨none, .store 59 (.tmp 9) (.tmp 55), true, none⟩]) <|
 .seq (.keep [4, 6, 7, 9, 50, 51, 52]) <|
 .seq (.ops [⟨some 56, .fieldAddr 59 (.tmp 9) 2, false, none⟩,
  ⟨some 57, .load 3 (.tmp 56), false, none⟩,
  ⟨some 58, .binOp .eql 3 (.tmp 57) (.const (.int .i64 2)) 3, false, none⟩]) <|
 .seq (.keep [4, 6, 7, 50, 51, 52, 58]) <|
 .cond (.tmp 58) (.ops [⟨some 59, .fieldAddr 38 (.tmp 7) 3, false, none⟩,
  ⟨some 60, .load 3 (.tmp 59), false, none⟩,
  ⟨some 61, .binOp .add 3 (.tmp 60) (.const (.int .i64 1)) 3, false, none⟩,
  ⟨some 62, .fieldAddr 38 (.tmp 7) 3, false, none⟩,
  ⟨none, .store 3 (.tmp 62) (.tmp 61), true, none⟩]) <|
 .skip) <|
 .seq (.keep [4, 6, 7, 50, 51, 52]) <|
 .ops [⟨some 63, .binOp .add 3 (.tmp 52) (.const (.int .i64 1)) 3, false, none⟩,
  ⟨some 52, .move (.tmp 63), false, none⟩]) <|
 .keep [4, 6, 7, 50, 51, 52]) <|
 .seq (.keep [4, 6, 7]) <|
 .seq (.ops [⟨some 64, .move (.tmp 6), false, none⟩,
  ⟨some 65, .call ⟨.value (.func 34), #[(.tmp 64)], #[67]⟩, true, none⟩]) <|
 .seq (.keep [4, 7, 65]) <|
 .cond (.tmp 65) (.ops [⟨some 66, .fieldAddr 38 (.tmp 7) 3, false, none⟩,
  ⟨none, .store 3 (.tmp 66) (.const (.int .i64 0)), true, none⟩]) <|
 .skip) <|
 .skip) <|
 .seq (.keep [4, 7]) <|
 .seq (.ops [⟨some 67, .load 38 (.tmp 7), false, none⟩,
  ⟨none, .store 38 (.tmp 4) (.tmp 67), true, none⟩,
  ⟨some 5, .assign (.const (.bool true)), false, none⟩]) <|
 .seq (.keep [4, 5]) <|
 .ret
theorem c14 : Tryd.f14.body.map (fun c => ((compile Tryd.prog kp14 [] kp14 c).map (·.1), fits Tryd.f14.ntmps c)) = some (some s14, true) := by kernel_rfl
theorem r14 : Tryd.f14.results.toList = [.cell 4 38, .tmp 5] := by kernel_rfl
-- marionette/marionetteref01.Dec
abbrev kp15 : List Nat := [2]
def s15 : SC :=
 .seq (.ops [⟨some 2, .assign (.const (.string ⟨#[]⟩)), false, none⟩]) <|
 .seq (.keep [0]) <|
 .seq (.seq (.ops [⟨some 3, .move (.tmp 0), false, none⟩,
  ⟨some 4, .binOp .lss 3 (.tmp 3) (.const (.int .i64 0)) 3, false, none⟩]) <|
 .seq (.keep [0, 4]) <|
 .cond (.tmp 4) (.seq (.ops [⟨some 5, .move (.tmp 0), false, none⟩,
  ⟨some 6, .binOp .add 3 (.tmp 5) (.const (.int .i64 1)) 3, false, none⟩,
  ⟨some 7, .unOp .neg 3 (.tmp 6), false, none⟩,
  ⟨some 8, .convert 3 83 (.tmp 7), false, none⟩,
  ⟨some 9, .binOp .add 83 (.tmp 8) (.const (.int .u64 1)) 83, false, none⟩,
  ⟨some 10, .call ⟨.value (.func 35), #[(.tmp 9)], #[83]⟩, true, none⟩,
  ⟨some 11, .binOp .add 9 (.const (.string ⟨#[45]⟩)) (.tmp 10) 9, false, none⟩,
  ⟨some 2, .assign (.tmp 11), false, none⟩]) <|
 .seq (.keep [2]) <|
 .ret) <|
 .skip) <|
 .seq (.keep [0]) <|
 .seq (.ops [⟨some 12, .move (.tmp 0), false, none⟩,
  ⟨some 13, .convert 3 83 (.tmp 12), false, none⟩,
  ⟨some 14, .call ⟨.value (.func 35), #[(.tmp 13)], #[83]⟩, true, none⟩,
  ⟨some 2, .assign (.tmp 14), false, none⟩]) <|
 .seq (.keep [2]) <|
 .ret
theorem c15 : Tryd.f15.body.map (fun c => ((compile Tryd.prog kp15 [] kp15 c).map (·.1), fits Tryd.f15.ntmps c)) = some (some s15, true) := by kernel_rfl
theorem r15 : Tryd.f15.results.toList = [.tmp 2] := by kernel_rfl
-- (*marionette/node.Tree).Remove
abbrev kp16 : List Nat := [8]
def s16 : SC :=
 .seq (.ops [⟨some 8, .assign (.const (.int .i64 0)), false, none⟩]) <|
 .seq (.keep [0, 1, 2, 3]) <|
 .seq (.ops [⟨some 14, .move (.tmp 0), false, none⟩,
  ⟨some 15, .move (.tmp 1), false, none⟩,
  ⟨some 16, .call ⟨.value (.func 36), #[(.tmp 14), (.tmp 15)], #[25, 3]⟩, true, none⟩,
  ⟨some 13, .move (.tmp 16), false, none⟩,
  ⟨some 17, .extract (.tmp 13) 0, false, none⟩,
  ⟨some 18, .extract (.tmp 13) 1, false, none⟩,
  ⟨some 9, .assign (.tmp 17), false, none⟩,
  ⟨some 10, .assign (.tmp 18), false, none⟩]) <|
 .seq (.keep [0, 2, 3, 9, 10]) <|
 .seq (.block 0 <| .seq (.ops [⟨some 20, .move (.tmp 10), false, none⟩,
  ⟨some 21, .binOp .neq 26 (.tmp 20) (.const (.int .i64 0)) 26, false, none⟩,
  ⟨some 19, .assign (.tmp 21), false, none⟩]) <|
 .seq (.keep [0, 2, 3, 9, 10, 19]) <|
 .cond (.tmp 19) (.seq (.ops [⟨some 22, .move (.tmp 10), false, none⟩,
  ⟨some 8, .assign (.tmp 22), false, none⟩]) <|
 .seq (.keep [8]) <|
 .ret) <|
 .seq (.ops [⟨some 24, .move (.tmp 2), false, none⟩,
  ⟨some 25, .binOp .eql 9 (.tmp 24) (.const (.string ⟨#[46]⟩)) 9, false, none⟩,
  ⟨some 23, .assign (.tmp 25), false, none⟩]) <|
 .seq (.keep [0, 2, 3, 9, 23]) <|
 .cond (.tmp 23) (.seq (.ops [⟨some 8, .assign (.const (.int .i64 22)), false, none⟩]) <|
 .seq (.keep [8]) <|
 .ret) <|
 .seq (.ops [⟨some 27, .move (.tmp 2), false, none⟩,
  ⟨some 28, .binOp .eql 9 (.tmp 27) (.const (.string ⟨#[46, 46]⟩)) 9, false, none⟩,
  ⟨some 26, .assign (.tmp 28), false, none⟩]) <|
 .seq (.keep [0, 2, 3, 9, 26]) <|
 .cond (.tmp 26) (.seq (.ops [⟨some 8, .assign (.const (.int .i64 39)), false, none⟩]) <|
 .seq (.keep [8]) <|
 .ret) <|
 .skip) <|
 .seq (.keep [0, 2, 3, 9]) <|
 .seq (.ops [⟨some 29, .move (.tmp 9), false, none⟩,
  ⟨some 30, .move (.tmp 2), false, none⟩,
  ⟨some 31, .call ⟨.value (.func 37), #[(.tmp 29), (.tmp 30)], #[67, 9]⟩, true, none⟩,
  ⟨some 11, .assign (.tmp 31), false, none⟩]) <|
 .seq (.keep [0, 3, 9, 11]) <|
 .seq (.seq (.ops [⟨some 32, .move (.tmp 11), false, none⟩,
  ⟨some 33, .binOp .lss 3 (.tmp 32) (.const (.int .i64 0)) 3, false, none⟩]) <|
 .seq (.keep [0, 3, 9, 11, 33]) <|
 .cond (.tmp 33) (.seq (.ops [⟨some 8, .assign (.const (.int .i64 2)), false, none⟩]) <|
 .seq (.keep [8]) <|
 .ret) <|
 .skip) <|
 .seq (.keep [0, 3, 9, 11]) <|
 .seq (.seq (.seq (.ops [⟨some 34, .move (.tmp 0), false, none⟩]) <|
 .seq (.ops [⟨some 35, .nilCheck (.tmp 34), false, none⟩]) <|
 .seq (.ops [⟨some 36, .fieldAddr 72 (.tmp 35) 0, false, none⟩]) <|
 .seq (.ops [⟨some 37, .load 70 (.tmp 36), false, none⟩]) <|
 .seq (.ops [⟨some 38, .move (.tmp 9), false, none⟩]) <|
 .seq (.ops [⟨some 39, .nilCheck (.tmp 38), false, none⟩]) <|
 .seq (.ops [⟨some 40, .fieldAddr 69 (.tmp 39) 3, false, none⟩]) <|
 .seq (.ops [⟨some 41, .load 55 (.tmp 40), false, none⟩]) <|
 .seq (.ops [⟨some 42, .move (.tmp 11), false, none⟩]) <|
 .seq (.ops [⟨some 43, .indexAddr 55 (.tmp 41) (.tmp 42), false, none⟩]) <|
 .seq (.ops [⟨some 44, .fieldAddr 59 (.tmp 43) 1, false, none⟩]) <|
 .seq (.ops [⟨some 45, .load 3 (.tmp 44), false, none⟩]) <|
 .seq (.ops [⟨some 46, .lookup 70 (.tmp 37) (.tmp 45) false, false, none⟩]) <|
 .seq (.ops [⟨some 47, .move (.tmp 3), false, none⟩]) <|
 .seq (.ops [⟨some 48, .call ⟨.value (.func 38), #[(.tmp 46), (.tmp 47)], #[67, 4]⟩, true, none⟩]) <|
 .seq (.ops [⟨some 12, .assign (.tmp 48), false, none⟩]) <|
 .skip) <|
 .seq (.keep [0, 9, 11, 12]) <|
 .seq (.ops [⟨some 49, .move (.tmp 12), false, none⟩,
  ⟨some 50, .binOp .neq 26 (.tmp 49) (.const (.int .i64 0)) 26, false, none⟩]) <|
 .seq (.keep [0, 9, 11, 12, 50]) <|
 .cond (.tmp 50) (.seq (.ops [⟨some 51, .move (.tmp 12), false, none⟩,
  ⟨some 8, .assign (.tmp 51), false, none⟩]) <|
 .seq (.keep [8]) <|
 .ret) <|
 .skip) <|
 .seq (.keep [0, 9, 11]) <|
 .seq (.ops [⟨some 52, .move (.tmp 0), false, none⟩,
  ⟨some 53, .move (.tmp 9), false, none⟩,
  ⟨some 54, .move (.tmp 11), false, none⟩,
  ⟨some 55, .call ⟨.value (.func 39), #[(.tmp 52), (.tmp 53), (.tmp 54)], #[25, 67, 3]⟩, true, none⟩]) <|
 .seq (.keep []) <|
 .seq (.ops [⟨some 8, .assign (.const (.int .i64 0)), false, none⟩]) <|
 .seq (.keep [8]) <|
 .ret
theorem c16 : Tryd.f16.body.map (fun c => ((compile Tryd.prog kp16 [] kp16 c).map (·.1), fits Tryd.f16.ntmps c)) = some (some s16, true) := by kernel_rfl
theorem r16 : Tryd.f16.results.toList = [.tmp 8] := by kernel_rfl
-- marionette/marionetteref15.Empty
abbrev kp17 : List Nat := [0]
def s17 : SC :=
 .seq (.ops [⟨some 0, .assign (.const (.pointer none)), false, none⟩]) <|
 .seq (.keep []) <|
 .seq (.ops [⟨some 1, .build 89 #[(0, (.const (.int .i64 1))), (1, (.const (.int .i64 2))), (2, (.const (.int .i64 493))), (5, (.const (.int .i64 1)))], false, none⟩,
  ⟨some 2, .box 89 (.tmp 1), true, none⟩,
  ⟨some 3, .buildSlice 90 1 #[(0, (.tmp 2))], true, none⟩,
  ⟨some 4, .build 92 #[(0, (.tmp 3))], false, none⟩,
  ⟨some 5, .box 92 (.tmp 4), true, none⟩,
  ⟨some 0, .assign (.tmp 5), false, none⟩]) <|
 .seq (.keep [0]) <|
 .ret
theorem c17 : Tryd.f17.body.map (fun c => ((compile Tryd.prog kp17 [] kp17 c).map (·.1), fits Tryd.f17.ntmps c)) = some (some s17, true) := by kernel_rfl
theorem r17 : Tryd.f17.results.toList = [.tmp 0] := by kernel_rfl
-- (*marionette/node.Tree).List
abbrev kp20 : List Nat := [4, 5]
def s20 : SC :=
 .seq (.ops [⟨some 4, .assign (.const (.slice none 0 0)), false, none⟩,
  ⟨some 5, .assign (.const (.int .i64 0)), false, none⟩]) <|
 .seq (.keep [0, 1]) <|
 .seq (.ops [⟨some 9, .move (.tmp 0), false, none⟩,
  ⟨some 10, .move (.tmp 1), false, none⟩,
  ⟨some 11, .call ⟨.value (.func 36), #[(.tmp 9), (.tmp 10)], #[25, 3]⟩, true, none⟩,
  ⟨some 8, .move (.tmp 11), false, none⟩,
  ⟨some 12, .extract (.tmp 8) 0, false, none⟩,
  ⟨some 13, .extract (.tmp 8) 1, false, none⟩,
  ⟨some 6, .assign (.tmp 12), false, none⟩,
  ⟨some 7, .assign (.tmp 13), false, none⟩]) <|
 .seq (.keep [6, 7]) <|
 .seq (.seq (.ops [⟨some 14, .move (.tmp 7), false, none⟩,
  ⟨some 15, .binOp .neq 26 (.tmp 14) (.const (.int .i64 0)) 26, false, none⟩]) <|
 .seq (.keep [6, 7, 15]) <|
 .cond (.tmp 15) (.seq (.ops [⟨some 16, .move (.tmp 7), false, none⟩,
  ⟨some 4, .assign (.const (.slice none 0 0)), false, none⟩,
  ⟨some 5, .assign (.tmp 16), false, none⟩]) <|
 .seq (.keep [4, 5]) <|
 .ret) <|
 .skip) <|
 .seq (.keep [6]) <|
 .seq (.ops [⟨some 17, .move (.tmp 6), false, none⟩,
  ⟨some 18, .nilCheck (.tmp 17), false, none⟩,
  ⟨some 19, .fieldAddr 69 (.tmp 18) 3, false, none⟩,
  ⟨some 20, .load 55 (.tmp 19), false, none⟩,
  ⟨some 21, .call ⟨.value (.func 57), #[(.tmp 20)], #[55]⟩, true, none⟩,
  ⟨some 4, .assign (.tmp 21), false, none⟩,
  ⟨some 5, .assign (.const (.int .i64 0)), false, none⟩]) <|
 .seq (.keep [4, 5]) <|
 .ret
theorem c20 : Tryd.f20.body.map (fun c => ((compile Tryd.prog kp20 [] kp20 c).map (·.1), fits Tryd.f20.ntmps c)) = some (some s20, true) := by kernel_rfl
theorem r20 : Tryd.f20.results.toList = [.tmp 4, .tmp 5] := by kernel_rfl
-- (*marionette/node.Tree).Parent
abbrev kp21 : List Nat := [4]
def s21 : SC :=
 .seq (.ops [⟨some 4, .assign (.const (.int .i64 0)), false, none⟩]) <|
 .seq (.keep [0, 1]) <|
 .seq (.ops [⟨some 8, .move (.tmp 0), false, none⟩,
  ⟨some 9, .move (.tmp 1), false, none⟩,
  ⟨some 10, .call ⟨.value (.func 36), #[(.tmp 8), (.tmp 9)], #[25, 3]⟩, true, none⟩,
  ⟨some 7, .move (.tmp 10), false, none⟩,
  ⟨some 11, .extract (.tmp 7) 0, false, none⟩,
  ⟨some 12, .extract (.tmp 7) 1, false, none⟩,
  ⟨some 5, .assign (.tmp 11), false, none⟩,
  ⟨some 6, .assign (.tmp 12), false, none⟩]) <|
 .seq (.keep [1, 5, 6]) <|
 .seq (.block 0 <| .seq (.ops [⟨some 14, .move (.tmp 6), false, none⟩,
  ⟨some 15, .binOp .neq 26 (.tmp 14) (.const (.int .i64 0)) 26, false, none⟩,
  ⟨some 13, .assign (.tmp 15), false, none⟩]) <|
 .seq (.keep [1, 5, 13]) <|
 .cond (.tmp 13) (.seq (.ops [⟨some 4, .assign (.const (.int .i64 0)), false, none⟩]) <|
 .seq (.keep [4]) <|
 .ret) <|
 .seq (.ops [⟨some 17, .move (.tmp 5), false, none⟩,
  ⟨some 18, .nilCheck (.tmp 17), false, none⟩,
  ⟨some 19, .fieldAddr 69 (.tmp 18) 4, false, none⟩,
  ⟨some 20, .load 3 (.tmp 19), false, none⟩,
  ⟨some 21, .binOp .eql 3 (.tmp 20) (.const (.int .i64 0)) 3, false, none⟩,
  ⟨some 16, .assign (.tmp 21), false, none⟩]) <|
 .seq (.keep [1, 5, 16]) <|
 .cond (.tmp 16) (.seq (.ops [⟨some 22, .move (.tmp 1), false, none⟩,
  ⟨some 4, .assign (.tmp 22), false, none⟩]) <|
 .seq (.keep [4]) <|
 .ret) <|
 .skip) <|
 .seq (.keep [5]) <|
 .seq (.ops [⟨some 23, .move (.tmp 5), false, none⟩,
  ⟨some 24, .nilCheck (.tmp 23), false, none⟩,
  ⟨some 25, .fieldAddr 69 (.tmp 24) 4, false, none⟩,
  ⟨some 26, .load 3 (.tmp 25), false, none⟩,
  ⟨some 4, .assign (.tmp 26), false, none⟩]) <|
 .seq (.keep [4]) <|
 .ret
theorem c21 : Tryd.f21.body.map (fun c => ((compile Tryd.prog kp21 [] kp21 c).map (·.1), fits Tryd.f21.ntmps c)) = some (some s21, true) := by kernel_rfl
theorem r21 : Tryd.f21.results.toList = [.tmp 4] := by kernel_rfl
-- marionette/node.GoodName
abbrev kp22 : List Nat := [2]
def s22 : SC :=
 .seq (.ops [⟨some 2, .assign (.const (.bool false)), false, none⟩]) <|
 .seq (.keep [0]) <|
 .seq (.ops [⟨some 3, .move (.tmp 0), false, none⟩,
  ⟨some 4, .binOp .neq 9 (.tmp 3) (.const (.string ⟨#[]⟩)) 9, false, none⟩,
  ⟨some 5, .move (.tmp 4), false, none⟩,
  ⟨some 6, .move (.tmp 0), false, some (5, true)⟩,
  ⟨some 7, .binOp .neq 9 (.tmp 6) (.const (.string ⟨#[46]⟩)) 9, false, some (5, true)⟩,
  ⟨some 8, .pick (.tmp 5) (.tmp 7) (.const (.bool false)), false, none⟩,
  ⟨some 9, .move (.tmp 8), false, none⟩,
  ⟨some 10, .move (.tmp 0), false, some (9, true)⟩,
  ⟨some 11, .binOp .neq 9 (.tmp 10) (.const (.string ⟨#[46, 46]⟩)) 9, false, some (9, true)⟩,
  ⟨some 12, .pick (.tmp 9) (.tmp 11) (.const (.bool false)), false, none⟩,
  ⟨some 13, .move (.tmp 12), false, none⟩,
  ⟨some 14, .move (.tmp 0), false, some (13, true)⟩,
  ⟨some 15, .call ⟨.builtin .len, #[(.tmp 14)], #[9]⟩, false, some (13, true)⟩,
  ⟨some 16, .binOp .leq 3 (.tmp 15) (.const (.int .i64 255)) 3, false, some (13, true)⟩,
  ⟨some 17, .pick (.tmp 13) (.tmp 16) (.const (.bool false)), false, none⟩,
  ⟨some 18, .move (.tmp 17), false, none⟩,
  ⟨some 19, .move (.tmp 0), false, some (18, true)⟩,
  ⟨some 20, .call ⟨.value (.func 58), #[(.tmp 19), (.const (.int .u8 0))], #[9, 5]⟩, true, some (18, true)⟩,
  ⟨some 21, .binOp .lss 3 (.tmp 20) (.const (.int .i64 0)) 3, false, some (18, true)⟩,
  ⟨some 22, .pick (.tmp 18) (.tmp 21) (.const (.bool false)), false, none⟩,
  ⟨some 23, .move (.tmp 22), false, none⟩,
  ⟨some 24, .move (.tmp 0), false, some (23, true)⟩,
  ⟨some 25, .call ⟨.value (.func 58), #[(.tmp 24), (.const (.int .u8 47))], #[9, 5]⟩, true, some (23, true)⟩,
  ⟨some 26, .binOp .lss 3 (.tmp 25) (.const (.int .i64 0)) 3, false, some (23, true)⟩,
  ⟨some 27, .pick (.tmp 23) (.tmp 26) (.const (.bool false)), false, none⟩,
  ⟨some 2, .assign (.tmp 27), false, none⟩]) <|
 .seq (.keep [2]) <|
 .ret
theorem c22 : Tryd.f22.body.map (fun c => ((compile Tryd.prog kp22 [] kp22 c).map (·.1), fits Tryd.f22.ntmps c)) = some (some s22, true) := by kernel_rfl
theorem r22 : Tryd.f22.results.toList = [.tmp 2] := by kernel_rfl
-- (*marionette/node.Tree).Hold
abbrev kp24 : List Nat := []
def s24 : SC :=
 .seq (.ops [⟨some 5, .move (.tmp 0), false, none⟩,
  ⟨some 6, .move (.tmp 1), false, none⟩,
  ⟨some 7, .call ⟨.value (.func 29), #[(.tmp 5), (.tmp 6)], #[25, 3]⟩, true, none⟩,
  ⟨some 4, .assign (.tmp 7), false, none⟩]) <|
 .seq (.keep [4]) <|
 .seq (.ops [⟨some 8, .move (.tmp 4), false, none⟩,
  ⟨some 9, .binOp .neq 67 (.tmp 8) (.const (.pointer none)) 67, false, none⟩]) <|
 .seq (.keep [4, 9]) <|
 .cond (.tmp 9) (.ops [⟨some 10, .move (.tmp 4), false, none⟩,
  ⟨some 11, .nilCheck (.tmp 10), false, none⟩,
  ⟨some 12, .fieldAddr 69 (.tmp 11) 6, false, none⟩,
  ⟨some 13, .load 3 (.tmp 12), false, none⟩,
  ⟨some 14, .binOp .add 3 (.tmp 13) (.const (.int .i64 1)) 3, false, none⟩,
  ⟨some 15, .nilCheck (.tmp 10), false, none⟩,
  ⟨some 16, .fieldAddr 69 (.tmp 15) 6, false, none⟩,
  ⟨none, .store 3 (.tmp 16) (.tmp 14), true, none⟩]) <|
 .skip
theorem c24 : Tryd.f24.body.map (fun c => ((compile Tryd.prog kp24 [] kp24 c).map (·.1), fits Tryd.f24.ntmps c)) = some (some s24, true) := by kernel_rfl
theorem r24 : Tryd.f24.results.toList = [] := by kernel_rfl
-- (*marionette/node.Tree).Release
abbrev kp25 : List Nat := []
def s25 : SC :=
 .seq (.ops [⟨some 5, .move (.tmp 0), false, none⟩,
  ⟨some 6, .move (.tmp 1), false, none⟩,
  ⟨some 7, .call ⟨.value (.func 29), #[(.tmp 5), (.tmp 6)], #[25, 3]⟩, true, none⟩,
  ⟨some 4, .assign (.tmp 7), false, none⟩]) <|
 .seq (.keep [0, 1, 4]) <|
 .seq (.ops [⟨some 8, .move (.tmp 4), false, none⟩,
  ⟨some 9, .binOp .neq 67 (.tmp 8) (.const (.pointer none)) 67, false, none⟩,
  ⟨some 10, .move (.tmp 9), false, none⟩,
  ⟨some 11, .move (.tmp 4), false, some (10, true)⟩,
  ⟨some 12, .nilCheck (.tmp 11), false, some (10, true)⟩,
  ⟨some 13, .fieldAddr 69 (.tmp 12) 6, false, some (10, true)⟩,
  ⟨some 14, .load 3 (.tmp 13), false, some (10, true)⟩,
  ⟨some 15, .binOp .gtr 3 (.tmp 14) (.const (.int .i64 0)) 3, false, some (10, true)⟩,
  ⟨some 16, .pick (.tmp 10) (.tmp 15) (.const (.bool false)), false, none⟩]) <|
 .seq (.keep [0, 1, 4, 16]) <|
 .cond (.tmp 16) (.seq (.ops [⟨some 17, .move (.tmp 4), false, none⟩,
  ⟨some 18, .nilCheck (.tmp 17), false, none⟩,
  ⟨some 19, .fieldAddr 69 (.tmp 18) 6, false, none⟩,
  ⟨some 20, .load 3 (.tmp 19), false, none⟩,
  ⟨some 21, .binOp .sub 3 (.tmp 20) (.const (.int .i64 1)) 3, false, none⟩,
  ⟨some 22, .nilCheck (.tmp 17), false, none⟩,
  ⟨some 23, .fieldAddr 69 (.tmp 22) 6, false, none⟩,
  ⟨none, .store 3 (.tmp 23) (.tmp 21), true, none⟩]) <|
 .seq (.keep [0, 1]) <|
 .ops [⟨some 24, .move (.tmp 0), false, none⟩,
  ⟨some 25, .move (.tmp 1), false, none⟩,
  ⟨some 26, .call ⟨.value (.func 59), #[(.tmp 24), (.tmp 25)], #[25, 3]⟩, true, none⟩]) <|
 .skip
theorem c25 : Tryd.f25.body.map (fun c => ((compile Tryd.prog kp25 [] kp25 c).map (·.1), fits Tryd.f25.ntmps c)) = some (some s25, true) := by kernel_rfl
theorem r25 : Tryd.f25.results.toList = [] := by kernel_rfl
-- (*marionette/node.Tree).Len
abbrev kp26 : List Nat := [2]
def s26 : SC :=
 .seq (.ops [⟨some 2, .assign (.const (.int .i64 0)), false, none⟩]) <|
 .seq (.keep [0]) <|
 .seq (.seq (.ops [⟨some 3, .move (.tmp 0), false, none⟩,
  ⟨some 4, .binOp .eql 25 (.tmp 3) (.const (.pointer none)) 25, false, none⟩]) <|
 .seq (.keep [0, 4]) <|
 .cond (.tmp 4) (.seq (.ops [⟨some 2, .assign (.const (.int .i64 0)), false, none⟩]) <|
 .seq (.keep [2]) <|
 .ret) <|
 .skip) <|
 .seq (.keep [0]) <|
 .seq (.ops [⟨some 5, .move (.tmp 0), false, none⟩,
  ⟨some 6, .nilCheck (.tmp 5), false, none⟩,
  ⟨some 7, .fieldAddr 72 (.tmp 6) 0, false, none⟩,
  ⟨some 8, .load 70 (.tmp 7), false, none⟩,
  ⟨some 9, .call ⟨.builtin .len, #[(.tmp 8)], #[70]⟩, false, none⟩,
  ⟨some 2, .assign (.tmp 9), false, none⟩]) <|
 .seq (.keep [2]) <|
 .ret
theorem c26 : Tryd.f26.body.map (fun c => ((compile Tryd.prog kp26 [] kp26 c).map (·.1), fits Tryd.f26.ntmps c)) = some (some s26, true) := by kernel_rfl
theorem r26 : Tryd.f26.results.toList = [.tmp 2] := by kernel_rfl
-- (*marionette/node.Tree).place
abbrev kp28 : List Nat := [6, 7]
def s28 : SC :=
 .seq (.ops [⟨some 6, .assign (.const (.pointer none)), false, none⟩,
  ⟨some 7, .assign (.const (.int .i64 0)), false, none⟩]) <|
 .seq (.keep [0, 1, 2]) <|
 .seq (.ops [⟨some 11, .move (.tmp 0), false, none⟩,
  ⟨some 12, .move (.tmp 1), false, none⟩,
  ⟨some 13, .call ⟨.value (.func 36), #[(.tmp 11), (.tmp 12)], #[25, 3]⟩, true, none⟩,
  ⟨some 10, .move (.tmp 13), false, none⟩,
  ⟨some 14, .extract (.tmp 10) 0, false, none⟩,
  ⟨some 15, .extract (.tmp 10) 1, false, none⟩,
  ⟨some 8, .assign (.tmp 14), false, none⟩,
  ⟨some 9, .assign (.tmp 15), false, none⟩]) <|
 .seq (.keep [2, 8, 9]) <|
 .seq (.block 0 <| .seq (.ops [⟨some 17, .move (.tmp 9), false, none⟩,
  ⟨some 18, .binOp .neq 26 (.tmp 17) (.const (.int .i64 0)) 26, false, none⟩,
  ⟨some 16, .assign (.tmp 18), false, none⟩]) <|
 .seq (.keep [2, 8, 9, 16]) <|
 .cond (.tmp 16) (.seq (.ops [⟨some 19, .move (.tmp 9), false, none⟩,
  ⟨some 6, .assign (.const (.pointer none)), false, none⟩,
  ⟨some 7, .assign (.tmp 19), false, none⟩]) <|
 .seq (.keep [6, 7]) <|
 .ret) <|
 .seq (.ops [⟨some 21, .move (.tmp 2), false, none⟩,
  ⟨some 22, .binOp .eql 9 (.tmp 21) (.const (.string ⟨#[46]⟩)) 9, false, none⟩,
  ⟨some 23, .move (.tmp 22), false, none⟩,
  ⟨some 24, .move (.tmp 2), false, some (23, false)⟩,
  ⟨some 25, .binOp .eql 9 (.tmp 24) (.const (.string ⟨#[46, 46]⟩)) 9, false, some (23, false)⟩,
  ⟨some 26, .pick (.tmp 23) (.const (.bool true)) (.tmp 25), false, none⟩,
  ⟨some 20, .assign (.tmp 26), false, none⟩]) <|
 .seq (.keep [2, 8, 20]) <|
 .cond (.tmp 20) (.seq (.ops [⟨some 6, .assign (.const (.pointer none)), false, none⟩,
  ⟨some 7, .assign (.const (.int .i64 17)), false, none⟩]) <|
 .seq (.keep [6, 7]) <|
 .ret) <|
 .seq (.ops [⟨some 28, .move (.tmp 2), false, none⟩,
  ⟨some 29, .call ⟨.value (.func 22), #[(.tmp 28)], #[9]⟩, true, none⟩,
  ⟨some 30, .unOp .not 4 (.tmp 29), false, none⟩,
  ⟨some 27, .assign (.tmp 30), false, none⟩]) <|
 .seq (.keep [2, 8, 27]) <|
 .cond (.tmp 27) (.seq (.ops [⟨some 6, .assign (.const (.pointer none)), false, none⟩,
  ⟨some 7, .assign (.const (.int .i64 22)), false, none⟩]) <|
 .seq (.keep [6, 7]) <|
 .ret) <|
 .seq (.ops [⟨some 32, .move (.tmp 8), false, none⟩,
  ⟨some 33, .move (.tmp 2), false, none⟩,
  ⟨some 34, .call ⟨.value (.func 37), #[(.tmp 32), (.tmp 33)], #[67, 9]⟩, true, none⟩,
  ⟨some 35, .binOp .geq 3 (.tmp 34) (.const (.int .i64 0)) 3, false, none⟩,
  ⟨some 31, .assign (.tmp 35), false, none⟩]) <|
 .seq (.keep [8, 31]) <|
 .cond (.tmp 31) (.seq (.ops [⟨some 6, .assign (.const (.pointer none)), false, none⟩,
  ⟨some 7, .assign (.const (.int .i64 17)), false, none⟩]) <|
 .seq (.keep [6, 7]) <|
 .ret) <|
 .seq (.ops [⟨some 37, .move (.tmp 8), false, none⟩,
  ⟨some 38, .call ⟨.value (.func 34), #[(.tmp 37)], #[67]⟩, true, none⟩,
  ⟨some 36, .assign (.tmp 38), false, none⟩]) <|
 .seq (.keep [8, 36]) <|
 .cond (.tmp 36) (.seq (.ops [⟨some 6, .assign (.const (.pointer none)), false, none⟩,
  ⟨some 7, .assign (.const (.int .i64 2)), false, none⟩]) <|
 .seq (.keep [6, 7]) <|
 .ret) <|
 .skip) <|
 .seq (.keep [8]) <|
 .seq (.ops [⟨some 39, .move (.tmp 8), false, none⟩,
  ⟨some 6, .assign (.tmp 39), false, none⟩,
  ⟨some 7, .assign (.const (.int .i64 0)), false, none⟩]) <|
 .seq (.keep [6, 7]) <|
 .ret
theorem c28 : Tryd.f28.body.map (fun c => ((compile Tryd.prog kp28 [] kp28 c).map (·.1), fits Tryd.f28.ntmps c)) = some (some s28, true) := by kernel_rfl
theorem r28 : Tryd.f28.results.toList = [.tmp 6, .tmp 7] := by kernel_rfl
-- (*marionette/node.Tree).get
abbrev kp29 : List Nat := [4]
def s29 : SC :=
 .seq (.ops [⟨some 4, .assign (.const (.pointer none)), false, none⟩]) <|
 .seq (.keep [0, 1]) <|
 .seq (.seq (.ops [⟨some 5, .move (.tmp 0), false, none⟩,
  ⟨some 6, .binOp .eql 25 (.tmp 5) (.const (.pointer none)) 25, false, none⟩]) <|
 .seq (.keep [0, 1, 6]) <|
 .cond (.tmp 6) (.seq (.ops [⟨some 4, .assign (.const (.pointer none)), false, none⟩]) <|
 .seq (.keep [4]) <|
 .ret) <|
 .skip) <|
 .seq (.keep [0, 1]) <|
 .seq (.ops [⟨some 7, .move (.tmp 0), false, none⟩,
  ⟨some 8, .nilCheck (.tmp 7), false, none⟩,
  ⟨some 9, .fieldAddr 72 (.tmp 8) 0, false, none⟩,
  ⟨some 10, .load 70 (.tmp 9), false, none⟩,
  ⟨some 11, .move (.tmp 1), false, none⟩,
  ⟨some 12, .lookup 70 (.tmp 10) (.tmp 11) false, false, none⟩,
  ⟨some 4, .assign (.tmp 12), false, none⟩]) <|
 .seq (.keep [4]) <|
 .ret
theorem c29 : Tryd.f29.body.map (fun c => ((compile Tryd.prog kp29 [] kp29 c).map (·.1), fits Tryd.f29.ntmps c)) = some (some s29, true) := by kernel_rfl
theorem r29 : Tryd.f29.results.toList = [.tmp 4] := by kernel_rfl
-- marionette/node.good
abbrev kp30 : List Nat := [6]
def s30 : SC :=
 .seq (.ops [⟨some 6, .assign (.const (.bool false)), false, none⟩]) <|
 .seq (.keep [0, 1, 2]) <|
 .seq (.seq (.ops [⟨some 7, .move (.tmp 1), false, none⟩,
  ⟨some 8, .binOp .lss 3 (.tmp 7) (.const (.int .i64 0)) 3, false, none⟩,
  ⟨some 9, .move (.tmp 8), false, none⟩,
  ⟨some 10, .move (.tmp 1), false, some (9, false)⟩,
  ⟨some 11, .binOp .gtr 3 (.tmp 10) (.const (.int .i64 511)) 3, false, some (9, false)⟩,
  ⟨some 12, .pick (.tmp 9) (.const (.bool true)) (.tmp 11), false, none⟩,
  ⟨some 13, .move (.tmp 12), false, none⟩,
  ⟨some 14, .move (.tmp 2), false, some (13, false)⟩,
  ⟨some 15, .call ⟨.builtin .len, #[(.tmp 14)], #[23]⟩, false, some (13, false)⟩,
  ⟨some 16, .binOp .gtr 3 (.tmp 15) (.const (.int .i64 1048576)) 3, false, some (13, false)⟩,
  ⟨some 17, .pick (.tmp 13) (.const (.bool true)) (.tmp 16), false, none⟩]) <|
 .seq (.keep [0, 2, 17]) <|
 .cond (.tmp 17) (.seq (.ops [⟨some 6, .assign (.const (.bool false)), false, none⟩]) <|
 .seq (.keep [6]) <|
 .ret) <|
 .skip) <|
 .seq (.keep [0, 2]) <|
 .seq (.seq (.ops [⟨some 18, .move (.tmp 0), false, none⟩]) <|
 .seq (.keep [2, 18]) <|
 .block 0 <| .seq (.ops [⟨some 20, .binOp .eql 3 (.tmp 18) (.const (.int .i64 1)) 3, false, none⟩,
  ⟨some 19, .assign (.tmp 20), false, none⟩]) <|
 .seq (.keep [2, 18, 19]) <|
 .cond (.tmp 19) (.seq (.ops [⟨some 6, .assign (.const (.bool true)), false, none⟩]) <|
 .seq (.keep [6]) <|
 .ret) <|
 .seq (.ops [⟨some 22, .binOp .eql 3 (.tmp 18) (.const (.int .i64 3)) 3, false, none⟩,
  ⟨some 21, .assign (.tmp 22), false, none⟩]) <|
 .seq (.keep [2, 18, 21]) <|
 .cond (.tmp 21) (.seq (.ops [⟨some 23, .move (.tmp 2), false, none⟩,
  ⟨some 24, .call ⟨.builtin .len, #[(.tmp 23)], #[23]⟩, false, none⟩,
  ⟨some 25, .binOp .geq 3 (.tmp 24) (.const (.int .i64 1)) 3, false, none⟩,
  ⟨some 26, .move (.tmp 25), false, none⟩,
  ⟨some 27, .move (.tmp 2), false, some (26, true)⟩,
  ⟨some 28, .call ⟨.builtin .len, #[(.tmp 27)], #[23]⟩, false, some (26, true)⟩,
  ⟨some 29, .binOp .leq 3 (.tmp 28) (.const (.int .i64 4096)) 3, false, some (26, true)⟩,
  ⟨some 30, .pick (.tmp 26) (.tmp 29) (.const (.bool false)), false, none⟩,
  ⟨some 31, .move (.tmp 30), false, none⟩,
  ⟨some 32, .move (.tmp 2), false, some (31, true)⟩,
  ⟨some 33, .call ⟨.value (.func 62), #[(.tmp 32), (.const (.int .u8 0))], #[23, 5]⟩, true, some (31, true)⟩,
  ⟨some 34, .binOp .lss 3 (.tmp 33) (.const (.int .i64 0)) 3, false, some (31, true)⟩,
  ⟨some 35, .pick (.tmp 31) (.tmp 34) (.const (.bool false)), false, none⟩,
  ⟨some 6, .assign (.tmp 35), false, none⟩]) <|
 .seq (.keep [6]) <|
 .ret) <|
 .seq (.seq (.ops [⟨some 37, .binOp .eql 3 (.tmp 18) (.const (.int .i64 2)) 3, false, none⟩,
  ⟨some 36, .assign (.tmp 37), false, none⟩]) <|
 .seq (.keep [2, 18, 36]) <|
 .cond (.tmp 36) (.skip) <|
 .seq (.ops [⟨some 38, .binOp .eql 3 (.tmp 18) (.const (.int .i64 4)) 3, false, none⟩,
  ⟨some 36, .assign (.tmp 38), false, none⟩]) <|
 .seq (.keep [2, 18, 36]) <|
 .cond (.tmp 36) (.skip) <|
 .ops [⟨some 39, .binOp .eql 3 (.tmp 18) (.const (.int .i64 5)) 3, false, none⟩,
  ⟨some 36, .assign (.tmp 39), false, none⟩]) <|
 .seq (.keep [2, 36]) <|
 .cond (.tmp 36) (.seq (.ops [⟨some 40, .move (.tmp 2), false, none⟩,
  ⟨some 41, .call ⟨.builtin .len, #[(.tmp 40)], #[23]⟩, false, none⟩,
  ⟨some 42, .binOp .eql 3 (.tmp 41) (.const (.int .i64 0)) 3, false, none⟩,
  ⟨some 6, .assign (.tmp 42), false, none⟩]) <|
 .seq (.keep [6]) <|
 .ret) <|
 .skip) <|
 .seq (.keep []) <|
 .seq (.ops [⟨some 6, .assign (.const (.bool false)), false, none⟩]) <|
 .seq (.keep [6]) <|
 .ret
theorem c30 : Tryd.f30.body.map (fun c => ((compile Tryd.prog kp30 [] kp30 c).map (·.1), fits Tryd.f30.ntmps c)) = some (some s30, true) := by kernel_rfl
theorem r30 : Tryd.f30.results.toList = [.tmp 6] := by kernel_rfl
-- (*marionette/node.Tree).free
abbrev kp31 : List Nat := [2]
def s31 : SC :=
 .seq (.ops [⟨some 2, .assign (.const (.int .i64 0)), false, none⟩]) <|
 .seq (.keep [0]) <|
 .seq (.ops [⟨some 3, .assign (.const (.int .i64 1)), false, none⟩]) <|
 .seq (.keep [0, 3]) <|
 .seq (.block 0 <| .loop <| .seq (.seq (.seq (.ops [⟨some 4, .move (.tmp 0), false, none⟩,
  ⟨some 5, .nilCheck (.tmp 4), false, none⟩,
  ⟨some 6, .fieldAddr 72 (.tmp 5) 0, false, none⟩,
  ⟨some 7, .load 70 (.tmp 6), false, none⟩,
  ⟨some 8, .move (.tmp 3), false, none⟩,
  ⟨some 9, .lookup 70 (.tmp 7) (.tmp 8) false, false, none⟩,
  ⟨some 10, .binOp .neq 67 (.tmp 9) (.const (.pointer none)) 67, false, none⟩]) <|
 .seq (.keep [0, 3, 10]) <|
 .cond (.tmp 10) (.skip) <|
 .exit 0) <|
 .seq (.keep [0, 3]) <|
 .block 1 <| .ops [⟨some 11, .move (.tmp 3), false, none⟩,
  ⟨some 12, .binOp .add 3 (.tmp 11) (.const (.int .i64 1)) 3, false, none⟩,
  ⟨some 3, .assign (.tmp 12), false, none⟩]) <|
 .keep [0, 3]) <|
 .seq (.keep [3]) <|
 .seq (.ops [⟨some 13, .move (.tmp 3), false, none⟩,
  ⟨some 2, .assign (.tmp 13), false, none⟩]) <|
 .seq (.keep [2]) <|
 .ret
theorem c31 : Tryd.f31.body.map (fun c => ((compile Tryd.prog kp31 [] kp31 c).map (·.1), fits Tryd.f31.ntmps c)) = some (some s31, true) := by kernel_rfl
theorem r31 : Tryd.f31.results.toList = [.tmp 2] := by kernel_rfl
-- bytes.Clone
abbrev kp32 : List Nat := [2]
def s32 : SC :=
 .seq (.ops [⟨some 2, .assign (.const (.slice none 0 0)), false, none⟩]) <|
 .seq (.keep [0]) <|
 .seq (.seq (.ops [⟨some 3, .move (.tmp 0), false, none⟩,
  ⟨some 4, .binOp .eql 23 (.tmp 3) (.const (.slice none 0 0)) 23, false, none⟩]) <|
 .seq (.keep [0, 4]) <|
 .cond (.tmp 4) (.seq (.ops [⟨some 2, .assign (.const (.slice none 0 0)), false, none⟩]) <|
 .seq (.keep [2]) <|
 .ret) <|
 .skip) <|
 .seq (.keep [0]) <|
 .seq (.ops [⟨some 5, .buildSlice 23 0 #[], true, none⟩,
  ⟨some 6, .move (.tmp 0), false, none⟩,
  ⟨some 7, .call ⟨.builtin .append, #[(.tmp 5), (.tmp 6)], #[23, 23]⟩, true, none⟩,
  ⟨some 2, .assign (.tmp 7), false, none⟩]) <|
 .seq (.keep [2]) <|
 .ret
theorem c32 : Tryd.f32.body.map (fun c => ((compile Tryd.prog kp32 [] kp32 c).map (·.1), fits Tryd.f32.ntmps c)) = some (some s32, true) := by kernel_rfl
theorem r32 : Tryd.f32.results.toList = [.tmp 2] := by kernel_rfl
-- (*marionette/node.Tree).plain
abbrev kp33 : List Nat := [4, 5]
def s33 : SC :=
 .seq (.ops [⟨some 4, .assign (.const (.pointer none)), false, none⟩,
  ⟨some 5, .assign (.const (.int .i64 0)), false, none⟩]) <|
 .seq (.keep [0, 1]) <|
 .seq (.ops [⟨some 7, .move (.tmp 0), false, none⟩,
  ⟨some 8, .move (.tmp 1), false, none⟩,
  ⟨some 9, .call ⟨.value (.func 29), #[(.tmp 7), (.tmp 8)], #[25, 3]⟩, true, none⟩,
  ⟨some 6, .assign (.tmp 9), false, none⟩]) <|
 .seq (.keep [6]) <|
 .block 0 <| .seq (.ops [⟨some 12, .move (.tmp 6), false, none⟩,
  ⟨some 13, .binOp .eql 67 (.tmp 12) (.const (.pointer none)) 67, false, none⟩,
  ⟨some 11, .assign (.tmp 13), false, none⟩]) <|
 .seq (.keep [6, 11]) <|
 .cond (.tmp 11) (.seq (.ops [⟨some 4, .assign (.const (.pointer none)), false, none⟩,
  ⟨some 5, .assign (.const (.int .i64 2)), false, none⟩]) <|
 .seq (.keep [4, 5]) <|
 .ret) <|
 .seq (.ops [⟨some 15, .move (.tmp 6), false, none⟩,
  ⟨some 16, .nilCheck (.tmp 15), false, none⟩,
  ⟨some 17, .fieldAddr 69 (.tmp 16) 0, false, none⟩,
  ⟨some 18, .load 3 (.tmp 17), false, none⟩,
  ⟨some 19, .binOp .eql 3 (.tmp 18) (.const (.int .i64 2)) 3, false, none⟩,
  ⟨some 14, .assign (.tmp 19), false, none⟩]) <|
 .seq (.keep [6, 14]) <|
 .cond (.tmp 14) (.seq (.ops [⟨some 4, .assign (.const (.pointer none)), false, none⟩,
  ⟨some 5, .assign (.const (.int .i64 21)), false, none⟩]) <|
 .seq (.keep [4, 5]) <|
 .ret) <|
 .seq (.ops [⟨some 21, .move (.tmp 6), false, none⟩,
  ⟨some 22, .nilCheck (.tmp 21), false, none⟩,
  ⟨some 23, .fieldAddr 69 (.tmp 22) 0, false, none⟩,
  ⟨some 24, .load 3 (.tmp 23), false, none⟩,
  ⟨some 25, .binOp .eql 3 (.tmp 24) (.const (.int .i64 3)) 3, false, none⟩,
  ⟨some 20, .assign (.tmp 25), false, none⟩]) <|
 .seq (.keep [6, 20]) <|
 .cond (.tmp 20) (.seq (.ops [⟨some 4, .assign (.const (.pointer none)), false, none⟩,
  ⟨some 5, .assign (.const (.int .i64 22)), false, none⟩]) <|
 .seq (.keep [4, 5]) <|
 .ret) <|
 .seq (.ops [⟨some 10, .move (.tmp 6), false, none⟩,
  ⟨some 4, .assign (.tmp 10), false, none⟩,
  ⟨some 5, .assign (.const (.int .i64 0)), false, none⟩]) <|
 .seq (.keep [4, 5]) <|
 .ret
theorem c33 : Tryd.f33.body.map (fun c => ((compile Tryd.prog kp33 [] kp33 c).map (·.1), fits Tryd.f33.ntmps c)) = some (some s33, true) := by kernel_rfl
theorem r33 : Tryd.f33.results.toList = [.tmp 4, .tmp 5] := by kernel_rfl
-- (*marionette/node.file).dead
abbrev kp34 : List Nat := [2]
def s34 : SC :=
 .seq (.ops [⟨some 2, .assign (.const (.bool false)), false, none⟩]) <|
 .seq (.keep [0]) <|
 .seq (.ops [⟨some 3, .move (.tmp 0), false, none⟩,
  ⟨some 4, .nilCheck (.tmp 3), false, none⟩,
  ⟨some 5, .fieldAddr 69 (.tmp 4) 0, false, none⟩,
  ⟨some 6, .load 3 (.tmp 5), false, none⟩,
  ⟨some 7, .binOp .eql 3 (.tmp 6) (.const (.int .i64 2)) 3, false, none⟩,
  ⟨some 8, .move (.tmp 7), false, none⟩,
  ⟨some 9, .move (.tmp 0), false, some (8, true)⟩,
  ⟨some 10, .nilCheck (.tmp 9), false, some (8, true)⟩,
  ⟨some 11, .fieldAddr 69 (.tmp 10) 4, false, some (8, true)⟩,
  ⟨some 12, .load 3 (.tmp 11), false, some (8, true)⟩,
  ⟨some 13, .binOp .eql 3 (.tmp 12) (.const (.int .i64 0)) 3, false, some (8, true)⟩,
  ⟨some 14, .pick (.tmp 8) (.tmp 13) (.const (.bool false)), false, none⟩,
  ⟨some 2, .assign (.tmp 14), false, none⟩]) <|
 .seq (.keep [2]) <|
 .ret
theorem c34 : Tryd.f34.body.map (fun c => ((compile Tryd.prog kp34 [] kp34 c).map (·.1), fits Tryd.f34.ntmps c)) = some (some s34, true) := by kernel_rfl
theorem r34 : Tryd.f34.results.toList = [.tmp 2] := by kernel_rfl
-- marionette/marionetteref01.Udec
abbrev kp35 : List Nat := [2]
def s35 : SC :=
 .seq (.ops [⟨some 2, .assign (.const (.string ⟨#[]⟩)), false, none⟩]) <|
 .seq (.keep [0]) <|
 .seq (.ops [⟨some 3, .assign (.const (.string ⟨#[]⟩)), false, none⟩]) <|
 .seq (.keep [0, 3]) <|
 .block 0 <| .loop <| .seq (.block 1 <| .seq (.ops [⟨some 4, .move (.tmp 0), false, none⟩,
  ⟨some 5, .binOp .rem 83 (.tmp 4) (.const (.int .u64 10)) 83, false, none⟩,
  ⟨some 6, .convert 83 5 (.tmp 5), false, none⟩,
  ⟨some 7, .binOp .add 5 (.const (.int .u8 48)) (.tmp 6) 5, false, none⟩,
  ⟨some 8, .buildSlice 23 1 #[(0, (.tmp 7))], true, none⟩,
  ⟨some 9, .convert 23 9 (.tmp 8), true, none⟩,
  ⟨some 10, .move (.tmp 3), false, none⟩,
  ⟨some 11, .binOp .add 9 (.tmp 9) (.tmp 10) 9, false, none⟩,
  ⟨some 3, .assign (.tmp 11), false, none⟩]) <|
 .seq (.keep [0, 3]) <|
 .seq (.ops [⟨some 12, .move (.tmp 0), false, none⟩,
  ⟨some 13, .binOp .quo 83 (.tmp 12) (.const (.int .u64 10)) 83, false, none⟩,
  ⟨some 0, .assign (.tmp 13), false, none⟩]) <|
 .seq (.keep [0, 3]) <|
 .seq (.ops [⟨some 14, .move (.tmp 0), false, none⟩,
  ⟨some 15, .binOp .eql 83 (.tmp 14) (.const (.int .u64 0)) 83, false, none⟩]) <|
 .seq (.keep [0, 3, 15]) <|
 .cond (.tmp 15) (.seq (.ops [⟨some 16, .move (.tmp 3), false, none⟩,
  ⟨some 2, .assign (.tmp 16), false, none⟩]) <|
 .seq (.keep [2]) <|
 .ret) <|
 .skip) <|
 .keep [0, 3]
theorem c35 : Tryd.f35.body.map (fun c => ((compile Tryd.prog kp35 [] kp35 c).map (·.1), fits Tryd.f35.ntmps c)) = some (some s35, true) := by kernel_rfl
theorem r35 : Tryd.f35.results.toList = [.tmp 2] := by kernel_rfl
-- (*marionette/node.Tree).dir
abbrev kp36 : List Nat := [4, 5]
def s36 : SC :=
 .seq (.ops [⟨some 4, .assign (.const (.pointer none)), false, none⟩,
  ⟨some 5, .assign (.const (.int .i64 0)), false, none⟩]) <|
 .seq (.keep [0, 1]) <|
 .seq (.ops [⟨some 7, .move (.tmp 0), false, none⟩,
  ⟨some 8, .move (.tmp 1), false, none⟩,
  ⟨some 9, .call ⟨.value (.func 29), #[(.tmp 7), (.tmp 8)], #[25, 3]⟩, true, none⟩,
  ⟨some 6, .assign (.tmp 9), false, none⟩]) <|
 .seq (.keep [6]) <|
 .block 0 <| .seq (.ops [⟨some 12, .move (.tmp 6), false, none⟩,
  ⟨some 13, .binOp .eql 67 (.tmp 12) (.const (.pointer none)) 67, false, none⟩,
  ⟨some 11, .assign (.tmp 13), false, none⟩]) <|
 .seq (.keep [6, 11]) <|
 .cond (.tmp 11) (.seq (.ops [⟨some 4, .assign (.const (.pointer none)), false, none⟩,
  ⟨some 5, .assign (.const (.int .i64 2)), false, none⟩]) <|
 .seq (.keep [4, 5]) <|
 .ret) <|
 .seq (.ops [⟨some 15, .move (.tmp 6), false, none⟩,
  ⟨some 16, .nilCheck (.tmp 15), false, none⟩,
  ⟨some 17, .fieldAddr 69 (.tmp 16) 0, false, none⟩,
  ⟨some 18, .load 3 (.tmp 17), false, none⟩,
  ⟨some 19, .binOp .neq 3 (.tmp 18) (.const (.int .i64 2)) 3, false, none⟩,
  ⟨some 14, .assign (.tmp 19), false, none⟩]) <|
 .seq (.keep [6, 14]) <|
 .cond (.tmp 14) (.seq (.ops [⟨some 4, .assign (.const (.pointer none)), false, none⟩,
  ⟨some 5, .assign (.const (.int .i64 20)), false, none⟩]) <|
 .seq (.keep [4, 5]) <|
 .ret) <|
 .seq (.ops [⟨some 10, .move (.tmp 6), false, none⟩,
  ⟨some 4, .assign (.tmp 10), false, none⟩,
  ⟨some 5, .assign (.const (.int .i64 0)), false, none⟩]) <|
 .seq (.keep [4, 5]) <|
 .ret
theorem c36 : Tryd.f36.body.map (fun c => ((compile Tryd.prog kp36 [] kp36 c).map (·.1), fits Tryd.f36.ntmps c)) = some (some s36, true) := by kernel_rfl
theorem r36 : Tryd.f36.results.toList = [.tmp 4, .tmp 5] := by kernel_rfl
-- (*marionette/node.file).at
abbrev kp37 : List Nat := [4]
def s37 : SC :=
 .seq (.ops [⟨some 3, .box 9 (.tmp 1), true, none⟩,
  ⟨some 4, .assign (.const (.int .i64 0)), false, none⟩]) <|
 .seq (.keep [0, 3]) <|
 .seq (.ops [⟨some 5, .move (.tmp 0), false, none⟩,
  ⟨some 6, .nilCheck (.tmp 5), false, none⟩,
  ⟨some 7, .fieldAddr 69 (.tmp 6) 3, false, none⟩,
  ⟨some 8, .load 55 (.tmp 7), false, none⟩,
  ⟨some 9, .makeFunc (.func 64) #[] #[(.tmp 3)], false, none⟩,
  ⟨some 10, .call ⟨.value (.func 63), #[(.tmp 8), (.tmp 9)], #[55, 106]⟩, true, none⟩,
  ⟨some 4, .assign (.tmp 10), false, none⟩]) <|
 .seq (.keep [4]) <|
 .ret
theorem c37 : Tryd.f37.body.map (fun c => ((compile Tryd.prog kp37 [] kp37 c).map (·.1), fits Tryd.f37.ntmps c)) = some (some s37, true) := by kernel_rfl
theorem r37 : Tryd.f37.results.toList = [.tmp 4] := by kernel_rfl
-- marionette/node.fits
abbrev kp38 : List Nat := [4]
def s38 : SC :=
 .seq (.ops [⟨some 4, .assign (.const (.int .i64 0)), false, none⟩]) <|
 .seq (.keep [0, 1]) <|
 .seq (.block 0 <| .seq (.ops [⟨some 6, .move (.tmp 1), false, none⟩,
  ⟨some 7, .move (.tmp 6), false, none⟩,
  ⟨some 8, .move (.tmp 0), false, some (7, true)⟩,
  ⟨some 9, .nilCheck (.tmp 8), false, some (7, true)⟩,
  ⟨some 10, .fieldAddr 69 (.tmp 9) 0, false, some (7, true)⟩,
  ⟨some 11, .load 3 (.tmp 10), false, some (7, true)⟩,
  ⟨some 12, .binOp .neq 3 (.tmp 11) (.const (.int .i64 2)) 3, false, some (7, true)⟩,
  ⟨some 13, .pick (.tmp 7) (.tmp 12) (.const (.bool false)), false, none⟩,
  ⟨some 5, .assign (.tmp 13), false, none⟩]) <|
 .seq (.keep [0, 1, 5]) <|
 .cond (.tmp 5) (.seq (.ops [⟨some 4, .assign (.const (.int .i64 20)), false, none⟩]) <|
 .seq (.keep [4]) <|
 .ret) <|
 .seq (.ops [⟨some 15, .move (.tmp 1), false, none⟩,
  ⟨some 16, .unOp .not 4 (.tmp 15), false, none⟩,
  ⟨some 17, .move (.tmp 16), false, none⟩,
  ⟨some 18, .move (.tmp 0), false, some (17, true)⟩,
  ⟨some 19, .nilCheck (.tmp 18), false, some (17, true)⟩,
  ⟨some 20, .fieldAddr 69 (.tmp 19) 0, false, some (17, true)⟩,
  ⟨some 21, .load 3 (.tmp 20), false, some (17, true)⟩,
  ⟨some 22, .binOp .eql 3 (.tmp 21) (.const (.int .i64 2)) 3, false, some (17, true)⟩,
  ⟨some 23, .pick (.tmp 17) (.tmp 22) (.const (.bool false)), false, none⟩,
  ⟨some 14, .assign (.tmp 23), false, none⟩]) <|
 .seq (.keep [0, 14]) <|
 .cond (.tmp 14) (.seq (.ops [⟨some 4, .assign (.const (.int .i64 21)), false, none⟩]) <|
 .seq (.keep [4]) <|
 .ret) <|
 .seq (.ops [⟨some 25, .move (.tmp 0), false, none⟩,
  ⟨some 26, .nilCheck (.tmp 25), false, none⟩,
  ⟨some 27, .fieldAddr 69 (.tmp 26) 3, false, none⟩,
  ⟨some 28, .load 55 (.tmp 27), false, none⟩,
  ⟨some 29, .call ⟨.builtin .len, #[(.tmp 28)], #[55]⟩, false, none⟩,
  ⟨some 30, .binOp .gtr 3 (.tmp 29) (.const (.int .i64 0)) 3, false, none⟩,
  ⟨some 24, .assign (.tmp 30), false, none⟩]) <|
 .seq (.keep [24]) <|
 .cond (.tmp 24) (.seq (.ops [⟨some 4, .assign (.const (.int .i64 39)), false, none⟩]) <|
 .seq (.keep [4]) <|
 .ret) <|
 .skip) <|
 .seq (.keep []) <|
 .seq (.ops [⟨some 4, .assign (.const (.int .i64 0)), false, none⟩]) <|
 .seq (.keep [4]) <|
 .ret
theorem c38 : Tryd.f38.body.map (fun c => ((compile Tryd.prog kp38 [] kp38 c).map (·.1), fits Tryd.f38.ntmps c)) = some (some s38, true) := by kernel_rfl
theorem r38 : Tryd.f38.results.toList = [.tmp 4] := by kernel_rfl
-- (*marionette/node.Tree).drop
abbrev kp39 : List Nat := []
def s39 : SC :=
 .seq (.ops [⟨some 8, .move (.tmp 1), false, none⟩,
  ⟨some 9, .nilCheck (.tmp 8), false, none⟩,
  ⟨some 10, .fieldAddr 69 (.tmp 9) 3, false, none⟩,
  ⟨some 11, .load 55 (.tmp 10), false, none⟩,
  ⟨some 12, .move (.tmp 2), false, none⟩,
  ⟨some 13, .indexAddr 55 (.tmp 11) (.tmp 12), false, none⟩,
  ⟨some 14, .fieldAddr 59 (.tmp 13) 1, false, none⟩,
  ⟨some 15, .load 3 (.tmp 14), false, none⟩,
  ⟨some 6, .assign (.tmp 15), false, none⟩]) <|
 .seq (.keep [0, 1, 2, 6]) <|
 .seq (.ops [⟨some 16, .move (.tmp 1), false, none⟩,
  ⟨some 17, .move (.tmp 1), false, none⟩,
  ⟨some 18, .nilCheck (.tmp 17), false, none⟩,
  ⟨some 19, .fieldAddr 69 (.tmp 18) 3, false, none⟩,
  ⟨some 20, .load 55 (.tmp 19), false, none⟩,
  ⟨some 21, .move (.tmp 2), false, none⟩,
  ⟨some 22, .move (.tmp 2), false, none⟩,
  ⟨some 23, .binOp .add 3 (.tmp 22) (.const (.int .i64 1)) 3, false, none⟩,
  ⟨some 24, .call ⟨.value (.func 65), #[(.tmp 20), (.tmp 21), (.tmp 23)], #[55, 3, 3]⟩, true, none⟩,
  ⟨some 25, .nilCheck (.tmp 16), false, none⟩,
  ⟨some 26, .fieldAddr 69 (.tmp 25) 3, false, none⟩,
  ⟨none, .store 55 (.tmp 26) (.tmp 24), true, none⟩]) <|
 .seq (.keep [0, 6]) <|
 .seq (.ops [⟨some 27, .move (.tmp 0), false, none⟩,
  ⟨some 28, .nilCheck (.tmp 27), false, none⟩,
  ⟨some 29, .fieldAddr 72 (.tmp 28) 0, false, none⟩,
  ⟨some 30, .load 70 (.tmp 29), false, none⟩,
  ⟨some 31, .move (.tmp 6), false, none⟩,
  ⟨some 32, .lookup 70 (.tmp 30) (.tmp 31) false, false, none⟩,
  ⟨some 7, .assign (.tmp 32), false, none⟩]) <|
 .seq (.keep [0, 6, 7]) <|
 .seq (.ops [⟨some 33, .move (.tmp 7), false, none⟩,
  ⟨some 34, .nilCheck (.tmp 33), false, none⟩,
  ⟨some 35, .fieldAddr 69 (.tmp 34) 5, false, none⟩,
  ⟨some 36, .load 3 (.tmp 35), false, none⟩,
  ⟨some 37, .binOp .sub 3 (.tmp 36) (.const (.int .i64 1)) 3, false, none⟩,
  ⟨some 38, .nilCheck (.tmp 33), false, none⟩,
  ⟨some 39, .fieldAddr 69 (.tmp 38) 5, false, none⟩,
  ⟨none, .store 3 (.tmp 39) (.tmp 37), true, none⟩]) <|
 .seq (.keep [0, 6, 7]) <|
 .seq (.seq (.ops [⟨some 40, .move (.tmp 7), false, none⟩,
  ⟨some 41, .nilCheck (.tmp 40), false, none⟩,
  ⟨some 42, .fieldAddr 69 (.tmp 41) 0, false, none⟩,
  ⟨some 43, .load 3 (.tmp 42), false, none⟩,
  ⟨some 44, .binOp .eql 3 (.tmp 43) (.const (.int .i64 2)) 3, false, none⟩]) <|
 .seq (.keep [0, 6, 7, 44]) <|
 .cond (.tmp 44) (.ops [⟨some 45, .move (.tmp 7), false, none⟩,
  ⟨some 46, .nilCheck (.tmp 45), false, none⟩,
  ⟨some 47, .fieldAddr 69 (.tmp 46) 4, false, none⟩,
  ⟨none, .store 3 (.tmp 47) (.const (.int .i64 0)), true, none⟩]) <|
 .skip) <|
 .seq (.keep [0, 6]) <|
 .ops [⟨some 48, .move (.tmp 0), false, none⟩,
  ⟨some 49, .move (.tmp 6), false, none⟩,
  ⟨some 50, .call ⟨.value (.func 59), #[(.tmp 48), (.tmp 49)], #[25, 3]⟩, true, none⟩]
theorem c39 : Tryd.f39.body.map (fun c => ((compile Tryd.prog kp39 [] kp39 c).map (·.1), fits Tryd.f39.ntmps c)) = some (some s39, true) := by kernel_rfl
theorem r39 : Tryd.f39.results.toList = [] := by kernel_rfl
-- (*marionette/marionetteref15.Tree).Make
abbrev kp40 : List Nat := [12, 13]
def s40 : SC :=
 .seq (.ops [⟨some 12, .assign (.const (.int .i64 0)), false, none⟩,
  ⟨some 13, .assign (.const (.int .i64 0)), false, none⟩]) <|
 .seq (.keep [0, 1, 2, 3, 4, 5]) <|
 .seq (.ops [⟨some 17, .move (.tmp 0), false, none⟩,
  ⟨some 18, .move (.tmp 1), false, none⟩,
  ⟨some 19, .call ⟨.value (.func 66), #[(.tmp 17), (.tmp 18)], #[48, 3]⟩, true, none⟩,
  ⟨some 14, .assign (.tmp 19), false, none⟩]) <|
 .seq (.keep [0, 1, 2, 3, 4, 5, 14]) <|
 .seq (.seq (.ops [⟨some 20, .move (.tmp 14), false, none⟩,
  ⟨some 21, .binOp .neq 26 (.tmp 20) (.const (.int .i64 0)) 26, false, none⟩]) <|
 .seq (.keep [0, 1, 2, 3, 4, 5, 14, 21]) <|
 .cond (.tmp 21) (.seq (.ops [⟨some 22, .move (.tmp 14), false, none⟩,
  ⟨some 12, .assign (.const (.int .i64 0)), false, none⟩,
  ⟨some 13, .assign (.tmp 22), false, none⟩]) <|
 .seq (.keep [12, 13]) <|
 .ret) <|
 .skip) <|
 .seq (.keep [0, 1, 2, 3, 4, 5]) <|
 .seq (.seq (.ops [⟨some 23, .move (.tmp 3), false, none⟩,
  ⟨some 24, .move (.tmp 4), false, none⟩,
  ⟨some 25, .move (.tmp 5), false, none⟩,
  ⟨some 26, .call ⟨.value (.func 67), #[(.tmp 23), (.tmp 24), (.tmp 25)], #[3, 3, 23]⟩, true, none⟩,
  ⟨some 27, .unOp .not 4 (.tmp 26), false, none⟩]) <|
 .seq (.keep [0, 1, 2, 3, 4, 5, 27]) <|
 .cond (.tmp 27) (.seq (.ops [⟨some 12, .assign (.const (.int .i64 0)), false, none⟩,
  ⟨some 13, .assign (.const (.int .i64 22)), false, none⟩]) <|
 .seq (.keep [12, 13]) <|
 .ret) <|
 .skip) <|
 .seq (.keep [0, 1, 2, 3, 4, 5]) <|
 .seq (.ops [⟨some 28, .move (.tmp 0), false, none⟩,
  ⟨some 29, .move (.tmp 1), false, none⟩,
  ⟨some 30, .move (.tmp 2), false, none⟩,
  ⟨some 31, .call ⟨.value (.func 68), #[(.tmp 28), (.tmp 29), (.tmp 30)], #[48, 3, 9]⟩, true, none⟩,
  ⟨some 14, .assign (.tmp 31), false, none⟩]) <|
 .seq (.keep [0, 1, 2, 3, 4, 5, 14]) <|
 .seq (.seq (.ops [⟨some 32, .move (.tmp 14), false, none⟩,
  ⟨some 33, .binOp .neq 26 (.tmp 32) (.const (.int .i64 0)) 26, false, none⟩]) <|
 .seq (.keep [0, 1, 2, 3, 4, 5, 14, 33]) <|
 .cond (.tmp 33) (.seq (.ops [⟨some 34, .move (.tmp 14), false, none⟩,
  ⟨some 12, .assign (.const (.int .i64 0)), false, none⟩,
  ⟨some 13, .assign (.tmp 34), false, none⟩]) <|
 .seq (.keep [12, 13]) <|
 .ret) <|
 .skip) <|
 .seq (.keep [0, 1, 2, 3, 4, 5]) <|
 .seq (.seq (.ops [⟨some 35, .move (.tmp 0), false, none⟩,
  ⟨some 36, .call ⟨.value (.func 69), #[(.tmp 35)], #[48]⟩, true, none⟩,
  ⟨some 37, .binOp .geq 3 (.tmp 36) (.const (.int .i64 1024)) 3, false, none⟩]) <|
 .seq (.keep [0, 1, 2, 3, 4, 5, 37]) <|
 .cond (.tmp 37) (.seq (.ops [⟨some 12, .assign (.const (.int .i64 0)), false, none⟩,
  ⟨some 13, .assign (.const (.int .i64 28)), false, none⟩]) <|
 .seq (.keep [12, 13]) <|
 .ret) <|
 .skip) <|
 .seq (.keep [0, 1, 2, 3, 4, 5]) <|
 .seq (.ops [⟨some 15, .assign (.const (.int .i64 1)), false, none⟩]) <|
 .seq (.keep [0, 1, 2, 3, 4, 5, 15]) <|
 .seq (.block 0 <| .loop <| .seq (.seq (.seq (.ops [⟨some 38, .move (.tmp 15), false, none⟩,
  ⟨some 39, .move (.tmp 0), false, none⟩,
  ⟨some 40, .nilCheck (.tmp 39), false, none⟩,
  ⟨some 41, .fieldAddr 92 (.tmp 40) 0, false, none⟩,
  ⟨some 42, .load 90 (.tmp 41), false, none⟩,
  ⟨some 43, .call ⟨.builtin .len, #[(.tmp 42)], #[90]⟩, false, none⟩,
  ⟨some 44, .binOp .leq 3 (.tmp 38) (.tmp 43) 3, false, none⟩,
  ⟨some 45, .move (.tmp 44), false, none⟩,
  ⟨some 46, .move (.tmp 0), false, some (45, true)⟩,
  ⟨some 47, .nilCheck (.tmp 46), false, some (45, true)⟩,
  ⟨some 48, .fieldAddr 92 (.tmp 47) 0, false, some (45, true)⟩,
  ⟨some 49, .load 90 (.tmp 48), false, some (45, true)⟩,
  ⟨some 50, .move (.tmp 15), false, some (45, true)⟩,
  ⟨some 51, .binOp .sub 3 (.tmp 50) (.const (.int .i64 1)) 3, false, some (45, true)⟩,
  ⟨some 52, .indexAddr 90 (.tmp 49) (.tmp 51), false, some (45, true)⟩,
  ⟨some 53, .load 87 (.tmp 52), false, some (45, true)⟩,
  ⟨some 54, .nilCheck (.tmp 53), false, some (45, true)⟩,
  ⟨some 55, .fieldAddr 89 (.tmp 54) 0, false, some (45, true)⟩,
  ⟨some 56, .load 3 (.tmp 55), false, some (45, true)⟩,
  ⟨some 57, .binOp .gtr 3 (.tmp 56) (.const (.int .i64 0)) 3, false, some (45, true)⟩,
  ⟨some 58, .pick (.tmp 45) (.tmp 57) (.const (.bool false)), false, none⟩]) <|
 .seq (.keep [0, 1, 2, 3, 4, 5, 15, 58]) <|
 .cond (.tmp 58) (.skip) <|
 .exit 0) <|
 .seq (.keep [0, 1, 2, 3, 4, 5, 15]) <|
 .block 1 <| .ops [⟨some 59, .move (.tmp 15), false, none⟩,
  ⟨some 60, .binOp .add 3 (.tmp 59) (.const (.int .i64 1)) 3, false, none⟩,
  ⟨some 15, .assign (.tmp 60), false, none⟩]) <|
 .keep [0, 1, 2, 3, 4, 5, 15]) <|
 .seq (.keep [0, 1, 2, 3, 4, 5, 15]) <|
 .seq (.ops [⟨some 61, .move (.tmp 15), false, none⟩,
  ⟨some 62, .move (.tmp 3), false, none⟩,
  ⟨some 63, .move (.tmp 4), false, none⟩,
  ⟨some 64, .buildSlice 23 0 #[], true, none⟩,
  ⟨some 65, .move (.tmp 5), false, none⟩,
  ⟨some 66, .call ⟨.builtin .append, #[(.tmp 64), (.tmp 65)], #[23, 23]⟩, true, none⟩,
  ⟨some 67, .build 89 #[(0, (.tmp 61)), (1, (.tmp 62)), (2, (.tmp 63)), (3, (.tmp 66)), (6, (.const (.int .i64 1)))], false, none⟩,
  ⟨some 68, .box 89 (.tmp 67), true, none⟩,
  ⟨some 16, .assign (.tmp 68), false, none⟩]) <|
 .seq (.keep [0, 1, 2, 3, 15, 16]) <|
 .seq (.seq (.ops [⟨some 69, .move (.tmp 3), false, none⟩,
  ⟨some 70, .binOp .eql 3 (.tmp 69) (.const (.int .i64 2)) 3, false, none⟩]) <|
 .seq (.keep [0, 1, 2, 15, 16, 70]) <|
 .cond (.tmp 70) (.ops [⟨some 71, .move (.tmp 16), false, none⟩,
  ⟨some 72, .move (.tmp 1), false, none⟩,
  ⟨some 73, .nilCheck (.tmp 71), false, none⟩,
  ⟨some 74, .fieldAddr 89 (.tmp 73) 5, false, none⟩,
  ⟨none, .store 3 (.tmp 74) (.tmp 72), true, none⟩]) <|
 .skip) <|
 .seq (.keep [0, 1, 2, 15, 16]) <|
 .seq (.seq (.ops [⟨some 75, .move (.tmp 15), false, none⟩,
  ⟨some 76, .move (.tmp 0), false, none⟩,
  ⟨some 77, .nilCheck (.tmp 76), false, none⟩,
  ⟨some 78, .fieldAddr 92 (.tmp 77) 0, false, none⟩,
  ⟨some 79, .load 90 (.tmp 78), false, none⟩,
  ⟨some 80, .call ⟨.builtin .len, #[(.tmp 79)], #[90]⟩, false, none⟩,
  ⟨some 81, .binOp .gtr 3 (.tmp 75) (.tmp 80) 3, false, none⟩]) <|
 .seq (.keep [0, 1, 2, 15, 16, 81]) <|
 .cond (.tmp 81) (.ops [⟨some 82, .move (.tmp 0), false, none⟩,
  ⟨some 83, .move (.tmp 0), false, none⟩,
  ⟨some 84, .nilCheck (.tmp 83), false, none⟩,
  ⟨some 85, .fieldAddr 92 (.tmp 84) 0, false, none⟩,
  ⟨some 86, .load 90 (.tmp 85), false, none⟩,
  ⟨some 87, .move (.tmp 16), false, none⟩,
  ⟨some 88, .buildSlice 90 1 #[(0, (.tmp 87))], true, none⟩,
  ⟨some 89, .call ⟨.builtin .append, #[(.tmp 86), (.tmp 88)], #[90, 90]⟩, true, none⟩,
  ⟨some 90, .nilCheck (.tmp 82), false, none⟩,
  ⟨some 91, .fieldAddr 92 (.tmp 90) 0, false, none⟩,
  ⟨none, .store 90 (.tmp 91) (.tmp 89), true, none⟩]) <|
 .ops [⟨some 92, .move (.tmp 0), false, none⟩,
  ⟨some 93, .nilCheck (.tmp 92), false, none⟩,
  ⟨some 94, .fieldAddr 92 (.tmp 93) 0, false, none⟩,
  ⟨some 95, .load 90 (.tmp 94), false, none⟩,
  ⟨some 96, .move (.tmp 15), false, none⟩,
  ⟨some 97, .binOp .sub 3 (.tmp 96) (.const (.int .i64 1)) 3, false, none⟩,
  ⟨some 98, .move (.tmp 16), false, none⟩,
  ⟨some 99, .indexAddr 90 (.tmp 95) (.tmp 97), false, none⟩,
  ⟨none, .store 87 (.tmp 99) (.tmp 98), true, none⟩]) <|
 .seq (.keep [0, 1, 2, 15]) <|
 .seq (.ops [⟨some 100, .move (.tmp 0), false, none⟩,
  ⟨some 101, .move (.tmp 1), false, none⟩,
  ⟨some 102, .move (.tmp 2), false, none⟩,
  ⟨some 103, .move (.tmp 15), false, none⟩,
  ⟨some 104, .call ⟨.value (.func 70), #[(.tmp 100), (.tmp 101), (.tmp 102), (.tmp 103)], #[48, 3, 9, 3]⟩, true, none⟩]) <|
 .seq (.keep [15]) <|
 .seq (.ops [⟨some 105, .move (.tmp 15), false, none⟩,
  ⟨some 12, .assign (.tmp 105), false, none⟩,
  ⟨some 13, .assign (.const (.int .i64 0)), false, none⟩]) <|
 .seq (.keep [12, 13]) <|
 .ret
theorem c40 : Tryd.f40.body.map (fun c => ((compile Tryd.prog kp40 [] kp40 c).map (·.1), fits Tryd.f40.ntmps c)) = some (some s40, true) := by kernel_rfl
theorem r40 : Tryd.f40.results.toList = [.tmp 12, .tmp 13] := by kernel_rfl
-- (*marionette/node.Tree).Link
abbrev kp41 : List Nat := [8]
def s41 : SC :=
 .seq (.ops [⟨some 8, .assign (.const (.int .i64 0)), false, none⟩]) <|
 .seq (.keep [0, 1, 2, 3]) <|
 .seq (.ops [⟨some 12, .move (.tmp 0), false, none⟩,
  ⟨some 13, .move (.tmp 3), false, none⟩,
  ⟨some 14, .call ⟨.value (.func 29), #[(.tmp 12), (.tmp 13)], #[25, 3]⟩, true, none⟩,
  ⟨some 9, .assign (.tmp 14), false, none⟩]) <|
 .seq (.keep [0, 1, 2, 3, 9]) <|
 .seq (.block 0 <| .seq (.ops [⟨some 16, .move (.tmp 9), false, none⟩,
  ⟨some 17, .binOp .eql 67 (.tmp 16) (.const (.pointer none)) 67, false, none⟩,
  ⟨some 15, .assign (.tmp 17), false, none⟩]) <|
 .seq (.keep [0, 1, 2, 3, 9, 15]) <|
 .cond (.tmp 15) (.seq (.ops [⟨some 8, .assign (.const (.int .i64 2)), false, none⟩]) <|
 .seq (.keep [8]) <|
 .ret) <|
 .seq (.ops [⟨some 19, .move (.tmp 9), false, none⟩,
  ⟨some 20, .nilCheck (.tmp 19), false, none⟩,
  ⟨some 21, .fieldAddr 69 (.tmp 20) 0, false, none⟩,
  ⟨some 22, .load 3 (.tmp 21), false, none⟩,
  ⟨some 23, .binOp .eql 3 (.tmp 22) (.const (.int .i64 2)) 3, false, none⟩,
  ⟨some 18, .assign (.tmp 23), false, none⟩]) <|
 .seq (.keep [0, 1, 2, 3, 9, 18]) <|
 .cond (.tmp 18) (.seq (.ops [⟨some 8, .assign (.const (.int .i64 1)), false, none⟩]) <|
 .seq (.keep [8]) <|
 .ret) <|
 .skip) <|
 .seq (.keep [0, 1, 2, 3, 9]) <|
 .seq (.ops [⟨some 25, .move (.tmp 0), false, none⟩,
  ⟨some 26, .move (.tmp 1), false, none⟩,
  ⟨some 27, .move (.tmp 2), false, none⟩,
  ⟨some 28, .call ⟨.value (.func 28), #[(.tmp 25), (.tmp 26), (.tmp 27)], #[25, 3, 9]⟩, true, none⟩,
  ⟨some 24, .move (.tmp 28), false, none⟩,
  ⟨some 29, .extract (.tmp 24) 0, false, none⟩,
  ⟨some 30, .extract (.tmp 24) 1, false, none⟩,
  ⟨some 10, .assign (.tmp 29), false, none⟩,
  ⟨some 11, .assign (.tmp 30), false, none⟩]) <|
 .seq (.keep [2, 3, 9, 10, 11]) <|
 .seq (.seq (.ops [⟨some 31, .move (.tmp 11), false, none⟩,
  ⟨some 32, .binOp .neq 26 (.tmp 31) (.const (.int .i64 0)) 26, false, none⟩]) <|
 .seq (.keep [2, 3, 9, 10, 11, 32]) <|
 .cond (.tmp 32) (.seq (.ops [⟨some 33, .move (.tmp 11), false, none⟩,
  ⟨some 8, .assign (.tmp 33), false, none⟩]) <|
 .seq (.keep [8]) <|
 .ret) <|
 .skip) <|
 .seq (.keep [2, 3, 9, 10]) <|
 .seq (.ops [⟨some 34, .move (.tmp 9), false, none⟩,
  ⟨some 35, .nilCheck (.tmp 34), false, none⟩,
  ⟨some 36, .fieldAddr 69 (.tmp 35) 5, false, none⟩,
  ⟨some 37, .load 3 (.tmp 36), false, none⟩,
  ⟨some 38, .binOp .add 3 (.tmp 37) (.const (.int .i64 1)) 3, false, none⟩,
  ⟨some 39, .nilCheck (.tmp 34), false, none⟩,
  ⟨some 40, .fieldAddr 69 (.tmp 39) 5, false, none⟩,
  ⟨none, .store 3 (.tmp 40) (.tmp 38), true, none⟩]) <|
 .seq (.keep [2, 3, 9, 10]) <|
 .seq (.seq (.ops [⟨some 41, .move (.tmp 10), false, none⟩]) <|
 .seq (.ops [⟨some 42, .move (.tmp 10), false, none⟩]) <|
 .seq (.ops [⟨some 43, .nilCheck (.tmp 42), false, none⟩]) <|
 .seq (.ops [⟨some 44, .fieldAddr 69 (.tmp 43) 3, false, none⟩]) <|
 .seq (.ops [⟨some 46, .move (.tmp 2), false, none⟩]) <|
 .seq (.ops [⟨some 47, .move (.tmp 3), false, none⟩]) <|
 .seq (.ops [⟨some 48, .move (.tmp 9), false, none⟩]) <|
 .seq (.ops [⟨some 49, .nilCheck (.tmp 48), false, none⟩]) <|
 .seq (.ops [⟨some 50, .fieldAddr 69 (.tmp 49) 0, false, none⟩]) <|
 .seq (.ops [⟨some 51, .load 3 (.tmp 50), false, none⟩]) <|
 .seq (.ops [⟨some 52, .build 59 #[(0, (.tmp 46)), (1, (.tmp 47)), (2, (.tmp 51))], false, none⟩]) <|
 .amb (.seq (.ops [⟨some 45, .load 55 (.tmp 44), false, none⟩]) <|
 .seq (.ops [⟨some 53, .buildSlice 55 1 #[(0, (.tmp 52))], true, none⟩]) <|
 .seq (.ops [⟨some 54, .call ⟨.builtin .append, #[(.tmp 45), (.tmp 53)], #[55, 55]⟩, true, none⟩]) <|
 .seq (.ops [⟨some 55, .nilCheck (.tmp 41), false, none⟩]) <|
 .seq (.ops [⟨some 56, .fieldAddr 69 (.tmp 55) 3, false, none⟩]) <|
 .seq (.ops [⟨none, .store 55 (.tmp 56) (.tmp 54), true, none⟩]) <|
 .skip) (.seq (.ops [⟨some 53, .buildSlice 55 1 #[(0, (.tmp 52))], true, none⟩]) <|
 .seq (.ops [⟨some 45, .load 55 (.tmp 44), false, none⟩]) <|
 .seq (.ops [⟨some 54, .call ⟨.builtin .append, #[(.tmp 45), (.tmp 53)], #[55, 55]⟩, true, none⟩]) <|
 .seq (.ops [⟨some 55, .nilCheck (.tmp 41), false, none⟩]) <|
 .seq (.ops [⟨some 56, .fieldAddr 69 (.tmp 55) 3, false, none⟩]) <|
 .seq (.ops [⟨none, .store 55 (.tmp 56) (.tmp 54), true, none⟩]) <|
 .skip)) <|
 .seq (.keep []) <|
 .seq (.ops [⟨some 8, .assign (.const (.int .i64 0)), false, none⟩]) <|
 .seq (.keep [8]) <|
 .ret
theorem c41 : Tryd.f41.body.map (fun c => ((compile Tryd.prog kp41 [] kp41 c).map (·.1), fits Tryd.f41.ntmps c)) = some (some s41, true) := by kernel_rfl
theorem r41 : Tryd.f41.results.toList = [.tmp 8] := by kernel_rfl
-- (*marionette/marionetteref15.Tree).Link
abbrev kp42 : List Nat := [8]
def s42 : SC :=
 .seq (.ops [⟨some 8, .assign (.const (.int .i64 0)), false, none⟩]) <|
 .seq (.keep [0, 1, 2, 3]) <|
 .seq (.ops [⟨some 11, .move (.tmp 0), false, none⟩,
  ⟨some 12, .move (.tmp 3), false, none⟩,
  ⟨some 13, .call ⟨.value (.func 71), #[(.tmp 11), (.tmp 12)], #[48, 3]⟩, true, none⟩,
  ⟨some 9, .assign (.tmp 13), false, none⟩]) <|
 .seq (.keep [0, 1, 2, 3, 9]) <|
 .seq (.seq (.ops [⟨some 14, .move (.tmp 9), false, none⟩,
  ⟨some 15, .nilCheck (.tmp 14), false, none⟩,
  ⟨some 16, .fieldAddr 89 (.tmp 15) 0, false, none⟩,
  ⟨some 17, .load 3 (.tmp 16), false, none⟩,
  ⟨some 18, .binOp .eql 3 (.tmp 17) (.const (.int .i64 0)) 3, false, none⟩]) <|
 .seq (.keep [0, 1, 2, 3, 9, 18]) <|
 .cond (.tmp 18) (.seq (.ops [⟨some 8, .assign (.const (.int .i64 2)), false, none⟩]) <|
 .seq (.keep [8]) <|
 .ret) <|
 .skip) <|
 .seq (.keep [0, 1, 2, 3, 9]) <|
 .seq (.seq (.ops [⟨some 19, .move (.tmp 9), false, none⟩,
  ⟨some 20, .nilCheck (.tmp 19), false, none⟩,
  ⟨some 21, .fieldAddr 89 (.tmp 20) 1, false, none⟩,
  ⟨some 22, .load 3 (.tmp 21), false, none⟩,
  ⟨some 23, .binOp .eql 3 (.tmp 22) (.const (.int .i64 2)) 3, false, none⟩]) <|
 .seq (.keep [0, 1, 2, 3, 9, 23]) <|
 .cond (.tmp 23) (.seq (.ops [⟨some 8, .assign (.const (.int .i64 1)), false, none⟩]) <|
 .seq (.keep [8]) <|
 .ret) <|
 .skip) <|
 .seq (.keep [0, 1, 2, 3, 9]) <|
 .seq (.ops [⟨some 24, .move (.tmp 0), false, none⟩,
  ⟨some 25, .move (.tmp 1), false, none⟩,
  ⟨some 26, .move (.tmp 2), false, none⟩,
  ⟨some 27, .call ⟨.value (.func 68), #[(.tmp 24), (.tmp 25), (.tmp 26)], #[48, 3, 9]⟩, true, none⟩,
  ⟨some 10, .assign (.tmp 27), false, none⟩]) <|
 .seq (.keep [0, 1, 2, 3, 9, 10]) <|
 .seq (.seq (.ops [⟨some 28, .move (.tmp 10), false, none⟩,
  ⟨some 29, .binOp .eql 26 (.tmp 28) (.const (.int .i64 0)) 26, false, none⟩]) <|
 .seq (.keep [0, 1, 2, 3, 9, 10, 29]) <|
 .cond (.tmp 29) (.seq (.ops [⟨some 30, .move (.tmp 9), false, none⟩,
  ⟨some 31, .nilCheck (.tmp 30), false, none⟩,
  ⟨some 32, .fieldAddr 89 (.tmp 31) 6, false, none⟩,
  ⟨some 33, .load 3 (.tmp 32), false, none⟩,
  ⟨some 34, .binOp .add 3 (.tmp 33) (.const (.int .i64 1)) 3, false, none⟩,
  ⟨some 35, .nilCheck (.tmp 30), false, none⟩,
  ⟨some 36, .fieldAddr 89 (.tmp 35) 6, false, none⟩,
  ⟨none, .store 3 (.tmp 36) (.tmp 34), true, none⟩]) <|
 .seq (.keep [0, 1, 2, 3, 10]) <|
 .ops [⟨some 37, .move (.tmp 0), false, none⟩,
  ⟨some 38, .move (.tmp 1), false, none⟩,
  ⟨some 39, .move (.tmp 2), false, none⟩,
  ⟨some 40, .move (.tmp 3), false, none⟩,
  ⟨some 41, .call ⟨.value (.func 70), #[(.tmp 37), (.tmp 38), (.tmp 39), (.tmp 40)], #[48, 3, 9, 3]⟩, true, none⟩]) <|
 .skip) <|
 .seq (.keep [10]) <|
 .seq (.ops [⟨some 42, .move (.tmp 10), false, none⟩,
  ⟨some 8, .assign (.tmp 42), false, none⟩]) <|
 .seq (.keep [8]) <|
 .ret
theorem c42 : Tryd.f42.body.map (fun c => ((compile Tryd.prog kp42 [] kp42 c).map (·.1), fits Tryd.f42.ntmps c)) = some (some s42, true) := by kernel_rfl
theorem r42 : Tryd.f42.results.toList = [.tmp 8] := by kernel_rfl
-- (*marionette/marionetteref15.Tree).Remove
abbrev kp43 : List Nat := [8]
def s43 : SC :=
 .seq (.ops [⟨some 8, .assign (.const (.int .i64 0)), false, none⟩]) <|
 .seq (.keep [0, 1, 2, 3]) <|
 .seq (.ops [⟨some 11, .move (.tmp 0), false, none⟩,
  ⟨some 12, .move (.tmp 1), false, none⟩,
  ⟨some 13, .call ⟨.value (.func 66), #[(.tmp 11), (.tmp 12)], #[48, 3]⟩, true, none⟩,
  ⟨some 9, .assign (.tmp 13), false, none⟩]) <|
 .seq (.keep [0, 1, 2, 3, 9]) <|
 .seq (.seq (.ops [⟨some 14, .move (.tmp 9), false, none⟩,
  ⟨some 15, .binOp .neq 26 (.tmp 14) (.const (.int .i64 0)) 26, false, none⟩]) <|
 .seq (.keep [0, 1, 2, 3, 9, 15]) <|
 .cond (.tmp 15) (.seq (.ops [⟨some 16, .move (.tmp 9), false, none⟩,
  ⟨some 8, .assign (.tmp 16), false, none⟩]) <|
 .seq (.keep [8]) <|
 .ret) <|
 .skip) <|
 .seq (.keep [0, 1, 2, 3]) <|
 .seq (.seq (.ops [⟨some 17, .move (.tmp 2), false, none⟩,
  ⟨some 18, .binOp .eql 9 (.tmp 17) (.const (.string ⟨#[46]⟩)) 9, false, none⟩]) <|
 .seq (.keep [0, 1, 2, 3, 18]) <|
 .cond (.tmp 18) (.seq (.ops [⟨some 8, .assign (.const (.int .i64 22)), false, none⟩]) <|
 .seq (.keep [8]) <|
 .ret) <|
 .skip) <|
 .seq (.keep [0, 1, 2, 3]) <|
 .seq (.seq (.ops [⟨some 19, .move (.tmp 2), false, none⟩,
  ⟨some 20, .binOp .eql 9 (.tmp 19) (.const (.string ⟨#[46, 46]⟩)) 9, false, none⟩]) <|
 .seq (.keep [0, 1, 2, 3, 20]) <|
 .cond (.tmp 20) (.seq (.ops [⟨some 8, .assign (.const (.int .i64 39)), false, none⟩]) <|
 .seq (.keep [8]) <|
 .ret) <|
 .skip) <|
 .seq (.keep [0, 1, 2, 3]) <|
 .seq (.ops [⟨some 21, .move (.tmp 0), false, none⟩,
  ⟨some 22, .move (.tmp 1), false, none⟩,
  ⟨some 23, .call ⟨.value (.func 71), #[(.tmp 21), (.tmp 22)], #[48, 3]⟩, true, none⟩,
  ⟨some 24, .move (.tmp 2), false, none⟩,
  ⟨some 25, .call ⟨.value (.func 72), #[(.tmp 23), (.tmp 24)], #[87, 9]⟩, true, none⟩,
  ⟨some 10, .assign (.tmp 25), false, none⟩]) <|
 .seq (.keep [0, 1, 3, 10]) <|
 .seq (.seq (.ops [⟨some 26, .move (.tmp 10), false, none⟩,
  ⟨some 27, .binOp .lss 3 (.tmp 26) (.const (.int .i64 0)) 3, false, none⟩]) <|
 .seq (.keep [0, 1, 3, 10, 27]) <|
 .cond (.tmp 27) (.seq (.ops [⟨some 8, .assign (.const (.int .i64 2)), false, none⟩]) <|
 .seq (.keep [8]) <|
 .ret) <|
 .skip) <|
 .seq (.keep [0, 1, 3, 10]) <|
 .seq (.ops [⟨some 28, .move (.tmp 0), false, none⟩,
  ⟨some 29, .move (.tmp 0), false, none⟩,
  ⟨some 30, .move (.tmp 1), false, none⟩,
  ⟨some 31, .call ⟨.value (.func 71), #[(.tmp 29), (.tmp 30)], #[48, 3]⟩, true, none⟩,
  ⟨some 32, .nilCheck (.tmp 31), false, none⟩,
  ⟨some 33, .fieldAddr 89 (.tmp 32) 4, false, none⟩,
  ⟨some 34, .load 55 (.tmp 33), false, none⟩,
  ⟨some 35, .move (.tmp 10), false, none⟩,
  ⟨some 36, .indexAddr 55 (.tmp 34) (.tmp 35), false, none⟩,
  ⟨some 37, .fieldAddr 59 (.tmp 36) 1, false, none⟩,
  ⟨some 38, .load 3 (.tmp 37), false, none⟩,
  ⟨some 39, .move (.tmp 3), false, none⟩,
  ⟨some 40, .call ⟨.value (.func 73), #[(.tmp 28), (.tmp 38), (.tmp 39)], #[48, 3, 4]⟩, true, none⟩,
  ⟨some 9, .assign (.tmp 40), false, none⟩]) <|
 .seq (.keep [0, 1, 9, 10]) <|
 .seq (.seq (.ops [⟨some 41, .move (.tmp 9), false, none⟩,
  ⟨some 42, .binOp .eql 26 (.tmp 41) (.const (.int .i64 0)) 26, false, none⟩]) <|
 .seq (.keep [0, 1, 9, 10, 42]) <|
 .cond (.tmp 42) (.ops [⟨some 43, .move (.tmp 0), false, none⟩,
  ⟨some 44, .move (.tmp 1), false, none⟩,
  ⟨some 45, .move (.tmp 10), false, none⟩,
  ⟨some 46, .call ⟨.value (.func 74), #[(.tmp 43), (.tmp 44), (.tmp 45)], #[48, 3, 3]⟩, true, none⟩]) <|
 .skip) <|
 .seq (.keep [9]) <|
 .seq (.ops [⟨some 47, .move (.tmp 9), false, none⟩,
  ⟨some 8, .assign (.tmp 47), false, none⟩]) <|
 .seq (.keep [8]) <|
 .ret
theorem c43 : Tryd.f43.body.map (fun c => ((compile Tryd.prog kp43 [] kp43 c).map (·.1), fits Tryd.f43.ntmps c)) = some (some s43, true) := by kernel_rfl
theorem r43 : Tryd.f43.results.toList = [.tmp 8] := by kernel_rfl
-- (*marionette/node.Tree).Move
abbrev kp44 : List Nat := [10]
def s44 : SC :=
 .seq (.ops [⟨some 10, .assign (.const (.int .i64 0)), false, none⟩]) <|
 .seq (.keep [0, 1, 2, 3, 4]) <|
 .seq (.ops [⟨some 20, .move (.tmp 0), false, none⟩,
  ⟨some 21, .move (.tmp 1), false, none⟩,
  ⟨some 22, .call ⟨.value (.func 36), #[(.tmp 20), (.tmp 21)], #[25, 3]⟩, true, none⟩,
  ⟨some 19, .move (.tmp 22), false, none⟩,
  ⟨some 23, .extract (.tmp 19) 0, false, none⟩,
  ⟨some 24, .extract (.tmp 19) 1, false, none⟩,
  ⟨some 11, .assign (.tmp 23), false, none⟩,
  ⟨some 12, .assign (.tmp 24), false, none⟩]) <|
 .seq (.keep [0, 2, 3, 4, 11, 12]) <|
 .seq (.seq (.ops [⟨some 25, .move (.tmp 12), false, none⟩,
  ⟨some 26, .binOp .neq 26 (.tmp 25) (.const (.int .i64 0)) 26, false, none⟩]) <|
 .seq (.keep [0, 2, 3, 4, 11, 12, 26]) <|
 .cond (.tmp 26) (.seq (.ops [⟨some 27, .move (.tmp 12), false, none⟩,
  ⟨some 10, .assign (.tmp 27), false, none⟩]) <|
 .seq (.keep [10]) <|
 .ret) <|
 .skip) <|
 .seq (.keep [0, 2, 3, 4, 11]) <|
 .seq (.ops [⟨some 29, .move (.tmp 0), false, none⟩,
  ⟨some 30, .move (.tmp 3), false, none⟩,
  ⟨some 31, .call ⟨.value (.func 36), #[(.tmp 29), (.tmp 30)], #[25, 3]⟩, true, none⟩,
  ⟨some 28, .move (.tmp 31), false, none⟩,
  ⟨some 32, .extract (.tmp 28) 0, false, none⟩,
  ⟨some 33, .extract (.tmp 28) 1, false, none⟩,
  ⟨some 13, .assign (.tmp 32), false, none⟩,
  ⟨some 12, .assign (.tmp 33), false, none⟩]) <|
 .seq (.keep [0, 2, 3, 4, 11, 12, 13]) <|
 .seq (.seq (.ops [⟨some 34, .move (.tmp 12), false, none⟩,
  ⟨some 35, .binOp .neq 26 (.tmp 34) (.const (.int .i64 0)) 26, false, none⟩]) <|
 .seq (.keep [0, 2, 3, 4, 11, 12, 13, 35]) <|
 .cond (.tmp 35) (.seq (.ops [⟨some 36, .move (.tmp 12), false, none⟩,
  ⟨some 10, .assign (.tmp 36), false, none⟩]) <|
 .seq (.keep [10]) <|
 .ret) <|
 .skip) <|
 .seq (.keep [0, 2, 3, 4, 11, 13]) <|
 .seq (.seq (.ops [⟨some 37, .move (.tmp 2), false, none⟩,
  ⟨some 38, .binOp .eql 9 (.tmp 37) (.const (.string ⟨#[46]⟩)) 9, false, none⟩,
  ⟨some 39, .move (.tmp 38), false, none⟩,
  ⟨some 40, .move (.tmp 2), false, some (39, false)⟩,
  ⟨some 41, .binOp .eql 9 (.tmp 40) (.const (.string ⟨#[46, 46]⟩)) 9, false, some (39, false)⟩,
  ⟨some 42, .pick (.tmp 39) (.const (.bool true)) (.tmp 41), false, none⟩,
  ⟨some 43, .move (.tmp 42), false, none⟩,
  ⟨some 44, .move (.tmp 4), false, some (43, false)⟩,
  ⟨some 45, .call ⟨.value (.func 22), #[(.tmp 44)], #[9]⟩, true, some (43, false)⟩,
  ⟨some 46, .unOp .not 4 (.tmp 45), false, some (43, false)⟩,
  ⟨some 47, .pick (.tmp 43) (.const (.bool true)) (.tmp 46), false, none⟩]) <|
 .seq (.keep [0, 2, 3, 4, 11, 13, 47]) <|
 .cond (.tmp 47) (.seq (.ops [⟨some 10, .assign (.const (.int .i64 22)), false, none⟩]) <|
 .seq (.keep [10]) <|
 .ret) <|
 .skip) <|
 .seq (.keep [0, 2, 3, 4, 11, 13]) <|
 .seq (.ops [⟨some 48, .move (.tmp 11), false, none⟩,
  ⟨some 49, .move (.tmp 2), false, none⟩,
  ⟨some 50, .call ⟨.value (.func 37), #[(.tmp 48), (.tmp 49)], #[67, 9]⟩, true, none⟩,
  ⟨some 14, .assign (.tmp 50), false, none⟩]) <|
 .seq (.keep [0, 2, 3, 4, 11, 13, 14]) <|
 .seq (.seq (.ops [⟨some 51, .move (.tmp 14), false, none⟩,
  ⟨some 52, .binOp .lss 3 (.tmp 51) (.const (.int .i64 0)) 3, false, none⟩,
  ⟨some 53, .move (.tmp 52), false, none⟩,
  ⟨some 54, .move (.tmp 13), false, some (53, false)⟩,
  ⟨some 55, .call ⟨.value (.func 34), #[(.tmp 54)], #[67]⟩, true, some (53, false)⟩,
  ⟨some 56, .pick (.tmp 53) (.const (.bool true)) (.tmp 55), false, none⟩]) <|
 .seq (.keep [0, 2, 3, 4, 11, 13, 14, 56]) <|
 .cond (.tmp 56) (.seq (.ops [⟨some 10, .assign (.const (.int .i64 2)), false, none⟩]) <|
 .seq (.keep [10]) <|
 .ret) <|
 .skip) <|
 .seq (.keep [0, 2, 3, 4, 11, 13, 14]) <|
 .seq (.ops [⟨some 57, .move (.tmp 11), false, none⟩,
  ⟨some 58, .nilCheck (.tmp 57), false, none⟩,
  ⟨some 59, .fieldAddr 69 (.tmp 58) 3, false, none⟩,
  ⟨some 60, .load 55 (.tmp 59), false, none⟩,
  ⟨some 61, .move (.tmp 14), false, none⟩,
  ⟨some 62, .indexAddr 55 (.tmp 60) (.tmp 61), false, none⟩,
  ⟨some 63, .fieldAddr 59 (.tmp 62) 1, false, none⟩,
  ⟨some 64, .load 3 (.tmp 63), false, none⟩,
  ⟨some 15, .assign (.tmp 64), false, none⟩]) <|
 .seq (.keep [0, 2, 3, 4, 11, 13, 14, 15]) <|
 .seq (.ops [⟨some 65, .move (.tmp 0), false, none⟩,
  ⟨some 66, .nilCheck (.tmp 65), false, none⟩,
  ⟨some 67, .fieldAddr 72 (.tmp 66) 0, false, none⟩,
  ⟨some 68, .load 70 (.tmp 67), false, none⟩,
  ⟨some 69, .move (.tmp 15), false, none⟩,
  ⟨some 70, .lookup 70 (.tmp 68) (.tmp 69) false, false, none⟩,
  ⟨some 16, .assign (.tmp 70), false, none⟩]) <|
 .seq (.keep [0, 2, 3, 4, 11, 13, 14, 15, 16]) <|
 .seq (.seq (.ops [⟨some 71, .move (.tmp 16), false, none⟩,
  ⟨some 72, .nilCheck (.tmp 71), false, none⟩,
  ⟨some 73, .fieldAddr 69 (.tmp 72) 0, false, none⟩,
  ⟨some 74, .load 3 (.tmp 73), false, none⟩,
  ⟨some 75, .binOp .eql 3 (.tmp 74) (.const (.int .i64 2)) 3, false, none⟩,
  ⟨some 76, .move (.tmp 75), false, none⟩,
  ⟨some 77, .move (.tmp 0), false, some (76, true)⟩,
  ⟨some 78, .move (.tmp 15), false, some (76, true)⟩,
  ⟨some 79, .move (.tmp 3), false, some (76, true)⟩,
  ⟨some 80, .call ⟨.value (.func 75), #[(.tmp 77), (.tmp 78), (.tmp 79)], #[25, 3, 3]⟩, true, some (76, true)⟩,
  ⟨some 81, .pick (.tmp 76) (.tmp 80) (.const (.bool false)), false, none⟩]) <|
 .seq (.keep [0, 2, 3, 4, 11, 13, 14, 15, 16, 81]) <|
 .cond (.tmp 81) (.seq (.ops [⟨some 10, .assign (.const (.int .i64 22)), false, none⟩]) <|
 .seq (.keep [10]) <|
 .ret) <|
 .skip) <|
 .seq (.keep [0, 2, 3, 4, 11, 13, 14, 15, 16]) <|
 .seq (.seq (.ops [⟨some 82, .move (.tmp 13), false, none⟩,
  ⟨some 83, .move (.tmp 4), false, none⟩,
  ⟨some 84, .call ⟨.value (.func 37), #[(.tmp 82), (.tmp 83)], #[67, 9]⟩, true, none⟩,
  ⟨some 17, .assign (.tmp 84), false, none⟩]) <|
 .seq (.keep [0, 2, 3, 4, 11, 13, 14, 15, 16, 17]) <|
 .seq (.ops [⟨some 85, .move (.tmp 17), false, none⟩,
  ⟨some 86, .binOp .geq 3 (.tmp 85) (.const (.int .i64 0)) 3, false, none⟩]) <|
 .seq (.keep [0, 2, 3, 4, 11, 13, 14, 15, 16, 17, 86]) <|
 .cond (.tmp 86) (.seq (.seq (.ops [⟨some 87, .move (.tmp 13), false, none⟩,
  ⟨some 88, .nilCheck (.tmp 87), false, none⟩,
  ⟨some 89, .fieldAddr 69 (.tmp 88) 3, false, none⟩,
  ⟨some 90, .load 55 (.tmp 89), false, none⟩,
  ⟨some 91, .move (.tmp 17), false, none⟩,
  ⟨some 92, .indexAddr 55 (.tmp 90) (.tmp 91), false, none⟩,
  ⟨some 93, .fieldAddr 59 (.tmp 92) 1, false, none⟩,
  ⟨some 94, .load 3 (.tmp 93), false, none⟩,
  ⟨some 95, .move (.tmp 15), false, none⟩,
  ⟨some 96, .binOp .eql 3 (.tmp 94) (.tmp 95) 3, false, none⟩]) <|
 .seq (.keep [0, 2, 3, 4, 11, 13, 15, 16, 17, 96]) <|
 .cond (.tmp 96) (.seq (.ops [⟨some 10, .assign (.const (.int .i64 0)), false, none⟩]) <|
 .seq (.keep [10]) <|
 .ret) <|
 .skip) <|
 .seq (.keep [0, 2, 3, 4, 11, 13, 15, 16, 17]) <|
 .seq (.seq (.seq (.ops [⟨some 97, .move (.tmp 0), false, none⟩]) <|
 .seq (.ops [⟨some 98, .nilCheck (.tmp 97), false, none⟩]) <|
 .seq (.ops [⟨some 99, .fieldAddr 72 (.tmp 98) 0, false, none⟩]) <|
 .seq (.ops [⟨some 100, .load 70 (.tmp 99), false, none⟩]) <|
 .seq (.ops [⟨some 101, .move (.tmp 13), false, none⟩]) <|
 .seq (.ops [⟨some 102, .nilCheck (.tmp 101), false, none⟩]) <|
 .seq (.ops [⟨some 103, .fieldAddr 69 (.tmp 102) 3, false, none⟩]) <|
 .seq (.ops [⟨some 104, .load 55 (.tmp 103), false, none⟩]) <|
 .seq (.ops [⟨some 105, .move (.tmp 17), false, none⟩]) <|
 .seq (.ops [⟨some 106, .indexAddr 55 (.tmp 104) (.tmp 105), false, none⟩]) <|
 .seq (.ops [⟨some 107, .fieldAddr 59 (.tmp 106) 1, false, none⟩]) <|
 .seq (.ops [⟨some 108, .load 3 (.tmp 107), false, none⟩]) <|
 .seq (.ops [⟨some 109, .lookup 70 (.tmp 100) (.tmp 108) false, false, none⟩]) <|
 .seq (.ops [⟨some 110, .move (.tmp 16), false, none⟩]) <|
 .seq (.ops [⟨some 111, .nilCheck (.tmp 110), false, none⟩]) <|
 .seq (.ops [⟨some 112, .fieldAddr 69 (.tmp 111) 0, false, none⟩]) <|
 .seq (.ops [⟨some 113, .load 3 (.tmp 112), false, none⟩]) <|
 .seq (.ops [⟨some 114, .binOp .eql 3 (.tmp 113) (.const (.int .i64 2)) 3, false, none⟩]) <|
 .seq (.ops [⟨some 115, .call ⟨.value (.func 38), #[(.tmp 109), (.tmp 114)], #[67, 4]⟩, true, none⟩]) <|
 .seq (.ops [⟨some 18, .assign (.tmp 115), false, none⟩]) <|
 .skip) <|
 .seq (.keep [0, 2, 3, 4, 11, 13, 15, 16, 17, 18]) <|
 .seq (.ops [⟨some 116, .move (.tmp 18), false, none⟩,
  ⟨some 117, .binOp .neq 26 (.tmp 116) (.const (.int .i64 0)) 26, false, none⟩]) <|
 .seq (.keep [0, 2, 3, 4, 11, 13, 15, 16, 17, 18, 117]) <|
 .cond (.tmp 117) (.seq (.ops [⟨some 118, .move (.tmp 18), false, none⟩,
  ⟨some 10, .assign (.tmp 118), false, none⟩]) <|
 .seq (.keep [10]) <|
 .ret) <|
 .skip) <|
 .seq (.keep [0, 2, 3, 4, 11, 13, 15, 16, 17]) <|
 .seq (.ops [⟨some 119, .move (.tmp 0), false, none⟩,
  ⟨some 120, .move (.tmp 13), false, none⟩,
  ⟨some 121, .move (.tmp 17), false, none⟩,
  ⟨some 122, .call ⟨.value (.func 39), #[(.tmp 119), (.tmp 120), (.tmp 121)], #[25, 67, 3]⟩, true, none⟩]) <|
 .seq (.keep [2, 3, 4, 11, 13, 15, 16]) <|
 .ops [⟨some 123, .move (.tmp 11), false, none⟩,
  ⟨some 124, .move (.tmp 2), false, none⟩,
  ⟨some 125, .call ⟨.value (.func 37), #[(.tmp 123), (.tmp 124)], #[67, 9]⟩, true, none⟩,
  ⟨some 14, .assign (.tmp 125), false, none⟩]) <|
 .skip) <|
 .seq (.keep [3, 4, 11, 13, 14, 15, 16]) <|
 .seq (.ops [⟨some 126, .move (.tmp 11), false, none⟩,
  ⟨some 127, .move (.tmp 11), false, none⟩,
  ⟨some 128, .nilCheck (.tmp 127), false, none⟩,
  ⟨some 129, .fieldAddr 69 (.tmp 128) 3, false, none⟩,
  ⟨some 130, .load 55 (.tmp 129), false, none⟩,
  ⟨some 131, .move (.tmp 14), false, none⟩,
  ⟨some 132, .move (.tmp 14), false, none⟩,
  ⟨some 133, .binOp .add 3 (.tmp 132) (.const (.int .i64 1)) 3, false, none⟩,
  ⟨some 134, .call ⟨.value (.func 65), #[(.tmp 130), (.tmp 131), (.tmp 133)], #[55, 3, 3]⟩, true, none⟩,
  ⟨some 135, .nilCheck (.tmp 126), false, none⟩,
  ⟨some 136, .fieldAddr 69 (.tmp 135) 3, false, none⟩,
  ⟨none, .store 55 (.tmp 136) (.tmp 134), true, none⟩]) <|
 .seq (.keep [3, 4, 13, 15, 16]) <|
 .seq (.seq (.ops [⟨some 137, .move (.tmp 13), false, none⟩]) <|
 .seq (.ops [⟨some 138, .move (.tmp 13), false, none⟩]) <|
 .seq (.ops [⟨some 139, .nilCheck (.tmp 138), false, none⟩]) <|
 .seq (.ops [⟨some 140, .fieldAddr 69 (.tmp 139) 3, false, none⟩]) <|
 .seq (.ops [⟨some 142, .move (.tmp 4), false, none⟩]) <|
 .seq (.ops [⟨some 143, .move (.tmp 15), false, none⟩]) <|
 .seq (.ops [⟨some 144, .move (.tmp 16), false, none⟩]) <|
 .seq (.ops [⟨some 145, .nilCheck (.tmp 144), false, none⟩]) <|
 .seq (.ops [⟨some 146, .fieldAddr 69 (.tmp 145) 0, false, none⟩]) <|
 .seq (.ops [⟨some 147, .load 3 (.tmp 146), false, none⟩]) <|
 .seq (.ops [⟨some 148, .build 59 #[(0, (.tmp 142)), (1, (.tmp 143)), (2, (.tmp 147))], false, none⟩]) <|
 .amb (.seq (.ops [⟨some 141, .load 55 (.tmp 140), false, none⟩]) <|
 .seq (.ops [⟨some 149, .buildSlice 55 1 #[(0, (.tmp 148))], true, none⟩]) <|
 .seq (.ops [⟨some 150, .call ⟨.builtin .append, #[(.tmp 141), (.tmp 149)], #[55, 55]⟩, true, none⟩]) <|
 .seq (.ops [⟨some 151, .nilCheck (.tmp 137), false, none⟩]) <|
 .seq (.ops [⟨some 152, .fieldAddr 69 (.tmp 151) 3, false, none⟩]) <|
 .seq (.ops [⟨none, .store 55 (.tmp 152) (.tmp 150), true, none⟩]) <|
 .skip) (.seq (.ops [⟨some 149, .buildSlice 55 1 #[(0, (.tmp 148))], true, none⟩]) <|
 .seq (.ops [⟨some 141, .load 55 (.tmp 140), false, none⟩]) <|
 .seq (.ops [⟨some 150, .call ⟨.builtin .append, #[(.tmp 141), (.tmp 149)], #[55, 55]⟩, true, none⟩]) <|
 .seq (.ops [⟨some 151, .nilCheck (.tmp 137), false, none⟩]) <|
 .seq (.ops [⟨some 152, .fieldAddr 69 (.tmp 151) 3, false, none⟩]) <|
 .seq (.ops [⟨none, .store 55 (.tmp 152) (.tmp 150), true, none⟩]) <|
 .skip)) <|
 .seq (.keep [3, 16]) <|
 .seq (.seq (.ops [⟨some 153, .move (.tmp 16), false, none⟩,
  ⟨some 154, .nilCheck (.tmp 153), false, none⟩,
  ⟨some 155, .fieldAddr 69 (.tmp 154) 0, false, none⟩,
  ⟨some 156, .load 3 (.tmp 155), false, none⟩,
  ⟨some 157, .binOp .eql 3 (.tmp 156) (.const (.int .i64 2)) 3, false, none⟩]) <|
 .seq (.keep [3, 16, 157]) <|
 .cond (.tmp 157) (.ops [⟨some 158, .move (.tmp 16), false, none⟩,
  ⟨some 159, .move (.tmp 3), false, none⟩,
  ⟨some 160, .nilCheck (.tmp 158), false, none⟩,
  ⟨some 161, .fieldAddr 69 (.tmp 160) 4, false, none⟩,
  ⟨none, .store 3 (.tmp 161) (.tmp 159), true, none⟩]) <|
 .skip) <|
 .seq (.keep []) <|
 .seq (.ops [⟨some 10, .assign (.const (.int .i64 0)), false, none⟩]) <|
 .seq (.keep [10]) <|
 .ret
theorem c44 : Tryd.f44.body.map (fun c => ((compile Tryd.prog kp44 [] kp44 c).map (·.1), fits Tryd.f44.ntmps c)) = some (some s44, true) := by kernel_rfl
theorem r44 : Tryd.f44.results.toList = [.tmp 10] := by kernel_rfl
-- (*marionette/marionetteref15.Tree).Move
abbrev kp45 : List Nat := [10]
def s45 : SC :=
 .seq (.ops [⟨some 10, .assign (.const (.int .i64 0)), false, none⟩]) <|
 .seq (.keep [0, 1, 2, 3, 4]) <|
 .seq (.ops [⟨some 19, .move (.tmp 0), false, none⟩,
  ⟨some 20, .move (.tmp 1), false, none⟩,
  ⟨some 21, .call ⟨.value (.func 66), #[(.tmp 19), (.tmp 20)], #[48, 3]⟩, true, none⟩,
  ⟨some 11, .assign (.tmp 21), false, none⟩]) <|
 .seq (.keep [0, 1, 2, 3, 4, 11]) <|
 .seq (.seq (.ops [⟨some 22, .move (.tmp 11), false, none⟩,
  ⟨some 23, .binOp .eql 26 (.tmp 22) (.const (.int .i64 0)) 26, false, none⟩]) <|
 .seq (.keep [0, 1, 2, 3, 4, 11, 23]) <|
 .cond (.tmp 23) (.ops [⟨some 24, .move (.tmp 0), false, none⟩,
  ⟨some 25, .move (.tmp 3), false, none⟩,
  ⟨some 26, .call ⟨.value (.func 66), #[(.tmp 24), (.tmp 25)], #[48, 3]⟩, true, none⟩,
  ⟨some 11, .assign (.tmp 26), false, none⟩]) <|
 .skip) <|
 .seq (.keep [0, 1, 2, 3, 4, 11]) <|
 .seq (.seq (.ops [⟨some 27, .move (.tmp 11), false, none⟩,
  ⟨some 28, .binOp .neq 26 (.tmp 27) (.const (.int .i64 0)) 26, false, none⟩]) <|
 .seq (.keep [0, 1, 2, 3, 4, 11, 28]) <|
 .cond (.tmp 28) (.seq (.ops [⟨some 29, .move (.tmp 11), false, none⟩,
  ⟨some 10, .assign (.tmp 29), false, none⟩]) <|
 .seq (.keep [10]) <|
 .ret) <|
 .skip) <|
 .seq (.keep [0, 1, 2, 3, 4]) <|
 .seq (.seq (.ops [⟨some 30, .move (.tmp 2), false, none⟩,
  ⟨some 31, .binOp .eql 9 (.tmp 30) (.const (.string ⟨#[46]⟩)) 9, false, none⟩,
  ⟨some 32, .move (.tmp 31), false, none⟩,
  ⟨some 33, .move (.tmp 2), false, some (32, false)⟩,
  ⟨some 34, .binOp .eql 9 (.tmp 33) (.const (.string ⟨#[46, 46]⟩)) 9, false, some (32, false)⟩,
  ⟨some 35, .pick (.tmp 32) (.const (.bool true)) (.tmp 34), false, none⟩,
  ⟨some 36, .move (.tmp 35), false, none⟩,
  ⟨some 37, .move (.tmp 4), false, some (36, false)⟩,
  ⟨some 38, .call ⟨.value (.func 76), #[(.tmp 37)], #[9]⟩, true, some (36, false)⟩,
  ⟨some 39, .unOp .not 4 (.tmp 38), false, some (36, false)⟩,
  ⟨some 40, .pick (.tmp 36) (.const (.bool true)) (.tmp 39), false, none⟩]) <|
 .seq (.keep [0, 1, 2, 3, 4, 40]) <|
 .cond (.tmp 40) (.seq (.ops [⟨some 10, .assign (.const (.int .i64 22)), false, none⟩]) <|
 .seq (.keep [10]) <|
 .ret) <|
 .skip) <|
 .seq (.keep [0, 1, 2, 3, 4]) <|
 .seq (.ops [⟨some 41, .move (.tmp 0), false, none⟩,
  ⟨some 42, .move (.tmp 1), false, none⟩,
  ⟨some 43, .call ⟨.value (.func 71), #[(.tmp 41), (.tmp 42)], #[48, 3]⟩, true, none⟩,
  ⟨some 44, .move (.tmp 2), false, none⟩,
  ⟨some 45, .call ⟨.value (.func 72), #[(.tmp 43), (.tmp 44)], #[87, 9]⟩, true, none⟩,
  ⟨some 12, .assign (.tmp 45), false, none⟩]) <|
 .seq (.keep [0, 1, 2, 3, 4, 12]) <|
 .seq (.seq (.ops [⟨some 46, .move (.tmp 12), false, none⟩,
  ⟨some 47, .binOp .lss 3 (.tmp 46) (.const (.int .i64 0)) 3, false, none⟩,
  ⟨some 48, .move (.tmp 47), false, none⟩,
  ⟨some 49, .move (.tmp 0), false, some (48, false)⟩,
  ⟨some 50, .move (.tmp 3), false, some (48, false)⟩,
  ⟨some 51, .call ⟨.value (.func 71), #[(.tmp 49), (.tmp 50)], #[48, 3]⟩, true, some (48, false)⟩,
  ⟨some 52, .nilCheck (.tmp 51), false, some (48, false)⟩,
  ⟨some 53, .fieldAddr 89 (.tmp 52) 5, false, some (48, false)⟩,
  ⟨some 54, .load 3 (.tmp 53), false, some (48, false)⟩,
  ⟨some 55, .binOp .eql 3 (.tmp 54) (.const (.int .i64 0)) 3, false, some (48, false)⟩,
  ⟨some 56, .pick (.tmp 48) (.const (.bool true)) (.tmp 55), false, none⟩]) <|
 .seq (.keep [0, 1, 2, 3, 4, 12, 56]) <|
 .cond (.tmp 56) (.seq (.ops [⟨some 10, .assign (.const (.int .i64 2)), false, none⟩]) <|
 .seq (.keep [10]) <|
 .ret) <|
 .skip) <|
 .seq (.keep [0, 1, 2, 3, 4, 12]) <|
 .seq (.ops [⟨some 57, .move (.tmp 0), false, none⟩,
  ⟨some 58, .move (.tmp 1), false, none⟩,
  ⟨some 59, .call ⟨.value (.func 71), #[(.tmp 57), (.tmp 58)], #[48, 3]⟩, true, none⟩,
  ⟨some 60, .nilCheck (.tmp 59), false, none⟩,
  ⟨some 61, .fieldAddr 89 (.tmp 60) 4, false, none⟩,
  ⟨some 62, .load 55 (.tmp 61), false, none⟩,
  ⟨some 63, .move (.tmp 12), false, none⟩,
  ⟨some 64, .indexAddr 55 (.tmp 62) (.tmp 63), false, none⟩,
  ⟨some 65, .fieldAddr 59 (.tmp 64) 1, false, none⟩,
  ⟨some 66, .load 3 (.tmp 65), false, none⟩,
  ⟨some 13, .assign (.tmp 66), false, none⟩]) <|
 .seq (.keep [0, 1, 2, 3, 4, 12, 13]) <|
 .seq (.ops [⟨some 67, .move (.tmp 0), false, none⟩,
  ⟨some 68, .move (.tmp 13), false, none⟩,
  ⟨some 69, .call ⟨.value (.func 71), #[(.tmp 67), (.tmp 68)], #[48, 3]⟩, true, none⟩,
  ⟨some 70, .nilCheck (.tmp 69), false, none⟩,
  ⟨some 71, .fieldAddr 89 (.tmp 70) 1, false, none⟩,
  ⟨some 72, .load 3 (.tmp 71), false, none⟩,
  ⟨some 14, .assign (.tmp 72), false, none⟩]) <|
 .seq (.keep [0, 1, 2, 3, 4, 12, 13, 14]) <|
 .seq (.seq (.ops [⟨some 73, .move (.tmp 14), false, none⟩,
  ⟨some 74, .binOp .eql 3 (.tmp 73) (.const (.int .i64 2)) 3, false, none⟩]) <|
 .seq (.keep [0, 1, 2, 3, 4, 12, 13, 14, 74]) <|
 .cond (.tmp 74) (.seq (.ops [⟨some 75, .move (.tmp 3), false, none⟩,
  ⟨some 15, .assign (.tmp 75), false, none⟩]) <|
 .seq (.keep [0, 1, 2, 3, 4, 12, 13, 14, 15]) <|
 .seq (.ops [⟨some 16, .assign (.const (.int .i64 0)), false, none⟩]) <|
 .seq (.keep [0, 1, 2, 3, 4, 12, 13, 14, 15, 16]) <|
 .block 0 <| .loop <| .seq (.seq (.seq (.ops [⟨some 76, .move (.tmp 16), false, none⟩,
  ⟨some 77, .binOp .lss 3 (.tmp 76) (.const (.int .i64 2000)) 3, false, none⟩]) <|
 .seq (.keep [0, 1, 2, 3, 4, 12, 13, 14, 15, 16, 77]) <|
 .cond (.tmp 77) (.skip) <|
 .exit 0) <|
 .seq (.keep [0, 1, 2, 3, 4, 12, 13, 14, 15, 16]) <|
 .seq (.block 1 <| .seq (.seq (.ops [⟨some 80, .move (.tmp 15), false, none⟩,
  ⟨some 81, .move (.tmp 13), false, none⟩,
  ⟨some 82, .binOp .eql 3 (.tmp 80) (.tmp 81) 3, false, none⟩]) <|
 .seq (.keep [0, 1, 2, 3, 4, 12, 13, 14, 15, 16, 82]) <|
 .cond (.tmp 82) (.seq (.ops [⟨some 10, .assign (.const (.int .i64 22)), false, none⟩]) <|
 .seq (.keep [10]) <|
 .ret) <|
 .skip) <|
 .seq (.keep [0, 1, 2, 3, 4, 12, 13, 14, 15, 16]) <|
 .ops [⟨some 83, .move (.tmp 0), false, none⟩,
  ⟨some 84, .move (.tmp 15), false, none⟩,
  ⟨some 85, .call ⟨.value (.func 77), #[(.tmp 83), (.tmp 84)], #[48, 3]⟩, true, none⟩,
  ⟨some 15, .assign (.tmp 85), false, none⟩]) <|
 .seq (.keep [0, 1, 2, 3, 4, 12, 13, 14, 15, 16]) <|
 .ops [⟨some 78, .move (.tmp 16), false, none⟩,
  ⟨some 79, .binOp .add 3 (.tmp 78) (.const (.int .i64 1)) 3, false, none⟩,
  ⟨some 16, .assign (.tmp 79), false, none⟩]) <|
 .keep [0, 1, 2, 3, 4, 12, 13, 14, 15, 16]) <|
 .skip) <|
 .seq (.keep [0, 1, 2, 3, 4, 12, 13, 14]) <|
 .seq (.ops [⟨some 86, .move (.tmp 0), false, none⟩,
  ⟨some 87, .move (.tmp 3), false, none⟩,
  ⟨some 88, .call ⟨.value (.func 71), #[(.tmp 86), (.tmp 87)], #[48, 3]⟩, true, none⟩,
  ⟨some 89, .move (.tmp 4), false, none⟩,
  ⟨some 90, .call ⟨.value (.func 72), #[(.tmp 88), (.tmp 89)], #[87, 9]⟩, true, none⟩,
  ⟨some 17, .assign (.tmp 90), false, none⟩]) <|
 .seq (.keep [0, 1, 2, 3, 4, 12, 13, 14, 17]) <|
 .seq (.seq (.ops [⟨some 91, .move (.tmp 17), false, none⟩,
  ⟨some 92, .binOp .geq 3 (.tmp 91) (.const (.int .i64 0)) 3, false, none⟩]) <|
 .seq (.keep [0, 1, 2, 3, 4, 12, 13, 14, 17, 92]) <|
 .cond (.tmp 92) (.seq (.ops [⟨some 93, .move (.tmp 0), false, none⟩,
  ⟨some 94, .move (.tmp 3), false, none⟩,
  ⟨some 95, .call ⟨.value (.func 71), #[(.tmp 93), (.tmp 94)], #[48, 3]⟩, true, none⟩,
  ⟨some 96, .nilCheck (.tmp 95), false, none⟩,
  ⟨some 97, .fieldAddr 89 (.tmp 96) 4, false, none⟩,
  ⟨some 98, .load 55 (.tmp 97), false, none⟩,
  ⟨some 99, .move (.tmp 17), false, none⟩,
  ⟨some 100, .indexAddr 55 (.tmp 98) (.tmp 99), false, none⟩,
  ⟨some 101, .fieldAddr 59 (.tmp 100) 1, false, none⟩,
  ⟨some 102, .load 3 (.tmp 101), false, none⟩,
  ⟨some 18, .assign (.tmp 102), false, none⟩]) <|
 .seq (.keep [0, 1, 2, 3, 4, 13, 14, 17, 18]) <|
 .seq (.seq (.ops [⟨some 103, .move (.tmp 18), false, none⟩,
  ⟨some 104, .move (.tmp 13), false, none⟩,
  ⟨some 105, .binOp .eql 3 (.tmp 103) (.tmp 104) 3, false, none⟩]) <|
 .seq (.keep [0, 1, 2, 3, 4, 13, 14, 17, 18, 105]) <|
 .cond (.tmp 105) (.seq (.ops [⟨some 10, .assign (.const (.int .i64 0)), false, none⟩]) <|
 .seq (.keep [10]) <|
 .ret) <|
 .skip) <|
 .seq (.keep [0, 1, 2, 3, 4, 13, 14, 17, 18]) <|
 .seq (.ops [⟨some 106, .move (.tmp 0), false, none⟩,
  ⟨some 107, .move (.tmp 18), false, none⟩,
  ⟨some 108, .move (.tmp 14), false, none⟩,
  ⟨some 109, .binOp .eql 3 (.tmp 108) (.const (.int .i64 2)) 3, false, none⟩,
  ⟨some 110, .call ⟨.value (.func 73), #[(.tmp 106), (.tmp 107), (.tmp 109)], #[48, 3, 4]⟩, true, none⟩,
  ⟨some 11, .assign (.tmp 110), false, none⟩]) <|
 .seq (.keep [0, 1, 2, 3, 4, 11, 13, 14, 17]) <|
 .seq (.seq (.ops [⟨some 111, .move (.tmp 11), false, none⟩,
  ⟨some 112, .binOp .neq 26 (.tmp 111) (.const (.int .i64 0)) 26, false, none⟩]) <|
 .seq (.keep [0, 1, 2, 3, 4, 11, 13, 14, 17, 112]) <|
 .cond (.tmp 112) (.seq (.ops [⟨some 113, .move (.tmp 11), false, none⟩,
  ⟨some 10, .assign (.tmp 113), false, none⟩]) <|
 .seq (.keep [10]) <|
 .ret) <|
 .skip) <|
 .seq (.keep [0, 1, 2, 3, 4, 13, 14, 17]) <|
 .seq (.ops [⟨some 114, .move (.tmp 0), false, none⟩,
  ⟨some 115, .move (.tmp 3), false, none⟩,
  ⟨some 116, .move (.tmp 17), false, none⟩,
  ⟨some 117, .call ⟨.value (.func 74), #[(.tmp 114), (.tmp 115), (.tmp 116)], #[48, 3, 3]⟩, true, none⟩]) <|
 .seq (.keep [0, 1, 2, 3, 4, 13, 14]) <|
 .ops [⟨some 118, .move (.tmp 0), false, none⟩,
  ⟨some 119, .move (.tmp 1), false, none⟩,
  ⟨some 120, .call ⟨.value (.func 71), #[(.tmp 118), (.tmp 119)], #[48, 3]⟩, true, none⟩,
  ⟨some 121, .move (.tmp 2), false, none⟩,
  ⟨some 122, .call ⟨.value (.func 72), #[(.tmp 120), (.tmp 121)], #[87, 9]⟩, true, none⟩,
  ⟨some 12, .assign (.tmp 122), false, none⟩]) <|
 .skip) <|
 .seq (.keep [0, 1, 3, 4, 12, 13, 14]) <|
 .seq (.ops [⟨some 123, .move (.tmp 0), false, none⟩,
  ⟨some 124, .move (.tmp 1), false, none⟩,
  ⟨some 125, .call ⟨.value (.func 71), #[(.tmp 123), (.tmp 124)], #[48, 3]⟩, true, none⟩,
  ⟨some 126, .move (.tmp 0), false, none⟩,
  ⟨some 127, .move (.tmp 1), false, none⟩,
  ⟨some 128, .call ⟨.value (.func 71), #[(.tmp 126), (.tmp 127)], #[48, 3]⟩, true, none⟩,
  ⟨some 129, .nilCheck (.tmp 128), false, none⟩,
  ⟨some 130, .fieldAddr 89 (.tmp 129) 4, false, none⟩,
  ⟨some 131, .load 55 (.tmp 130), false, none⟩,
  ⟨some 132, .move (.tmp 12), false, none⟩,
  ⟨some 133, .call ⟨.value (.func 78), #[(.tmp 131), (.tmp 132)], #[55, 3]⟩, true, none⟩,
  ⟨some 134, .nilCheck (.tmp 125), false, none⟩,
  ⟨some 135, .fieldAddr 89 (.tmp 134) 4, false, none⟩,
  ⟨none, .store 55 (.tmp 135) (.tmp 133), true, none⟩]) <|
 .seq (.keep [0, 3, 4, 13, 14]) <|
 .seq (.ops [⟨some 136, .move (.tmp 0), false, none⟩,
  ⟨some 137, .move (.tmp 3), false, none⟩,
  ⟨some 138, .move (.tmp 4), false, none⟩,
  ⟨some 139, .move (.tmp 13), false, none⟩,
  ⟨some 140, .call ⟨.value (.func 70), #[(.tmp 136), (.tmp 137), (.tmp 138), (.tmp 139)], #[48, 3, 9, 3]⟩, true, none⟩]) <|
 .seq (.keep [0, 3, 13, 14]) <|
 .seq (.seq (.ops [⟨some 141, .move (.tmp 14), false, none⟩,
  ⟨some 142, .binOp .eql 3 (.tmp 141) (.const (.int .i64 2)) 3, false, none⟩]) <|
 .seq (.keep [0, 3, 13, 142]) <|
 .cond (.tmp 142) (.ops [⟨some 143, .move (.tmp 0), false, none⟩,
  ⟨some 144, .move (.tmp 13), false, none⟩,
  ⟨some 145, .call ⟨.value (.func 71), #[(.tmp 143), (.tmp 144)], #[48, 3]⟩, true, none⟩,
  ⟨some 146, .move (.tmp 3), false, none⟩,
  ⟨some 147, .nilCheck (.tmp 145), false, none⟩,
  ⟨some 148, .fieldAddr 89 (.tmp 147) 5, false, none⟩,
  ⟨none, .store 3 (.tmp 148) (.tmp 146), true, none⟩]) <|
 .skip) <|
 .seq (.keep []) <|
 .seq (.ops [⟨some 10, .assign (.const (.int .i64 0)), false, none⟩]) <|
 .seq (.keep [10]) <|
 .ret
theorem c45 : Tryd.f45.body.map (fun c => ((compile Tryd.prog kp45 [] kp45 c).map (·.1), fits Tryd.f45.ntmps c)) = some (some s45, true) := by kernel_rfl
theorem r45 : Tryd.f45.results.toList = [.tmp 10] := by kernel_rfl
-- (*marionette/marionetteref15.Tree).Read
abbrev kp46 : List Nat := [8, 9]
def s46 : SC :=
 .seq (.ops [⟨some 8, .assign (.const (.slice none 0 0)), false, none⟩,
  ⟨some 9, .assign (.const (.int .i64 0)), false, none⟩]) <|
 .seq (.keep [0, 1, 2, 3]) <|
 .seq (.ops [⟨some 12, .move (.tmp 0), false, none⟩,
  ⟨some 13, .move (.tmp 1), false, none⟩,
  ⟨some 14, .call ⟨.value (.func 79), #[(.tmp 12), (.tmp 13)], #[48, 3]⟩, true, none⟩,
  ⟨some 10, .assign (.tmp 14), false, none⟩]) <|
 .seq (.keep [0, 1, 2, 3, 10]) <|
 .seq (.seq (.ops [⟨some 15, .move (.tmp 10), false, none⟩,
  ⟨some 16, .binOp .neq 26 (.tmp 15) (.const (.int .i64 0)) 26, false, none⟩]) <|
 .seq (.keep [0, 1, 2, 3, 10, 16]) <|
 .cond (.tmp 16) (.seq (.ops [⟨some 17, .move (.tmp 10), false, none⟩,
  ⟨some 8, .assign (.const (.slice none 0 0)), false, none⟩,
  ⟨some 9, .assign (.tmp 17), false, none⟩]) <|
 .seq (.keep [8, 9]) <|
 .ret) <|
 .skip) <|
 .seq (.keep [0, 1, 2, 3]) <|
 .seq (.seq (.ops [⟨some 18, .move (.tmp 2), false, none⟩,
  ⟨some 19, .binOp .lss 3 (.tmp 18) (.const (.int .i64 0)) 3, false, none⟩,
  ⟨some 20, .move (.tmp 19), false, none⟩,
  ⟨some 21, .move (.tmp 3), false, some (20, false)⟩,
  ⟨some 22, .binOp .lss 3 (.tmp 21) (.const (.int .i64 0)) 3, false, some (20, false)⟩,
  ⟨some 23, .pick (.tmp 20) (.const (.bool true)) (.tmp 22), false, none⟩]) <|
 .seq (.keep [0, 1, 2, 3, 23]) <|
 .cond (.tmp 23) (.seq (.ops [⟨some 8, .assign (.const (.slice none 0 0)), false, none⟩,
  ⟨some 9, .assign (.const (.int .i64 22)), false, none⟩]) <|
 .seq (.keep [8, 9]) <|
 .ret) <|
 .skip) <|
 .seq (.keep [0, 1, 2, 3]) <|
 .seq (.seq (.ops [⟨some 24, .move (.tmp 3), false, none⟩,
  ⟨some 25, .binOp .gtr 3 (.tmp 24) (.const (.int .i64 65536)) 3, false, none⟩]) <|
 .seq (.keep [0, 1, 2, 3, 25]) <|
 .cond (.tmp 25) (.ops [⟨some 3, .assign (.const (.int .i64 65536)), false, none⟩]) <|
 .skip) <|
 .seq (.keep [0, 1, 2, 3]) <|
 .seq (.ops [⟨some 26, .move (.tmp 0), false, none⟩,
  ⟨some 27, .move (.tmp 1), false, none⟩,
  ⟨some 28, .call ⟨.value (.func 71), #[(.tmp 26), (.tmp 27)], #[48, 3]⟩, true, none⟩,
  ⟨some 11, .assign (.tmp 28), false, none⟩]) <|
 .seq (.keep [2, 3, 11]) <|
 .seq (.seq (.ops [⟨some 29, .move (.tmp 11), false, none⟩,
  ⟨some 30, .nilCheck (.tmp 29), false, none⟩,
  ⟨some 31, .fieldAddr 89 (.tmp 30) 1, false, none⟩,
  ⟨some 32, .load 3 (.tmp 31), false, none⟩,
  ⟨some 33, .binOp .eql 3 (.tmp 32) (.const (.int .i64 5)) 3, false, none⟩]) <|
 .seq (.keep [2, 3, 11, 33]) <|
 .cond (.tmp 33) (.seq (.ops [⟨some 34, .move (.tmp 3), false, none⟩,
  ⟨some 35, .makeSlice 23 (.tmp 34) (.tmp 34), true, none⟩,
  ⟨some 8, .assign (.tmp 35), false, none⟩,
  ⟨some 9, .assign (.const (.int .i64 0)), false, none⟩]) <|
 .seq (.keep [8, 9]) <|
 .ret) <|
 .skip) <|
 .seq (.keep [2, 3, 11]) <|
 .seq (.seq (.ops [⟨some 36, .move (.tmp 11), false, none⟩,
  ⟨some 37, .nilCheck (.tmp 36), false, none⟩,
  ⟨some 38, .fieldAddr 89 (.tmp 37) 1, false, none⟩,
  ⟨some 39, .load 3 (.tmp 38), false, none⟩,
  ⟨some 40, .binOp .eql 3 (.tmp 39) (.const (.int .i64 4)) 3, false, none⟩,
  ⟨some 41, .move (.tmp 40), false, none⟩,
  ⟨some 42, .move (.tmp 2), false, some (41, false)⟩,
  ⟨some 43, .move (.tmp 11), false, some (41, false)⟩,
  ⟨some 44, .nilCheck (.tmp 43), false, some (41, false)⟩,
  ⟨some 45, .fieldAddr 89 (.tmp 44) 3, false, some (41, false)⟩,
  ⟨some 46, .load 23 (.tmp 45), false, some (41, false)⟩,
  ⟨some 47, .call ⟨.builtin .len, #[(.tmp 46)], #[23]⟩, false, some (41, false)⟩,
  ⟨some 48, .binOp .geq 3 (.tmp 42) (.tmp 47) 3, false, some (41, false)⟩,
  ⟨some 49, .pick (.tmp 41) (.const (.bool true)) (.tmp 48), false, none⟩]) <|
 .seq (.keep [2, 3, 11, 49]) <|
 .cond (.tmp 49) (.seq (.ops [⟨some 8, .assign (.const (.slice none 0 0)), false, none⟩,
  ⟨some 9, .assign (.const (.int .i64 0)), false, none⟩]) <|
 .seq (.keep [8, 9]) <|
 .ret) <|
 .skip) <|
 .seq (.keep [2, 3, 11]) <|
 .seq (.seq (.ops [⟨some 50, .move (.tmp 3), false, none⟩,
  ⟨some 51, .move (.tmp 11), false, none⟩,
  ⟨some 52, .nilCheck (.tmp 51), false, none⟩,
  ⟨some 53, .fieldAddr 89 (.tmp 52) 3, false, none⟩,
  ⟨some 54, .load 23 (.tmp 53), false, none⟩,
  ⟨some 55, .call ⟨.builtin .len, #[(.tmp 54)], #[23]⟩, false, none⟩,
  ⟨some 56, .move (.tmp 2), false, none⟩,
  ⟨some 57, .binOp .sub 3 (.tmp 55) (.tmp 56) 3, false, none⟩,
  ⟨some 58, .binOp .gtr 3 (.tmp 50) (.tmp 57) 3, false, none⟩]) <|
 .seq (.keep [2, 3, 11, 58]) <|
 .cond (.tmp 58) (.ops [⟨some 59, .move (.tmp 11), false, none⟩,
  ⟨some 60, .nilCheck (.tmp 59), false, none⟩,
  ⟨some 61, .fieldAddr 89 (.tmp 60) 3, false, none⟩,
  ⟨some 62, .load 23 (.tmp 61), false, none⟩,
  ⟨some 63, .call ⟨.builtin .len, #[(.tmp 62)], #[23]⟩, false, none⟩,
  ⟨some 64, .move (.tmp 2), false, none⟩,
  ⟨some 65, .binOp .sub 3 (.tmp 63) (.tmp 64) 3, false, none⟩,
  ⟨some 3, .assign (.tmp 65), false, none⟩]) <|
 .skip) <|
 .seq (.keep [2, 3, 11]) <|
 .seq (.ops [⟨some 66, .buildSlice 23 0 #[], true, none⟩,
  ⟨some 67, .move (.tmp 11), false, none⟩,
  ⟨some 68, .nilCheck (.tmp 67), false, none⟩,
  ⟨some 69, .fieldAddr 89 (.tmp 68) 3, false, none⟩,
  ⟨some 70, .load 23 (.tmp 69), false, none⟩,
  ⟨some 71, .move (.tmp 2), false, none⟩,
  ⟨some 72, .move (.tmp 2), false, none⟩,
  ⟨some 73, .move (.tmp 3), false, none⟩,
  ⟨some 74, .binOp .add 3 (.tmp 72) (.tmp 73) 3, false, none⟩,
  ⟨some 75, .slice 23 (.tmp 70) (some (.tmp 71)) (some (.tmp 74)) none, false, none⟩,
  ⟨some 76, .call ⟨.builtin .append, #[(.tmp 66), (.tmp 75)], #[23, 23]⟩, true, none⟩,
  ⟨some 8, .assign (.tmp 76), false, none⟩,
  ⟨some 9, .assign (.const (.int .i64 0)), false, none⟩]) <|
 .seq (.keep [8, 9]) <|
 .ret
theorem c46 : Tryd.f46.body.map (fun c => ((compile Tryd.prog kp46 [] kp46 c).map (·.1), fits Tryd.f46.ntmps c)) = some (some s46, true) := by kernel_rfl
theorem r46 : Tryd.f46.results.toList = [.tmp 8, .tmp 9] := by kernel_rfl
-- (*marionette/marionetteref15.Tree).Write
abbrev kp47 : List Nat := [8, 9]
def s47 : SC :=
 .seq (.ops [⟨some 8, .assign (.const (.int .i64 0)), false, none⟩,
  ⟨some 9, .assign (.const (.int .i64 0)), false, none⟩]) <|
 .seq (.keep [0, 1, 2, 3]) <|
 .seq (.ops [⟨some 14, .move (.tmp 0), false, none⟩,
  ⟨some 15, .move (.tmp 1), false, none⟩,
  ⟨some 16, .call ⟨.value (.func 79), #[(.tmp 14), (.tmp 15)], #[48, 3]⟩, true, none⟩,
  ⟨some 10, .assign (.tmp 16), false, none⟩]) <|
 .seq (.keep [0, 1, 2, 3, 10]) <|
 .seq (.seq (.ops [⟨some 17, .move (.tmp 10), false, none⟩,
  ⟨some 18, .binOp .neq 26 (.tmp 17) (.const (.int .i64 0)) 26, false, none⟩]) <|
 .seq (.keep [0, 1, 2, 3, 10, 18]) <|
 .cond (.tmp 18) (.seq (.ops [⟨some 19, .move (.tmp 10), false, none⟩,
  ⟨some 8, .assign (.const (.int .i64 0)), false, none⟩,
  ⟨some 9, .assign (.tmp 19), false, none⟩]) <|
 .seq (.keep [8, 9]) <|
 .ret) <|
 .skip) <|
 .seq (.keep [0, 1, 2, 3]) <|
 .seq (.seq (.ops [⟨some 20, .move (.tmp 2), false, none⟩,
  ⟨some 21, .binOp .lss 3 (.tmp 20) (.const (.int .i64 0)) 3, false, none⟩]) <|
 .seq (.keep [0, 1, 2, 3, 21]) <|
 .cond (.tmp 21) (.seq (.ops [⟨some 8, .assign (.const (.int .i64 0)), false, none⟩,
  ⟨some 9, .assign (.const (.int .i64 22)), false, none⟩]) <|
 .seq (.keep [8, 9]) <|
 .ret) <|
 .skip) <|
 .seq (.keep [0, 1, 2, 3]) <|
 .seq (.ops [⟨some 22, .move (.tmp 0), false, none⟩,
  ⟨some 23, .move (.tmp 1), false, none⟩,
  ⟨some 24, .call ⟨.value (.func 71), #[(.tmp 22), (.tmp 23)], #[48, 3]⟩, true, none⟩,
  ⟨some 11, .assign (.tmp 24), false, none⟩]) <|
 .seq (.keep [2, 3, 11]) <|
 .seq (.seq (.ops [⟨some 25, .move (.tmp 11), false, none⟩,
  ⟨some 26, .nilCheck (.tmp 25), false, none⟩,
  ⟨some 27, .fieldAddr 89 (.tmp 26) 1, false, none⟩,
  ⟨some 28, .load 3 (.tmp 27), false, none⟩,
  ⟨some 29, .binOp .neq 3 (.tmp 28) (.const (.int .i64 1)) 3, false, none⟩,
  ⟨some 30, .move (.tmp 29), false, none⟩,
  ⟨some 31, .move (.tmp 3), false, some (30, false)⟩,
  ⟨some 32, .call ⟨.builtin .len, #[(.tmp 31)], #[23]⟩, false, some (30, false)⟩,
  ⟨some 33, .binOp .eql 3 (.tmp 32) (.const (.int .i64 0)) 3, false, some (30, false)⟩,
  ⟨some 34, .pick (.tmp 30) (.const (.bool true)) (.tmp 33), false, none⟩]) <|
 .seq (.keep [2, 3, 11, 34]) <|
 .cond (.tmp 34) (.seq (.ops [⟨some 35, .move (.tmp 3), false, none⟩,
  ⟨some 36, .call ⟨.builtin .len, #[(.tmp 35)], #[23]⟩, false, none⟩,
  ⟨some 8, .assign (.tmp 36), false, none⟩,
  ⟨some 9, .assign (.const (.int .i64 0)), false, none⟩]) <|
 .seq (.keep [8, 9]) <|
 .ret) <|
 .skip) <|
 .seq (.keep [2, 3, 11]) <|
 .seq (.seq (.ops [⟨some 37, .move (.tmp 2), false, none⟩,
  ⟨some 38, .binOp .gtr 3 (.tmp 37) (.const (.int .i64 1048576)) 3, false, none⟩,
  ⟨some 39, .move (.tmp 38), false, none⟩,
  ⟨some 40, .move (.tmp 2), false, some (39, false)⟩,
  ⟨some 41, .move (.tmp 3), false, some (39, false)⟩,
  ⟨some 42, .call ⟨.builtin .len, #[(.tmp 41)], #[23]⟩, false, some (39, false)⟩,
  ⟨some 43, .binOp .add 3 (.tmp 40) (.tmp 42) 3, false, some (39, false)⟩,
  ⟨some 44, .binOp .gtr 3 (.tmp 43) (.const (.int .i64 1048576)) 3, false, some (39, false)⟩,
  ⟨some 45, .pick (.tmp 39) (.const (.bool true)) (.tmp 44), false, none⟩]) <|
 .seq (.keep [2, 3, 11, 45]) <|
 .cond (.tmp 45) (.seq (.ops [⟨some 8, .assign (.const (.int .i64 0)), false, none⟩,
  ⟨some 9, .assign (.const (.int .i64 27)), false, none⟩]) <|
 .seq (.keep [8, 9]) <|
 .ret) <|
 .skip) <|
 .seq (.keep [2, 3, 11]) <|
 .seq (.ops [⟨some 46, .buildSlice 23 0 #[], true, none⟩,
  ⟨some 47, .move (.tmp 11), false, none⟩,
  ⟨some 48, .nilCheck (.tmp 47), false, none⟩,
  ⟨some 49, .fieldAddr 89 (.tmp 48) 3, false, none⟩,
  ⟨some 50, .load 23 (.tmp 49), false, none⟩,
  ⟨some 51, .call ⟨.builtin .append, #[(.tmp 46), (.tmp 50)], #[23, 23]⟩, true, none⟩,
  ⟨some 12, .assign (.tmp 51), false, none⟩]) <|
 .seq (.keep [2, 3, 11, 12]) <|
 .seq (.block 0 <| .loop <| .seq (.seq (.seq (.ops [⟨some 52, .move (.tmp 12), false, none⟩,
  ⟨some 53, .call ⟨.builtin .len, #[(.tmp 52)], #[23]⟩, false, none⟩,
  ⟨some 54, .move (.tmp 2), false, none⟩,
  ⟨some 55, .move (.tmp 3), false, none⟩,
  ⟨some 56, .call ⟨.builtin .len, #[(.tmp 55)], #[23]⟩, false, none⟩,
  ⟨some 57, .binOp .add 3 (.tmp 54) (.tmp 56) 3, false, none⟩,
  ⟨some 58, .binOp .lss 3 (.tmp 53) (.tmp 57) 3, false, none⟩]) <|
 .seq (.keep [2, 3, 11, 12, 58]) <|
 .cond (.tmp 58) (.skip) <|
 .exit 0) <|
 .seq (.keep [2, 3, 11, 12]) <|
 .block 1 <| .ops [⟨some 59, .move (.tmp 12), false, none⟩,
  ⟨some 60, .buildSlice 23 1 #[(0, (.const (.int .u8 0)))], true, none⟩,
  ⟨some 61, .call ⟨.builtin .append, #[(.tmp 59), (.tmp 60)], #[23, 23]⟩, true, none⟩,
  ⟨some 12, .assign (.tmp 61), false, none⟩]) <|
 .keep [2, 3, 11, 12]) <|
 .seq (.keep [2, 3, 11, 12]) <|
 .seq (.seq (.ops [⟨some 13, .assign (.const (.int .i64 0)), false, none⟩]) <|
 .seq (.keep [2, 3, 11, 12, 13]) <|
 .block 2 <| .loop <| .seq (.seq (.seq (.ops [⟨some 62, .move (.tmp 13), false, none⟩,
  ⟨some 63, .move (.tmp 3), false, none⟩,
  ⟨some 64, .call ⟨.builtin .len, #[(.tmp 63)], #[23]⟩, false, none⟩,
  ⟨some 65, .binOp .lss 3 (.tmp 62) (.tmp 64) 3, false, none⟩]) <|
 .seq (.keep [2, 3, 11, 12, 13, 65]) <|
 .cond (.tmp 65) (.skip) <|
 .exit 2) <|
 .seq (.keep [2, 3, 11, 12, 13]) <|
 .seq (.block 3 <| .ops [⟨some 68, .move (.tmp 12), false, none⟩,
  ⟨some 69, .move (.tmp 2), false, none⟩,
  ⟨some 70, .move (.tmp 13), false, none⟩,
  ⟨some 71, .binOp .add 3 (.tmp 69) (.tmp 70) 3, false, none⟩,
  ⟨some 72, .move (.tmp 3), false, none⟩,
  ⟨some 73, .move (.tmp 13), false, none⟩,
  ⟨some 74, .indexAddr 23 (.tmp 72) (.tmp 73), false, none⟩,
  ⟨some 75, .load 5 (.tmp 74), false, none⟩,
  ⟨some 76, .indexAddr 23 (.tmp 68) (.tmp 71), false, none⟩,
  ⟨none, .store 5 (.tmp 76) (.tmp 75), true, none⟩]) <|
 .seq (.keep [2, 3, 11, 12, 13]) <|
 .ops [⟨some 66, .move (.tmp 13), false, none⟩,
  ⟨some 67, .binOp .add 3 (.tmp 66) (.const (.int .i64 1)) 3, false, none⟩,
  ⟨some 13, .assign (.tmp 67), false, none⟩]) <|
 .keep [2, 3, 11, 12, 13]) <|
 .seq (.keep [3, 11, 12]) <|
 .seq (.ops [⟨some 77, .move (.tmp 11), false, none⟩,
  ⟨some 78, .move (.tmp 12), false, none⟩,
  ⟨some 79, .nilCheck (.tmp 77), false, none⟩,
  ⟨some 80, .fieldAddr 89 (.tmp 79) 3, false, none⟩,
  ⟨none, .store 23 (.tmp 80) (.tmp 78), true, none⟩]) <|
 .seq (.keep [3]) <|
 .seq (.ops [⟨some 81, .move (.tmp 3), false, none⟩,
  ⟨some 82, .call ⟨.builtin .len, #[(.tmp 81)], #[23]⟩, false, none⟩,
  ⟨some 8, .assign (.tmp 82), false, none⟩,
  ⟨some 9, .assign (.const (.int .i64 0)), false, none⟩]) <|
 .seq (.keep [8, 9]) <|
 .ret
theorem c47 : Tryd.f47.body.map (fun c => ((compile Tryd.prog kp47 [] kp47 c).map (·.1), fits Tryd.f47.ntmps c)) = some (some s47, true) := by kernel_rfl
theorem r47 : Tryd.f47.results.toList = [.tmp 8, .tmp 9] := by kernel_rfl
-- (*marionette/marionetteref15.Tree).Cut
abbrev kp48 : List Nat := [6]
def s48 : SC :=
 .seq (.ops [⟨some 6, .assign (.const (.int .i64 0)), false, none⟩]) <|
 .seq (.keep [0, 1, 2]) <|
 .seq (.ops [⟨some 10, .move (.tmp 0), false, none⟩,
  ⟨some 11, .move (.tmp 1), false, none⟩,
  ⟨some 12, .call ⟨.value (.func 79), #[(.tmp 10), (.tmp 11)], #[48, 3]⟩, true, none⟩,
  ⟨some 7, .assign (.tmp 12), false, none⟩]) <|
 .seq (.keep [0, 1, 2, 7]) <|
 .seq (.seq (.ops [⟨some 13, .move (.tmp 7), false, none⟩,
  ⟨some 14, .binOp .neq 26 (.tmp 13) (.const (.int .i64 0)) 26, false, none⟩]) <|
 .seq (.keep [0, 1, 2, 7, 14]) <|
 .cond (.tmp 14) (.seq (.ops [⟨some 15, .move (.tmp 7), false, none⟩,
  ⟨some 6, .assign (.tmp 15), false, none⟩]) <|
 .seq (.keep [6]) <|
 .ret) <|
 .skip) <|
 .seq (.keep [0, 1, 2]) <|
 .seq (.ops [⟨some 16, .move (.tmp 0), false, none⟩,
  ⟨some 17, .move (.tmp 1), false, none⟩,
  ⟨some 18, .call ⟨.value (.func 71), #[(.tmp 16), (.tmp 17)], #[48, 3]⟩, true, none⟩,
  ⟨some 8, .assign (.tmp 18), false, none⟩]) <|
 .seq (.keep [2, 8]) <|
 .seq (.seq (.ops [⟨some 19, .move (.tmp 8), false, none⟩,
  ⟨some 20, .nilCheck (.tmp 19), false, none⟩,
  ⟨some 21, .fieldAddr 89 (.tmp 20) 1, false, none⟩,
  ⟨some 22, .load 3 (.tmp 21), false, none⟩,
  ⟨some 23, .binOp .neq 3 (.tmp 22) (.const (.int .i64 1)) 3, false, none⟩,
  ⟨some 24, .move (.tmp 23), false, none⟩,
  ⟨some 25, .move (.tmp 2), false, some (24, false)⟩,
  ⟨some 26, .binOp .lss 3 (.tmp 25) (.const (.int .i64 0)) 3, false, some (24, false)⟩,
  ⟨some 27, .pick (.tmp 24) (.const (.bool true)) (.tmp 26), false, none⟩]) <|
 .seq (.keep [2, 8, 27]) <|
 .cond (.tmp 27) (.seq (.ops [⟨some 6, .assign (.const (.int .i64 22)), false, none⟩]) <|
 .seq (.keep [6]) <|
 .ret) <|
 .skip) <|
 .seq (.keep [2, 8]) <|
 .seq (.seq (.ops [⟨some 28, .move (.tmp 2), false, none⟩,
  ⟨some 29, .binOp .gtr 3 (.tmp 28) (.const (.int .i64 1048576)) 3, false, none⟩]) <|
 .seq (.keep [2, 8, 29]) <|
 .cond (.tmp 29) (.seq (.ops [⟨some 6, .assign (.const (.int .i64 27)), false, none⟩]) <|
 .seq (.keep [6]) <|
 .ret) <|
 .skip) <|
 .seq (.keep [2, 8]) <|
 .seq (.ops [⟨some 30, .buildSlice 23 0 #[], true, none⟩,
  ⟨some 31, .move (.tmp 8), false, none⟩,
  ⟨some 32, .nilCheck (.tmp 31), false, none⟩,
  ⟨some 33, .fieldAddr 89 (.tmp 32) 3, false, none⟩,
  ⟨some 34, .load 23 (.tmp 33), false, none⟩,
  ⟨some 35, .call ⟨.builtin .append, #[(.tmp 30), (.tmp 34)], #[23, 23]⟩, true, none⟩,
  ⟨some 9, .assign (.tmp 35), false, none⟩]) <|
 .seq (.keep [2, 8, 9]) <|
 .seq (.block 0 <| .loop <| .seq (.seq (.seq (.ops [⟨some 36, .move (.tmp 9), false, none⟩,
  ⟨some 37, .call ⟨.builtin .len, #[(.tmp 36)], #[23]⟩, false, none⟩,
  ⟨some 38, .move (.tmp 2), false, none⟩,
  ⟨some 39, .binOp .lss 3 (.tmp 37) (.tmp 38) 3, false, none⟩]) <|
 .seq (.keep [2, 8, 9, 39]) <|
 .cond (.tmp 39) (.skip) <|
 .exit 0) <|
 .seq (.keep [2, 8, 9]) <|
 .block 1 <| .ops [⟨some 40, .move (.tmp 9), false, none⟩,
  ⟨some 41, .buildSlice 23 1 #[(0, (.const (.int .u8 0)))], true, none⟩,
  ⟨some 42, .call ⟨.builtin .append, #[(.tmp 40), (.tmp 41)], #[23, 23]⟩, true, none⟩,
  ⟨some 9, .assign (.tmp 42), false, none⟩]) <|
 .keep [2, 8, 9]) <|
 .seq (.keep [2, 8, 9]) <|
 .seq (.ops [⟨some 43, .move (.tmp 8), false, none⟩,
  ⟨some 44, .move (.tmp 9), false, none⟩,
  ⟨some 45, .move (.tmp 2), false, none⟩,
  ⟨some 46, .slice 23 (.tmp 44) none (some (.tmp 45)) none, false, none⟩,
  ⟨some 47, .nilCheck (.tmp 43), false, none⟩,
  ⟨some 48, .fieldAddr 89 (.tmp 47) 3, false, none⟩,
  ⟨none, .store 23 (.tmp 48) (.tmp 46), true, none⟩]) <|
 .seq (.keep []) <|
 .seq (.ops [⟨some 6, .assign (.const (.int .i64 0)), false, none⟩]) <|
 .seq (.keep [6]) <|
 .ret
theorem c48 : Tryd.f48.body.map (fun c => ((compile Tryd.prog kp48 [] kp48 c).map (·.1), fits Tryd.f48.ntmps c)) = some (some s48, true) := by kernel_rfl
theorem r48 : Tryd.f48.results.toList = [.tmp 6] := by kernel_rfl
-- (*marionette/node.Tree).Chmod
abbrev kp49 : List Nat := [6]
def s49 : SC :=
 .seq (.ops [⟨some 6, .assign (.const (.int .i64 0)), false, none⟩]) <|
 .seq (.keep [0, 1, 2]) <|
 .seq (.ops [⟨some 8, .move (.tmp 0), false, none⟩,
  ⟨some 9, .move (.tmp 1), false, none⟩,
  ⟨some 10, .call ⟨.value (.func 29), #[(.tmp 8), (.tmp 9)], #[25, 3]⟩, true, none⟩,
  ⟨some 7, .assign (.tmp 10), false, none⟩]) <|
 .seq (.keep [2, 7]) <|
 .seq (.block 0 <| .seq (.ops [⟨some 12, .move (.tmp 7), false, none⟩,
  ⟨some 13, .binOp .eql 67 (.tmp 12) (.const (.pointer none)) 67, false, none⟩,
  ⟨some 11, .assign (.tmp 13), false, none⟩]) <|
 .seq (.keep [2, 7, 11]) <|
 .cond (.tmp 11) (.seq (.ops [⟨some 6, .assign (.const (.int .i64 2)), false, none⟩]) <|
 .seq (.keep [6]) <|
 .ret) <|
 .seq (.ops [⟨some 15, .move (.tmp 2), false, none⟩,
  ⟨some 16, .binOp .lss 3 (.tmp 15) (.const (.int .i64 0)) 3, false, none⟩,
  ⟨some 17, .move (.tmp 16), false, none⟩,
  ⟨some 18, .move (.tmp 2), false, some (17, false)⟩,
  ⟨some 19, .binOp .gtr 3 (.tmp 18) (.const (.int .i64 511)) 3, false, some (17, false)⟩,
  ⟨some 20, .pick (.tmp 17) (.const (.bool true)) (.tmp 19), false, none⟩,
  ⟨some 14, .assign (.tmp 20), false, none⟩]) <|
 .seq (.keep [2, 7, 14]) <|
 .cond (.tmp 14) (.seq (.ops [⟨some 6, .assign (.const (.int .i64 22)), false, none⟩]) <|
 .seq (.keep [6]) <|
 .ret) <|
 .skip) <|
 .seq (.keep [2, 7]) <|
 .seq (.ops [⟨some 21, .move (.tmp 7), false, none⟩,
  ⟨some 22, .move (.tmp 2), false, none⟩,
  ⟨some 23, .nilCheck (.tmp 21), false, none⟩,
  ⟨some 24, .fieldAddr 69 (.tmp 23) 1, false, none⟩,
  ⟨none, .store 3 (.tmp 24) (.tmp 22), true, none⟩]) <|
 .seq (.keep []) <|
 .seq (.ops [⟨some 6, .assign (.const (.int .i64 0)), false, none⟩]) <|
 .seq (.keep [6]) <|
 .ret
theorem c49 : Tryd.f49.body.map (fun c => ((compile Tryd.prog kp49 [] kp49 c).map (·.1), fits Tryd.f49.ntmps c)) = some (some s49, true) := by kernel_rfl
theorem r49 : Tryd.f49.results.toList = [.tmp 6] := by kernel_rfl
-- (*marionette/marionetteref15.Tree).Chmod
abbrev kp50 : List Nat := [6]
def s50 : SC :=
 .seq (.ops [⟨some 6, .assign (.const (.int .i64 0)), false, none⟩]) <|
 .seq (.keep [0, 1, 2]) <|
 .seq (.ops [⟨some 8, .move (.tmp 0), false, none⟩,
  ⟨some 9, .move (.tmp 1), false, none⟩,
  ⟨some 10, .call ⟨.value (.func 71), #[(.tmp 8), (.tmp 9)], #[48, 3]⟩, true, none⟩,
  ⟨some 7, .assign (.tmp 10), false, none⟩]) <|
 .seq (.keep [2, 7]) <|
 .seq (.seq (.ops [⟨some 11, .move (.tmp 7), false, none⟩,
  ⟨some 12, .nilCheck (.tmp 11), false, none⟩,
  ⟨some 13, .fieldAddr 89 (.tmp 12) 0, false, none⟩,
  ⟨some 14, .load 3 (.tmp 13), false, none⟩,
  ⟨some 15, .binOp .eql 3 (.tmp 14) (.const (.int .i64 0)) 3, false, none⟩]) <|
 .seq (.keep [2, 7, 15]) <|
 .cond (.tmp 15) (.seq (.ops [⟨some 6, .assign (.const (.int .i64 2)), false, none⟩]) <|
 .seq (.keep [6]) <|
 .ret) <|
 .skip) <|
 .seq (.keep [2, 7]) <|
 .seq (.seq (.ops [⟨some 16, .move (.tmp 2), false, none⟩,
  ⟨some 17, .binOp .lss 3 (.tmp 16) (.const (.int .i64 0)) 3, false, none⟩,
  ⟨some 18, .move (.tmp 17), false, none⟩,
  ⟨some 19, .move (.tmp 2), false, some (18, false)⟩,
  ⟨some 20, .binOp .gtr 3 (.tmp 19) (.const (.int .i64 511)) 3, false, some (18, false)⟩,
  ⟨some 21, .pick (.tmp 18) (.const (.bool true)) (.tmp 20), false, none⟩]) <|
 .seq (.keep [2, 7, 21]) <|
 .cond (.tmp 21) (.seq (.ops [⟨some 6, .assign (.const (.int .i64 22)), false, none⟩]) <|
 .seq (.keep [6]) <|
 .ret) <|
 .skip) <|
 .seq (.keep [2, 7]) <|
 .seq (.ops [⟨some 22, .move (.tmp 7), false, none⟩,
  ⟨some 23, .move (.tmp 2), false, none⟩,
  ⟨some 24, .nilCheck (.tmp 22), false, none⟩,
  ⟨some 25, .fieldAddr 89 (.tmp 24) 2, false, none⟩,
  ⟨none, .store 3 (.tmp 25) (.tmp 23), true, none⟩]) <|
 .seq (.keep []) <|
 .seq (.ops [⟨some 6, .assign (.const (.int .i64 0)), false, none⟩]) <|
 .seq (.keep [6]) <|
 .ret
theorem c50 : Tryd.f50.body.map (fun c => ((compile Tryd.prog kp50 [] kp50 c).map (·.1), fits Tryd.f50.ntmps c)) = some (some s50, true) := by kernel_rfl
theorem r50 : Tryd.f50.results.toList = [.tmp 6] := by kernel_rfl
-- (*marionette/marionetteref15.Tree).Hold
abbrev kp51 : List Nat := []
def s51 : SC :=
 .seq (.ops [⟨some 5, .move (.tmp 0), false, none⟩,
  ⟨some 6, .move (.tmp 1), false, none⟩,
  ⟨some 7, .call ⟨.value (.func 71), #[(.tmp 5), (.tmp 6)], #[48, 3]⟩, true, none⟩,
  ⟨some 4, .assign (.tmp 7), false, none⟩]) <|
 .seq (.keep [4]) <|
 .seq (.ops [⟨some 8, .move (.tmp 4), false, none⟩,
  ⟨some 9, .nilCheck (.tmp 8), false, none⟩,
  ⟨some 10, .fieldAddr 89 (.tmp 9) 0, false, none⟩,
  ⟨some 11, .load 3 (.tmp 10), false, none⟩,
  ⟨some 12, .binOp .gtr 3 (.tmp 11) (.const (.int .i64 0)) 3, false, none⟩]) <|
 .seq (.keep [4, 12]) <|
 .cond (.tmp 12) (.ops [⟨some 13, .move (.tmp 4), false, none⟩,
  ⟨some 14, .nilCheck (.tmp 13), false, none⟩,
  ⟨some 15, .fieldAddr 89 (.tmp 14) 7, false, none⟩,
  ⟨some 16, .load 3 (.tmp 15), false, none⟩,
  ⟨some 17, .binOp .add 3 (.tmp 16) (.const (.int .i64 1)) 3, false, none⟩,
  ⟨some 18, .nilCheck (.tmp 13), false, none⟩,
  ⟨some 19, .fieldAddr 89 (.tmp 18) 7, false, none⟩,
  ⟨none, .store 3 (.tmp 19) (.tmp 17), true, none⟩]) <|
 .skip
theorem c51 : Tryd.f51.body.map (fun c => ((compile Tryd.prog kp51 [] kp51 c).map (·.1), fits Tryd.f51.ntmps c)) = some (some s51, true) := by kernel_rfl
theorem r51 : Tryd.f51.results.toList = [] := by kernel_rfl
-- (*marionette/marionetteref15.Tree).Release
abbrev kp52 : List Nat := []
def s52 : SC :=
 .seq (.ops [⟨some 5, .move (.tmp 0), false, none⟩,
  ⟨some 6, .move (.tmp 1), false, none⟩,
  ⟨some 7, .call ⟨.value (.func 71), #[(.tmp 5), (.tmp 6)], #[48, 3]⟩, true, none⟩,
  ⟨some 4, .assign (.tmp 7), false, none⟩]) <|
 .seq (.keep [0, 1, 4]) <|
 .seq (.ops [⟨some 8, .move (.tmp 4), false, none⟩,
  ⟨some 9, .nilCheck (.tmp 8), false, none⟩,
  ⟨some 10, .fieldAddr 89 (.tmp 9) 0, false, none⟩,
  ⟨some 11, .load 3 (.tmp 10), false, none⟩,
  ⟨some 12, .binOp .gtr 3 (.tmp 11) (.const (.int .i64 0)) 3, false, none⟩,
  ⟨some 13, .move (.tmp 12), false, none⟩,
  ⟨some 14, .move (.tmp 4), false, some (13, true)⟩,
  ⟨some 15, .nilCheck (.tmp 14), false, some (13, true)⟩,
  ⟨some 16, .fieldAddr 89 (.tmp 15) 7, false, some (13, true)⟩,
  ⟨some 17, .load 3 (.tmp 16), false, some (13, true)⟩,
  ⟨some 18, .binOp .gtr 3 (.tmp 17) (.const (.int .i64 0)) 3, false, some (13, true)⟩,
  ⟨some 19, .pick (.tmp 13) (.tmp 18) (.const (.bool false)), false, none⟩]) <|
 .seq (.keep [0, 1, 4, 19]) <|
 .cond (.tmp 19) (.seq (.ops [⟨some 20, .move (.tmp 4), false, none⟩,
  ⟨some 21, .nilCheck (.tmp 20), false, none⟩,
  ⟨some 22, .fieldAddr 89 (.tmp 21) 7, false, none⟩,
  ⟨some 23, .load 3 (.tmp 22), false, none⟩,
  ⟨some 24, .binOp .sub 3 (.tmp 23) (.const (.int .i64 1)) 3, false, none⟩,
  ⟨some 25, .nilCheck (.tmp 20), false, none⟩,
  ⟨some 26, .fieldAddr 89 (.tmp 25) 7, false, none⟩,
  ⟨none, .store 3 (.tmp 26) (.tmp 24), true, none⟩]) <|
 .seq (.keep [0, 1]) <|
 .ops [⟨some 27, .move (.tmp 0), false, none⟩,
  ⟨some 28, .move (.tmp 1), false, none⟩,
  ⟨some 29, .call ⟨.value (.func 80), #[(.tmp 27), (.tmp 28)], #[48, 3]⟩, true, none⟩]) <|
 .skip
theorem c52 : Tryd.f52.body.map (fun c => ((compile Tryd.prog kp52 [] kp52 c).map (·.1), fits Tryd.f52.ntmps c)) = some (some s52, true) := by kernel_rfl
theorem r52 : Tryd.f52.results.toList = [] := by kernel_rfl
-- (*marionette/node.Tree).Find
abbrev kp53 : List Nat := [6, 7]
def s53 : SC :=
 .seq (.ops [⟨some 6, .assign (.const (.int .i64 0)), false, none⟩,
  ⟨some 7, .assign (.const (.int .i64 0)), false, none⟩]) <|
 .seq (.keep [0, 1, 2]) <|
 .seq (.ops [⟨some 12, .move (.tmp 0), false, none⟩,
  ⟨some 13, .move (.tmp 1), false, none⟩,
  ⟨some 14, .call ⟨.value (.func 36), #[(.tmp 12), (.tmp 13)], #[25, 3]⟩, true, none⟩,
  ⟨some 11, .move (.tmp 14), false, none⟩,
  ⟨some 15, .extract (.tmp 11) 0, false, none⟩,
  ⟨some 16, .extract (.tmp 11) 1, false, none⟩,
  ⟨some 8, .assign (.tmp 15), false, none⟩,
  ⟨some 9, .assign (.tmp 16), false, none⟩]) <|
 .seq (.keep [0, 1, 2, 8, 9]) <|
 .seq (.seq (.ops [⟨some 17, .move (.tmp 9), false, none⟩,
  ⟨some 18, .binOp .neq 26 (.tmp 17) (.const (.int .i64 0)) 26, false, none⟩]) <|
 .seq (.keep [0, 1, 2, 8, 9, 18]) <|
 .cond (.tmp 18) (.seq (.ops [⟨some 19, .move (.tmp 9), false, none⟩,
  ⟨some 6, .assign (.const (.int .i64 0)), false, none⟩,
  ⟨some 7, .assign (.tmp 19), false, none⟩]) <|
 .seq (.keep [6, 7]) <|
 .ret) <|
 .skip) <|
 .seq (.keep [0, 1, 2, 8]) <|
 .seq (.seq (.ops [⟨some 20, .move (.tmp 2), false, none⟩]) <|
 .seq (.keep [0, 1, 2, 8, 20]) <|
 .block 0 <| .seq (.ops [⟨some 22, .binOp .eql 9 (.tmp 20) (.const (.string ⟨#[46]⟩)) 9, false, none⟩,
  ⟨some 21, .assign (.tmp 22), false, none⟩]) <|
 .seq (.keep [0, 1, 2, 8, 20, 21]) <|
 .cond (.tmp 21) (.seq (.ops [⟨some 23, .move (.tmp 1), false, none⟩,
  ⟨some 6, .assign (.tmp 23), false, none⟩,
  ⟨some 7, .assign (.const (.int .i64 0)), false, none⟩]) <|
 .seq (.keep [6, 7]) <|
 .ret) <|
 .seq (.ops [⟨some 25, .binOp .eql 9 (.tmp 20) (.const (.string ⟨#[46, 46]⟩)) 9, false, none⟩,
  ⟨some 24, .assign (.tmp 25), false, none⟩]) <|
 .seq (.keep [0, 1, 2, 8, 24]) <|
 .cond (.tmp 24) (.seq (.ops [⟨some 26, .move (.tmp 0), false, none⟩,
  ⟨some 27, .move (.tmp 1), false, none⟩,
  ⟨some 28, .call ⟨.value (.func 21), #[(.tmp 26), (.tmp 27)], #[25, 3]⟩, true, none⟩,
  ⟨some 6, .assign (.tmp 28), false, none⟩,
  ⟨some 7, .assign (.const (.int .i64 0)), false, none⟩]) <|
 .seq (.keep [6, 7]) <|
 .ret) <|
 .skip) <|
 .seq (.keep [2, 8]) <|
 .seq (.ops [⟨some 29, .move (.tmp 8), false, none⟩,
  ⟨some 30, .move (.tmp 2), false, none⟩,
  ⟨some 31, .call ⟨.value (.func 37), #[(.tmp 29), (.tmp 30)], #[67, 9]⟩, true, none⟩,
  ⟨some 10, .assign (.tmp 31), false, none⟩]) <|
 .seq (.keep [8, 10]) <|
 .seq (.seq (.ops [⟨some 32, .move (.tmp 10), false, none⟩,
  ⟨some 33, .binOp .lss 3 (.tmp 32) (.const (.int .i64 0)) 3, false, none⟩]) <|
 .seq (.keep [8, 10, 33]) <|
 .cond (.tmp 33) (.seq (.ops [⟨some 6, .assign (.const (.int .i64 0)), false, none⟩,
  ⟨some 7, .assign (.const (.int .i64 2)), false, none⟩]) <|
 .seq (.keep [6, 7]) <|
 .ret) <|
 .skip) <|
 .seq (.keep [8, 10]) <|
 .seq (.ops [⟨some 34, .move (.tmp 8), false, none⟩,
  ⟨some 35, .nilCheck (.tmp 34), false, none⟩,
  ⟨some 36, .fieldAddr 69 (.tmp 35) 3, false, none⟩,
  ⟨some 37, .load 55 (.tmp 36), false, none⟩,
  ⟨some 38, .move (.tmp 10), false, none⟩,
  ⟨some 39, .indexAddr 55 (.tmp 37) (.tmp 38), false, none⟩,
  ⟨some 40, .fieldAddr 59 (.tmp 39) 1, false, none⟩,
  ⟨some 41, .load 3 (.tmp 40), false, none⟩,
  ⟨some 6, .assign (.tmp 41), false, none⟩,
  ⟨some 7, .assign (.const (.int .i64 0)), false, none⟩]) <|
 .seq (.keep [6, 7]) <|
 .ret
theorem c53 : Tryd.f53.body.map (fun c => ((compile Tryd.prog kp53 [] kp53 c).map (·.1), fits Tryd.f53.ntmps c)) = some (some s53, true) := by kernel_rfl
theorem r53 : Tryd.f53.results.toList = [.tmp 6, .tmp 7] := by kernel_rfl
-- (*marionette/marionetteref15.Tree).Find
abbrev kp54 : List Nat := [6, 7]
def s54 : SC :=
 .seq (.ops [⟨some 6, .assign (.const (.int .i64 0)), false, none⟩,
  ⟨some 7, .assign (.const (.int .i64 0)), false, none⟩]) <|
 .seq (.keep [0, 1, 2]) <|
 .seq (.ops [⟨some 10, .move (.tmp 0), false, none⟩,
  ⟨some 11, .move (.tmp 1), false, none⟩,
  ⟨some 12, .call ⟨.value (.func 66), #[(.tmp 10), (.tmp 11)], #[48, 3]⟩, true, none⟩,
  ⟨some 8, .assign (.tmp 12), false, none⟩]) <|
 .seq (.keep [0, 1, 2, 8]) <|
 .seq (.seq (.ops [⟨some 13, .move (.tmp 8), false, none⟩,
  ⟨some 14, .binOp .neq 26 (.tmp 13) (.const (.int .i64 0)) 26, false, none⟩]) <|
 .seq (.keep [0, 1, 2, 8, 14]) <|
 .cond (.tmp 14) (.seq (.ops [⟨some 15, .move (.tmp 8), false, none⟩,
  ⟨some 6, .assign (.const (.int .i64 0)), false, none⟩,
  ⟨some 7, .assign (.tmp 15), false, none⟩]) <|
 .seq (.keep [6, 7]) <|
 .ret) <|
 .skip) <|
 .seq (.keep [0, 1, 2]) <|
 .seq (.seq (.ops [⟨some 16, .move (.tmp 2), false, none⟩,
  ⟨some 17, .binOp .eql 9 (.tmp 16) (.const (.string ⟨#[46]⟩)) 9, false, none⟩]) <|
 .seq (.keep [0, 1, 2, 17]) <|
 .cond (.tmp 17) (.seq (.ops [⟨some 18, .move (.tmp 1), false, none⟩,
  ⟨some 6, .assign (.tmp 18), false, none⟩,
  ⟨some 7, .assign (.const (.int .i64 0)), false, none⟩]) <|
 .seq (.keep [6, 7]) <|
 .ret) <|
 .skip) <|
 .seq (.keep [0, 1, 2]) <|
 .seq (.seq (.ops [⟨some 19, .move (.tmp 2), false, none⟩,
  ⟨some 20, .binOp .eql 9 (.tmp 19) (.const (.string ⟨#[46, 46]⟩)) 9, false, none⟩]) <|
 .seq (.keep [0, 1, 2, 20]) <|
 .cond (.tmp 20) (.seq (.ops [⟨some 21, .move (.tmp 0), false, none⟩,
  ⟨some 22, .move (.tmp 1), false, none⟩,
  ⟨some 23, .call ⟨.value (.func 77), #[(.tmp 21), (.tmp 22)], #[48, 3]⟩, true, none⟩,
  ⟨some 6, .assign (.tmp 23), false, none⟩,
  ⟨some 7, .assign (.const (.int .i64 0)), false, none⟩]) <|
 .seq (.keep [6, 7]) <|
 .ret) <|
 .skip) <|
 .seq (.keep [0, 1, 2]) <|
 .seq (.ops [⟨some 24, .move (.tmp 0), false, none⟩,
  ⟨some 25, .move (.tmp 1), false, none⟩,
  ⟨some 26, .call ⟨.value (.func 71), #[(.tmp 24), (.tmp 25)], #[48, 3]⟩, true, none⟩,
  ⟨some 27, .move (.tmp 2), false, none⟩,
  ⟨some 28, .call ⟨.value (.func 72), #[(.tmp 26), (.tmp 27)], #[87, 9]⟩, true, none⟩,
  ⟨some 9, .assign (.tmp 28), false, none⟩]) <|
 .seq (.keep [0, 1, 9]) <|
 .seq (.seq (.ops [⟨some 29, .move (.tmp 9), false, none⟩,
  ⟨some 30, .binOp .lss 3 (.tmp 29) (.const (.int .i64 0)) 3, false, none⟩]) <|
 .seq (.keep [0, 1, 9, 30]) <|
 .cond (.tmp 30) (.seq (.ops [⟨some 6, .assign (.const (.int .i64 0)), false, none⟩,
  ⟨some 7, .assign (.const (.int .i64 2)), false, none⟩]) <|
 .seq (.keep [6, 7]) <|
 .ret) <|
 .skip) <|
 .seq (.keep [0, 1, 9]) <|
 .seq (.ops [⟨some 31, .move (.tmp 0), false, none⟩,
  ⟨some 32, .move (.tmp 1), false, none⟩,
  ⟨some 33, .call ⟨.value (.func 71), #[(.tmp 31), (.tmp 32)], #[48, 3]⟩, true, none⟩,
  ⟨some 34, .nilCheck (.tmp 33), false, none⟩,
  ⟨some 35, .fieldAddr 89 (.tmp 34) 4, false, none⟩,
  ⟨some 36, .load 55 (.tmp 35), false, none⟩,
  ⟨some 37, .move (.tmp 9), false, none⟩,
  ⟨some 38, .indexAddr 55 (.tmp 36) (.tmp 37), false, none⟩,
  ⟨some 39, .fieldAddr 59 (.tmp 38) 1, false, none⟩,
  ⟨some 40, .load 3 (.tmp 39), false, none⟩,
  ⟨some 6, .assign (.tmp 40), false, none⟩,
  ⟨some 7, .assign (.const (.int .i64 0)), false, none⟩]) <|
 .seq (.keep [6, 7]) <|
 .ret
theorem c54 : Tryd.f54.body.map (fun c => ((compile Tryd.prog kp54 [] kp54 c).map (·.1), fits Tryd.f54.ntmps c)) = some (some s54, true) := by kernel_rfl
theorem r54 : Tryd.f54.results.toList = [.tmp 6, .tmp 7] := by kernel_rfl
-- (*marionette/node.Tree).Target
abbrev kp55 : List Nat := [4, 5]
def s55 : SC :=
 .seq (.ops [⟨some 4, .assign (.const (.string ⟨#[]⟩)), false, none⟩,
  ⟨some 5, .assign (.const (.int .i64 0)), false, none⟩]) <|
 .seq (.keep [0, 1]) <|
 .seq (.ops [⟨some 7, .move (.tmp 0), false, none⟩,
  ⟨some 8, .move (.tmp 1), false, none⟩,
  ⟨some 9, .call ⟨.value (.func 29), #[(.tmp 7), (.tmp 8)], #[25, 3]⟩, true, none⟩,
  ⟨some 6, .assign (.tmp 9), false, none⟩]) <|
 .seq (.keep [6]) <|
 .block 0 <| .seq (.ops [⟨some 16, .move (.tmp 6), false, none⟩,
  ⟨some 17, .binOp .eql 67 (.tmp 16) (.const (.pointer none)) 67, false, none⟩,
  ⟨some 15, .assign (.tmp 17), false, none⟩]) <|
 .seq (.keep [6, 15]) <|
 .cond (.tmp 15) (.seq (.ops [⟨some 4, .assign (.const (.string ⟨#[]⟩)), false, none⟩,
  ⟨some 5, .assign (.const (.int .i64 2)), false, none⟩]) <|
 .seq (.keep [4, 5]) <|
 .ret) <|
 .seq (.ops [⟨some 19, .move (.tmp 6), false, none⟩,
  ⟨some 20, .nilCheck (.tmp 19), false, none⟩,
  ⟨some 21, .fieldAddr 69 (.tmp 20) 0, false, none⟩,
  ⟨some 22, .load 3 (.tmp 21), false, none⟩,
  ⟨some 23, .binOp .neq 3 (.tmp 22) (.const (.int .i64 3)) 3, false, none⟩,
  ⟨some 18, .assign (.tmp 23), false, none⟩]) <|
 .seq (.keep [6, 18]) <|
 .cond (.tmp 18) (.seq (.ops [⟨some 4, .assign (.const (.string ⟨#[]⟩)), false, none⟩,
  ⟨some 5, .assign (.const (.int .i64 22)), false, none⟩]) <|
 .seq (.keep [4, 5]) <|
 .ret) <|
 .seq (.ops [⟨some 10, .move (.tmp 6), false, none⟩,
  ⟨some 11, .nilCheck (.tmp 10), false, none⟩,
  ⟨some 12, .fieldAddr 69 (.tmp 11) 2, false, none⟩,
  ⟨some 13, .load 23 (.tmp 12), false, none⟩,
  ⟨some 14, .convert 23 9 (.tmp 13), true, none⟩,
  ⟨some 4, .assign (.tmp 14), false, none⟩,
  ⟨some 5, .assign (.const (.int .i64 0)), false, none⟩]) <|
 .seq (.keep [4, 5]) <|
 .ret
theorem c55 : Tryd.f55.body.map (fun c => ((compile Tryd.prog kp55 [] kp55 c).map (·.1), fits Tryd.f55.ntmps c)) = some (some s55, true) := by kernel_rfl
theorem r55 : Tryd.f55.results.toList = [.tmp 4, .tmp 5] := by kernel_rfl
-- (*marionette/marionetteref15.Tree).Target
abbrev kp56 : List Nat := [4, 5]
def s56 : SC :=
 .seq (.ops [⟨some 4, .assign (.const (.string ⟨#[]⟩)), false, none⟩,
  ⟨some 5, .assign (.const (.int .i64 0)), false, none⟩]) <|
 .seq (.keep [0, 1]) <|
 .seq (.ops [⟨some 7, .move (.tmp 0), false, none⟩,
  ⟨some 8, .move (.tmp 1), false, none⟩,
  ⟨some 9, .call ⟨.value (.func 71), #[(.tmp 7), (.tmp 8)], #[48, 3]⟩, true, none⟩,
  ⟨some 6, .assign (.tmp 9), false, none⟩]) <|
 .seq (.keep [6]) <|
 .seq (.seq (.ops [⟨some 10, .move (.tmp 6), false, none⟩,
  ⟨some 11, .nilCheck (.tmp 10), false, none⟩,
  ⟨some 12, .fieldAddr 89 (.tmp 11) 0, false, none⟩,
  ⟨some 13, .load 3 (.tmp 12), false, none⟩,
  ⟨some 14, .binOp .eql 3 (.tmp 13) (.const (.int .i64 0)) 3, false, none⟩]) <|
 .seq (.keep [6, 14]) <|
 .cond (.tmp 14) (.seq (.ops [⟨some 4, .assign (.const (.string ⟨#[]⟩)), false, none⟩,
  ⟨some 5, .assign (.const (.int .i64 2)), false, none⟩]) <|
 .seq (.keep [4, 5]) <|
 .ret) <|
 .skip) <|
 .seq (.keep [6]) <|
 .seq (.seq (.ops [⟨some 15, .move (.tmp 6), false, none⟩,
  ⟨some 16, .nilCheck (.tmp 15), false, none⟩,
  ⟨some 17, .fieldAddr 89 (.tmp 16) 1, false, none⟩,
  ⟨some 18, .load 3 (.tmp 17), false, none⟩,
  ⟨some 19, .binOp .neq 3 (.tmp 18) (.const (.int .i64 3)) 3, false, none⟩]) <|
 .seq (.keep [6, 19]) <|
 .cond (.tmp 19) (.seq (.ops [⟨some 4, .assign (.const (.string ⟨#[]⟩)), false, none⟩,
  ⟨some 5, .assign (.const (.int .i64 22)), false, none⟩]) <|
 .seq (.keep [4, 5]) <|
 .ret) <|
 .skip) <|
 .seq (.keep [6]) <|
 .seq (.ops [⟨some 20, .move (.tmp 6), false, none⟩,
  ⟨some 21, .nilCheck (.tmp 20), false, none⟩,
  ⟨some 22, .fieldAddr 89 (.tmp 21) 3, false, none⟩,
  ⟨some 23, .load 23 (.tmp 22), false, none⟩,
  ⟨some 24, .convert 23 9 (.tmp 23), true, none⟩,
  ⟨some 4, .assign (.tmp 24), false, none⟩,
  ⟨some 5, .assign (.const (.int .i64 0)), false, none⟩]) <|
 .seq (.keep [4, 5]) <|
 .ret
theorem c56 : Tryd.f56.body.map (fun c => ((compile Tryd.prog kp56 [] kp56 c).map (·.1), fits Tryd.f56.ntmps c)) = some (some s56, true) := by kernel_rfl
theorem r56 : Tryd.f56.results.toList = [.tmp 4, .tmp 5] := by kernel_rfl
-- strings.IndexByte
abbrev kp58 : List Nat := [4]
def s58 : SC :=
 .seq (.ops [⟨some 4, .assign (.const (.int .i64 0)), false, none⟩]) <|
 .seq (.keep [0, 1]) <|
 .seq (.ops [⟨some 5, .move (.tmp 0), false, none⟩,
  ⟨some 6, .move (.tmp 1), false, none⟩,
  ⟨some 7, .call ⟨.value (.func 81), #[(.tmp 5), (.tmp 6)], #[9, 5]⟩, true, none⟩,
  ⟨some 4, .assign (.tmp 7), false, none⟩]) <|
 .seq (.keep [4]) <|
 .ret
theorem c58 : Tryd.f58.body.map (fun c => ((compile Tryd.prog kp58 [] kp58 c).map (·.1), fits Tryd.f58.ntmps c)) = some (some s58, true) := by kernel_rfl
theorem r58 : Tryd.f58.results.toList = [.tmp 4] := by kernel_rfl
-- (*marionette/node.Tree).forget
abbrev kp59 : List Nat := []
def s59 : SC :=
 .seq (.ops [⟨some 5, .move (.tmp 0), false, none⟩,
  ⟨some 6, .nilCheck (.tmp 5), false, none⟩,
  ⟨some 7, .fieldAddr 72 (.tmp 6) 0, false, none⟩,
  ⟨some 8, .load 70 (.tmp 7), false, none⟩,
  ⟨some 9, .move (.tmp 1), false, none⟩,
  ⟨some 10, .lookup 70 (.tmp 8) (.tmp 9) false, false, none⟩,
  ⟨some 4, .assign (.tmp 10), false, none⟩]) <|
 .seq (.keep [0, 1, 4]) <|
 .seq (.ops [⟨some 11, .move (.tmp 1), false, none⟩,
  ⟨some 12, .binOp .neq 3 (.tmp 11) (.const (.int .i64 1)) 3, false, none⟩,
  ⟨some 13, .move (.tmp 12), false, none⟩,
  ⟨some 14, .move (.tmp 4), false, some (13, true)⟩,
  ⟨some 15, .nilCheck (.tmp 14), false, some (13, true)⟩,
  ⟨some 16, .fieldAddr 69 (.tmp 15) 5, false, some (13, true)⟩,
  ⟨some 17, .load 3 (.tmp 16), false, some (13, true)⟩,
  ⟨some 18, .binOp .leq 3 (.tmp 17) (.const (.int .i64 0)) 3, false, some (13, true)⟩,
  ⟨some 19, .pick (.tmp 13) (.tmp 18) (.const (.bool false)), false, none⟩,
  ⟨some 20, .move (.tmp 19), false, none⟩,
  ⟨some 21, .move (.tmp 4), false, some (20, true)⟩,
  ⟨some 22, .nilCheck (.tmp 21), false, some (20, true)⟩,
  ⟨some 23, .fieldAddr 69 (.tmp 22) 6, false, some (20, true)⟩,
  ⟨some 24, .load 3 (.tmp 23), false, some (20, true)⟩,
  ⟨some 25, .binOp .leq 3 (.tmp 24) (.const (.int .i64 0)) 3, false, some (20, true)⟩,
  ⟨some 26, .pick (.tmp 20) (.tmp 25) (.const (.bool false)), false, none⟩]) <|
 .seq (.keep [0, 1, 26]) <|
 .cond (.tmp 26) (.ops [⟨some 27, .move (.tmp 0), false, none⟩,
  ⟨some 28, .nilCheck (.tmp 27), false, none⟩,
  ⟨some 29, .fieldAddr 72 (.tmp 28) 0, false, none⟩,
  ⟨some 30, .load 70 (.tmp 29), false, none⟩,
  ⟨some 31, .move (.tmp 1), false, none⟩,
  ⟨none, .call ⟨.builtin .delete, #[(.tmp 30), (.tmp 31)], #[70, 3]⟩, true, none⟩]) <|
 .skip
theorem c59 : Tryd.f59.body.map (fun c => ((compile Tryd.prog kp59 [] kp59 c).map (·.1), fits Tryd.f59.ntmps c)) = some (some s59, true) := by kernel_rfl
theorem r59 : Tryd.f59.results.toList = [] := by kernel_rfl
-- slices.IndexFunc[[]marionette/api.Entry,marionette/api.Entry]
abbrev kp63 : List Nat := [4]
def s63 : SC :=
 .seq (.ops [⟨some 4, .assign (.const (.int .i64 0)), false, none⟩]) <|
 .seq (.keep [0, 1]) <|
 .seq (.seq (.ops [⟨some 6, .move (.tmp 0), false, none⟩,
  ⟨some 7, .call ⟨.builtin .len, #[(.tmp 6)], #[55]⟩, false, none⟩,
  ⟨some 8, .move (.const (.int .i64 0)), false, none⟩]) <|
 .seq (.keep [0, 1, 7, 8]) <|
 .block 0 <| .loop <| .seq (.seq (.ops [⟨some 9, .binOp .lss 3 (.tmp 8) (.tmp 7) 3, false, none⟩]) <|
 .seq (.keep [0, 1, 7, 8, 9]) <|
 .seq (.cond (.tmp 9) (.skip) <|
 .exit 0) <|
 .seq (.keep [0, 1, 7, 8]) <|
 .seq (.block 1 <| .seq (.ops [⟨some 10, .move (.tmp 8), false, none⟩,
  ⟨some 5, .assign (.tmp 10), false, none⟩]) <|
 .seq (.keep [0, 1, 5, 7, 8]) <|
 .seq (.ops [⟨some 11, .move (.tmp 1), false, none⟩,
  ⟨some 12, .move (.tmp 0), false, none⟩,
  ⟨some 13, .move (.tmp 5), false, none⟩,
  ⟨some 14, .indexAddr 55 (.tmp 12) (.tmp 13), false, none⟩,
  ⟨some 15, .load 59 (.tmp 14), false, none⟩,
  ⟨some 16, .call ⟨.value (.tmp 11), #[(.tmp 15)], #[59]⟩, true, none⟩]) <|
 .seq (.keep [0, 1, 5, 7, 8, 16]) <|
 .cond (.tmp 16) (.seq (.ops [⟨some 17, .move (.tmp 5), false, none⟩,
  ⟨some 4, .assign (.tmp 17), false, none⟩]) <|
 .seq (.keep [4]) <|
 .ret) <|
 .skip) <|
 .seq (.keep [0, 1, 7, 8]) <|
 .ops [⟨some 18, .binOp .add 3 (.tmp 8) (.const (.int .i64 1)) 3, false, none⟩,
  ⟨some 8, .move (.tmp 18), false, none⟩]) <|
 .keep [0, 1, 7, 8]) <|
 .seq (.keep []) <|
 .seq (.ops [⟨some 4, .assign (.const (.int .i64 (-1))), false, none⟩]) <|
 .seq (.keep [4]) <|
 .ret
theorem c63 : Tryd.f63.body.map (fun c => ((compile Tryd.prog kp63 [] kp63 c).map (·.1), fits Tryd.f63.ntmps c)) = some (some s63, true) := by kernel_rfl
theorem r63 : Tryd.f63.results.toList = [.tmp 4] := by kernel_rfl
-- (*marionette/node.file).at$1
abbrev kp64 : List Nat := [3]
def s64 : SC :=
 .seq (.ops [⟨some 2, .box 59 (.tmp 0), true, none⟩,
  ⟨some 3, .assign (.const (.bool false)), false, none⟩]) <|
 .seq (.keep [1, 2]) <|
 .seq (.ops [⟨some 4, .fieldAddr 59 (.tmp 2) 0, false, none⟩,
  ⟨some 5, .load 9 (.tmp 4), false, none⟩,
  ⟨some 6, .load 9 (.tmp 1), false, none⟩,
  ⟨some 7, .binOp .eql 9 (.tmp 5) (.tmp 6) 9, false, none⟩,
  ⟨some 3, .assign (.tmp 7), false, none⟩]) <|
 .seq (.keep [3]) <|
 .ret
theorem c64 : Tryd.f64.body.map (fun c => ((compile Tryd.prog kp64 [] kp64 c).map (·.1), fits Tryd.f64.ntmps c)) = some (some s64, true) := by kernel_rfl
theorem r64 : Tryd.f64.results.toList = [.tmp 3] := by kernel_rfl
-- slices.Delete[[]marionette/api.Entry,marionette/api.Entry]
abbrev kp65 : List Nat := [6]
def s65 : SC :=
 .seq (.ops [⟨some 6, .assign (.const (.slice none 0 0)), false, none⟩]) <|
 .seq (.keep [0, 1, 2]) <|
 .seq (.ops [⟨some 8, .move (.tmp 0), false, none⟩,
  ⟨some 9, .move (.tmp 1), false, none⟩,
  ⟨some 10, .move (.tmp 2), false, none⟩,
  ⟨some 11, .move (.tmp 0), false, none⟩,
  ⟨some 12, .call ⟨.builtin .len, #[(.tmp 11)], #[55]⟩, false, none⟩,
  ⟨some 13, .slice 55 (.tmp 8) (some (.tmp 9)) (some (.tmp 10)) (some (.tmp 12)), false, none⟩]) <|
 .seq (.keep [0, 1, 2]) <|
 .seq (.seq (.ops [⟨some 14, .move (.tmp 1), false, none⟩,
  ⟨some 15, .move (.tmp 2), false, none⟩,
  ⟨some 16, .binOp .eql 3 (.tmp 14) (.tmp 15) 3, false, none⟩]) <|
 .seq (.keep [0, 1, 2, 16]) <|
 .cond (.tmp 16) (.seq (.ops [⟨some 17, .move (.tmp 0), false, none⟩,
  ⟨some 6, .assign (.tmp 17), false, none⟩]) <|
 .seq (.keep [6]) <|
 .ret) <|
 .skip) <|
 .seq (.keep [0, 1, 2]) <|
 .seq (.ops [⟨some 18, .move (.tmp 0), false, none⟩,
  ⟨some 19, .call ⟨.builtin .len, #[(.tmp 18)], #[55]⟩, false, none⟩,
  ⟨some 7, .assign (.tmp 19), false, none⟩]) <|
 .seq (.keep [0, 1, 2, 7]) <|
 .seq (.seq (.ops [⟨some 20, .move (.tmp 0), false, none⟩]) <|
 .seq (.ops [⟨some 21, .move (.tmp 1), false, none⟩]) <|
 .seq (.ops [⟨some 22, .slice 55 (.tmp 20) none (some (.tmp 21)) none, false, none⟩]) <|
 .seq (.ops [⟨some 23, .move (.tmp 0), false, none⟩]) <|
 .seq (.ops [⟨some 24, .move (.tmp 2), false, none⟩]) <|
 .seq (.ops [⟨some 25, .slice 55 (.tmp 23) (some (.tmp 24)) none none, false, none⟩]) <|
 .seq (.ops [⟨some 26, .call ⟨.builtin .append, #[(.tmp 22), (.tmp 25)], #[55, 55]⟩, true, none⟩]) <|
 .seq (.ops [⟨some 0, .assign (.tmp 26), false, none⟩]) <|
 .skip) <|
 .seq (.keep [0, 7]) <|
 .seq (.ops [⟨some 27, .move (.tmp 0), false, none⟩,
  ⟨some 28, .move (.tmp 0), false, none⟩,
  ⟨some 29, .call ⟨.builtin .len, #[(.tmp 28)], #[55]⟩, false, none⟩,
  ⟨some 30, .move (.tmp 7), false, none⟩,
  ⟨some 31, .slice 55 (.tmp 27) (some (.tmp 29)) (some (.tmp 30)) none, false, none⟩,
  ⟨none, .call ⟨.builtin .clear, #[(.tmp 31)], #[55]⟩, true, none⟩]) <|
 .seq (.keep [0]) <|
 .seq (.ops [⟨some 32, .move (.tmp 0), false, none⟩,
  ⟨some 6, .assign (.tmp 32), false, none⟩]) <|
 .seq (.keep [6]) <|
 .ret
theorem c65 : Tryd.f65.body.map (fun c => ((compile Tryd.prog kp65 [] kp65 c).map (·.1), fits Tryd.f65.ntmps c)) = some (some s65, true) := by kernel_rfl
theorem r65 : Tryd.f65.results.toList = [.tmp 6] := by kernel_rfl
-- (*marionette/marionetteref15.Tree).isDir
abbrev kp66 : List Nat := [4]
def s66 : SC :=
 .seq (.ops [⟨some 4, .assign (.const (.int .i64 0)), false, none⟩]) <|
 .seq (.keep [0, 1]) <|
 .seq (.ops [⟨some 6, .move (.tmp 0), false, none⟩,
  ⟨some 7, .move (.tmp 1), false, none⟩,
  ⟨some 8, .call ⟨.value (.func 71), #[(.tmp 6), (.tmp 7)], #[48, 3]⟩, true, none⟩,
  ⟨some 5, .assign (.tmp 8), false, none⟩]) <|
 .seq (.keep [5]) <|
 .seq (.seq (.ops [⟨some 9, .move (.tmp 5), false, none⟩,
  ⟨some 10, .nilCheck (.tmp 9), false, none⟩,
  ⟨some 11, .fieldAddr 89 (.tmp 10) 0, false, none⟩,
  ⟨some 12, .load 3 (.tmp 11), false, none⟩,
  ⟨some 13, .binOp .eql 3 (.tmp 12) (.const (.int .i64 0)) 3, false, none⟩]) <|
 .seq (.keep [5, 13]) <|
 .cond (.tmp 13) (.seq (.ops [⟨some 4, .assign (.const (.int .i64 2)), false, none⟩]) <|
 .seq (.keep [4]) <|
 .ret) <|
 .skip) <|
 .seq (.keep [5]) <|
 .seq (.seq (.ops [⟨some 14, .move (.tmp 5), false, none⟩,
  ⟨some 15, .nilCheck (.tmp 14), false, none⟩,
  ⟨some 16, .fieldAddr 89 (.tmp 15) 1, false, none⟩,
  ⟨some 17, .load 3 (.tmp 16), false, none⟩,
  ⟨some 18, .binOp .neq 3 (.tmp 17) (.const (.int .i64 2)) 3, false, none⟩]) <|
 .seq (.keep [18]) <|
 .cond (.tmp 18) (.seq (.ops [⟨some 4, .assign (.const (.int .i64 20)), false, none⟩]) <|
 .seq (.keep [4]) <|
 .ret) <|
 .skip) <|
 .seq (.keep []) <|
 .seq (.ops [⟨some 4, .assign (.const (.int .i64 0)), false, none⟩]) <|
 .seq (.keep [4]) <|
 .ret
theorem c66 : Tryd.f66.body.map (fun c => ((compile Tryd.prog kp66 [] kp66 c).map (·.1), fits Tryd.f66.ntmps c)) = some (some s66, true) := by kernel_rfl
theorem r66 : Tryd.f66.results.toList = [.tmp 4] := by kernel_rfl
-- marionette/marionetteref15.may
abbrev kp67 : List Nat := [6]
def s67 : SC :=
 .seq (.ops [⟨some 6, .assign (.const (.bool false)), false, none⟩]) <|
 .seq (.keep [0, 1, 2]) <|
 .seq (.seq (.ops [⟨some 8, .move (.tmp 1), false, none⟩,
  ⟨some 9, .binOp .lss 3 (.tmp 8) (.const (.int .i64 0)) 3, false, none⟩,
  ⟨some 10, .move (.tmp 9), false, none⟩,
  ⟨some 11, .move (.tmp 1), false, some (10, false)⟩,
  ⟨some 12, .binOp .gtr 3 (.tmp 11) (.const (.int .i64 511)) 3, false, some (10, false)⟩,
  ⟨some 13, .pick (.tmp 10) (.const (.bool true)) (.tmp 12), false, none⟩,
  ⟨some 14, .move (.tmp 13), false, none⟩,
  ⟨some 15, .move (.tmp 2), false, some (14, false)⟩,
  ⟨some 16, .call ⟨.builtin .len, #[(.tmp 15)], #[23]⟩, false, some (14, false)⟩,
  ⟨some 17, .binOp .gtr 3 (.tmp 16) (.const (.int .i64 1048576)) 3, false, some (14, false)⟩,
  ⟨some 18, .pick (.tmp 14) (.const (.bool true)) (.tmp 17), false, none⟩]) <|
 .seq (.keep [0, 2, 18]) <|
 .cond (.tmp 18) (.seq (.ops [⟨some 6, .assign (.const (.bool false)), false, none⟩]) <|
 .seq (.keep [6]) <|
 .ret) <|
 .skip) <|
 .seq (.keep [0, 2]) <|
 .seq (.seq (.ops [⟨some 19, .move (.tmp 0), false, none⟩,
  ⟨some 20, .binOp .eql 3 (.tmp 19) (.const (.int .i64 3)) 3, false, none⟩]) <|
 .seq (.keep [0, 2, 20]) <|
 .cond (.tmp 20) (.seq (.seq (.ops [⟨some 7, .assign (.const (.int .i64 0)), false, none⟩]) <|
 .seq (.keep [2, 7]) <|
 .block 0 <| .loop <| .seq (.seq (.seq (.ops [⟨some 21, .move (.tmp 7), false, none⟩,
  ⟨some 22, .move (.tmp 2), false, none⟩,
  ⟨some 23, .call ⟨.builtin .len, #[(.tmp 22)], #[23]⟩, false, none⟩,
  ⟨some 24, .binOp .lss 3 (.tmp 21) (.tmp 23) 3, false, none⟩]) <|
 .seq (.keep [2, 7, 24]) <|
 .cond (.tmp 24) (.skip) <|
 .exit 0) <|
 .seq (.keep [2, 7]) <|
 .seq (.block 1 <| .seq (.ops [⟨some 27, .move (.tmp 2), false, none⟩,
  ⟨some 28, .move (.tmp 7), false, none⟩,
  ⟨some 29, .indexAddr 23 (.tmp 27) (.tmp 28), false, none⟩,
  ⟨some 30, .load 5 (.tmp 29), false, none⟩,
  ⟨some 31, .binOp .eql 5 (.tmp 30) (.const (.int .u8 0)) 5, false, none⟩]) <|
 .seq (.keep [2, 7, 31]) <|
 .cond (.tmp 31) (.seq (.ops [⟨some 6, .assign (.const (.bool false)), false, none⟩]) <|
 .seq (.keep [6]) <|
 .ret) <|
 .skip) <|
 .seq (.keep [2, 7]) <|
 .ops [⟨some 25, .move (.tmp 7), false, none⟩,
  ⟨some 26, .binOp .add 3 (.tmp 25) (.const (.int .i64 1)) 3, false, none⟩,
  ⟨some 7, .assign (.tmp 26), false, none⟩]) <|
 .keep [2, 7]) <|
 .seq (.keep [2]) <|
 .seq (.ops [⟨some 32, .move (.tmp 2), false, none⟩,
  ⟨some 33, .call ⟨.builtin .len, #[(.tmp 32)], #[23]⟩, false, none⟩,
  ⟨some 34, .binOp .geq 3 (.tmp 33) (.const (.int .i64 1)) 3, false, none⟩,
  ⟨some 35, .move (.tmp 34), false, none⟩,
  ⟨some 36, .move (.tmp 2), false, some (35, true)⟩,
  ⟨some 37, .call ⟨.builtin .len, #[(.tmp 36)], #[23]⟩, false, some (35, true)⟩,
  ⟨some 38, .binOp .leq 3 (.tmp 37) (.const (.int .i64 4096)) 3, false, some (35, true)⟩,
  ⟨some 39, .pick (.tmp 35) (.tmp 38) (.const (.bool false)), false, none⟩,
  ⟨some 6, .assign (.tmp 39), false, none⟩]) <|
 .seq (.keep [6]) <|
 .ret) <|
 .skip) <|
 .seq (.keep [0, 2]) <|
 .seq (.seq (.ops [⟨some 40, .move (.tmp 0), false, none⟩,
  ⟨some 41, .binOp .eql 3 (.tmp 40) (.const (.int .i64 1)) 3, false, none⟩]) <|
 .seq (.keep [0, 2, 41]) <|
 .cond (.tmp 41) (.seq (.ops [⟨some 6, .assign (.const (.bool true)), false, none⟩]) <|
 .seq (.keep [6]) <|
 .ret) <|
 .skip) <|
 .seq (.keep [0, 2]) <|
 .seq (.ops [⟨some 42, .move (.tmp 0), false, none⟩,
  ⟨some 43, .binOp .eql 3 (.tmp 42) (.const (.int .i64 2)) 3, false, none⟩,
  ⟨some 44, .move (.tmp 43), false, none⟩,
  ⟨some 45, .move (.tmp 0), false, some (44, false)⟩,
  ⟨some 46, .binOp .eql 3 (.tmp 45) (.const (.int .i64 4)) 3, false, some (44, false)⟩,
  ⟨some 47, .pick (.tmp 44) (.const (.bool true)) (.tmp 46), false, none⟩,
  ⟨some 48, .move (.tmp 47), false, none⟩,
  ⟨some 49, .move (.tmp 0), false, some (48, false)⟩,
  ⟨some 50, .binOp .eql 3 (.tmp 49) (.const (.int .i64 5)) 3, false, some (48, false)⟩,
  ⟨some 51, .pick (.tmp 48) (.const (.bool true)) (.tmp 50), false, none⟩,
  ⟨some 52, .move (.tmp 51), false, none⟩,
  ⟨some 53, .move (.tmp 2), false, some (52, true)⟩,
  ⟨some 54, .call ⟨.builtin .len, #[(.tmp 53)], #[23]⟩, false, some (52, true)⟩,
  ⟨some 55, .binOp .eql 3 (.tmp 54) (.const (.int .i64 0)) 3, false, some (52, true)⟩,
  ⟨some 56, .pick (.tmp 52) (.tmp 55) (.const (.bool false)), false, none⟩,
  ⟨some 6, .assign (.tmp 56), false, none⟩]) <|
 .seq (.keep [6]) <|
 .ret
theorem c67 : Tryd.f67.body.map (fun c => ((compile Tryd.prog kp67 [] kp67 c).map (·.1), fits Tryd.f67.ntmps c)) = some (some s67, true) := by kernel_rfl
theorem r67 : Tryd.f67.results.toList = [.tmp 6] := by kernel_rfl
-- (*marionette/marionetteref15.Tree).place
abbrev kp68 : List Nat := [6]
def s68 : SC :=
 .seq (.ops [⟨some 6, .assign (.const (.int .i64 0)), false, none⟩]) <|
 .seq (.keep [0, 1, 2]) <|
 .seq (.ops [⟨some 8, .move (.tmp 0), false, none⟩,
  ⟨some 9, .move (.tmp 1), false, none⟩,
  ⟨some 10, .call ⟨.value (.func 66), #[(.tmp 8), (.tmp 9)], #[48, 3]⟩, true, none⟩,
  ⟨some 7, .assign (.tmp 10), false, none⟩]) <|
 .seq (.keep [0, 1, 2, 7]) <|
 .seq (.seq (.ops [⟨some 11, .move (.tmp 7), false, none⟩,
  ⟨some 12, .binOp .neq 26 (.tmp 11) (.const (.int .i64 0)) 26, false, none⟩]) <|
 .seq (.keep [0, 1, 2, 7, 12]) <|
 .cond (.tmp 12) (.seq (.ops [⟨some 13, .move (.tmp 7), false, none⟩,
  ⟨some 6, .assign (.tmp 13), false, none⟩]) <|
 .seq (.keep [6]) <|
 .ret) <|
 .skip) <|
 .seq (.keep [0, 1, 2]) <|
 .seq (.seq (.ops [⟨some 14, .move (.tmp 2), false, none⟩,
  ⟨some 15, .binOp .eql 9 (.tmp 14) (.const (.string ⟨#[46]⟩)) 9, false, none⟩,
  ⟨some 16, .move (.tmp 15), false, none⟩,
  ⟨some 17, .move (.tmp 2), false, some (16, false)⟩,
  ⟨some 18, .binOp .eql 9 (.tmp 17) (.const (.string ⟨#[46, 46]⟩)) 9, false, some (16, false)⟩,
  ⟨some 19, .pick (.tmp 16) (.const (.bool true)) (.tmp 18), false, none⟩]) <|
 .seq (.keep [0, 1, 2, 19]) <|
 .cond (.tmp 19) (.seq (.ops [⟨some 6, .assign (.const (.int .i64 17)), false, none⟩]) <|
 .seq (.keep [6]) <|
 .ret) <|
 .skip) <|
 .seq (.keep [0, 1, 2]) <|
 .seq (.seq (.ops [⟨some 20, .move (.tmp 2), false, none⟩,
  ⟨some 21, .call ⟨.value (.func 76), #[(.tmp 20)], #[9]⟩, true, none⟩,
  ⟨some 22, .unOp .not 4 (.tmp 21), false, none⟩]) <|
 .seq (.keep [0, 1, 2, 22]) <|
 .cond (.tmp 22) (.seq (.ops [⟨some 6, .assign (.const (.int .i64 22)), false, none⟩]) <|
 .seq (.keep [6]) <|
 .ret) <|
 .skip) <|
 .seq (.keep [0, 1, 2]) <|
 .seq (.seq (.ops [⟨some 23, .move (.tmp 0), false, none⟩,
  ⟨some 24, .move (.tmp 1), false, none⟩,
  ⟨some 25, .call ⟨.value (.func 71), #[(.tmp 23), (.tmp 24)], #[48, 3]⟩, true, none⟩,
  ⟨some 26, .move (.tmp 2), false, none⟩,
  ⟨some 27, .call ⟨.value (.func 72), #[(.tmp 25), (.tmp 26)], #[87, 9]⟩, true, none⟩,
  ⟨some 28, .binOp .geq 3 (.tmp 27) (.const (.int .i64 0)) 3, false, none⟩]) <|
 .seq (.keep [0, 1, 28]) <|
 .cond (.tmp 28) (.seq (.ops [⟨some 6, .assign (.const (.int .i64 17)), false, none⟩]) <|
 .seq (.keep [6]) <|
 .ret) <|
 .skip) <|
 .seq (.keep [0, 1]) <|
 .seq (.seq (.ops [⟨some 29, .move (.tmp 0), false, none⟩,
  ⟨some 30, .move (.tmp 1), false, none⟩,
  ⟨some 31, .call ⟨.value (.func 71), #[(.tmp 29), (.tmp 30)], #[48, 3]⟩, true, none⟩,
  ⟨some 32, .nilCheck (.tmp 31), false, none⟩,
  ⟨some 33, .fieldAddr 89 (.tmp 32) 5, false, none⟩,
  ⟨some 34, .load 3 (.tmp 33), false, none⟩,
  ⟨some 35, .binOp .eql 3 (.tmp 34) (.const (.int .i64 0)) 3, false, none⟩]) <|
 .seq (.keep [35]) <|
 .cond (.tmp 35) (.seq (.ops [⟨some 6, .assign (.const (.int .i64 2)), false, none⟩]) <|
 .seq (.keep [6]) <|
 .ret) <|
 .skip) <|
 .seq (.keep []) <|
 .seq (.ops [⟨some 6, .assign (.const (.int .i64 0)), false, none⟩]) <|
 .seq (.keep [6]) <|
 .ret
theorem c68 : Tryd.f68.body.map (fun c => ((compile Tryd.prog kp68 [] kp68 c).map (·.1), fits Tryd.f68.ntmps c)) = some (some s68, true) := by kernel_rfl
theorem r68 : Tryd.f68.results.toList = [.tmp 6] := by kernel_rfl
-- (*marionette/marionetteref15.Tree).Len
abbrev kp69 : List Nat := [2]
def s69 : SC :=
 .seq (.ops [⟨some 2, .assign (.const (.int .i64 0)), false, none⟩]) <|
 .seq (.keep [0]) <|
 .seq (.ops [⟨some 3, .assign (.const (.int .i64 0)), false, none⟩]) <|
 .seq (.keep [0, 3]) <|
 .seq (.seq (.ops [⟨some 4, .assign (.const (.int .i64 0)), false, none⟩]) <|
 .seq (.keep [0, 3, 4]) <|
 .block 0 <| .loop <| .seq (.seq (.seq (.ops [⟨some 5, .move (.tmp 4), false, none⟩,
  ⟨some 6, .move (.tmp 0), false, none⟩,
  ⟨some 7, .nilCheck (.tmp 6), false, none⟩,
  ⟨some 8, .fieldAddr 92 (.tmp 7) 0, false, none⟩,
  ⟨some 9, .load 90 (.tmp 8), false, none⟩,
  ⟨some 10, .call ⟨.builtin .len, #[(.tmp 9)], #[90]⟩, false, none⟩,
  ⟨some 11, .binOp .lss 3 (.tmp 5) (.tmp 10) 3, false, none⟩]) <|
 .seq (.keep [0, 3, 4, 11]) <|
 .cond (.tmp 11) (.skip) <|
 .exit 0) <|
 .seq (.keep [0, 3, 4]) <|
 .seq (.block 1 <| .seq (.ops [⟨some 14, .move (.tmp 0), false, none⟩,
  ⟨some 15, .nilCheck (.tmp 14), false, none⟩,
  ⟨some 16, .fieldAddr 92 (.tmp 15) 0, false, none⟩,
  ⟨some 17, .load 90 (.tmp 16), false, none⟩,
  ⟨some 18, .move (.tmp 4), false, none⟩,
  ⟨some 19, .indexAddr 90 (.tmp 17) (.tmp 18), false, none⟩,
  ⟨some 20, .load 87 (.tmp 19), false, none⟩,
  ⟨some 21, .nilCheck (.tmp 20), false, none⟩,
  ⟨some 22, .fieldAddr 89 (.tmp 21) 0, false, none⟩,
  ⟨some 23, .load 3 (.tmp 22), false, none⟩,
  ⟨some 24, .binOp .gtr 3 (.tmp 23) (.const (.int .i64 0)) 3, false, none⟩]) <|
 .seq (.keep [0, 3, 4, 24]) <|
 .cond (.tmp 24) (.ops [⟨some 25, .move (.tmp 3), false, none⟩,
  ⟨some 26, .binOp .add 3 (.tmp 25) (.const (.int .i64 1)) 3, false, none⟩,
  ⟨some 3, .assign (.tmp 26), false, none⟩]) <|
 .skip) <|
 .seq (.keep [0, 3, 4]) <|
 .ops [⟨some 12, .move (.tmp 4), false, none⟩,
  ⟨some 13, .binOp .add 3 (.tmp 12) (.const (.int .i64 1)) 3, false, none⟩,
  ⟨some 4, .assign (.tmp 13), false, none⟩]) <|
 .keep [0, 3, 4]) <|
 .seq (.keep [3]) <|
 .seq (.ops [⟨some 27, .move (.tmp 3), false, none⟩,
  ⟨some 2, .assign (.tmp 27), false, none⟩]) <|
 .seq (.keep [2]) <|
 .ret
theorem c69 : Tryd.f69.body.map (fun c => ((compile Tryd.prog kp69 [] kp69 c).map (·.1), fits Tryd.f69.ntmps c)) = some (some s69, true) := by kernel_rfl
theorem r69 : Tryd.f69.results.toList = [.tmp 2] := by kernel_rfl
-- (*marionette/marionetteref15.Tree).enter
abbrev kp70 : List Nat := []
def s70 : SC :=
 .seq (.ops [⟨some 9, .move (.tmp 0), false, none⟩,
  ⟨some 10, .move (.tmp 1), false, none⟩,
  ⟨some 11, .call ⟨.value (.func 71), #[(.tmp 9), (.tmp 10)], #[48, 3]⟩, true, none⟩,
  ⟨some 8, .assign (.tmp 11), false, none⟩]) <|
 .seq (.keep [0, 2, 3, 8]) <|
 .seq (.ops [⟨some 12, .move (.tmp 8), false, none⟩]) <|
 .seq (.ops [⟨some 13, .move (.tmp 8), false, none⟩]) <|
 .seq (.ops [⟨some 14, .nilCheck (.tmp 13), false, none⟩]) <|
 .seq (.ops [⟨some 15, .fieldAddr 89 (.tmp 14) 4, false, none⟩]) <|
 .seq (.ops [⟨some 17, .move (.tmp 2), false, none⟩]) <|
 .seq (.ops [⟨some 18, .move (.tmp 3), false, none⟩]) <|
 .seq (.ops [⟨some 19, .move (.tmp 0), false, none⟩]) <|
 .seq (.ops [⟨some 20, .move (.tmp 3), false, none⟩]) <|
 .amb (.seq (.ops [⟨some 16, .load 55 (.tmp 15), false, none⟩]) <|
 .seq (.ops [⟨some 21, .call ⟨.value (.func 71), #[(.tmp 19), (.tmp 20)], #[48, 3]⟩, true, none⟩]) <|
 .seq (.ops [⟨some 22, .nilCheck (.tmp 21), false, none⟩]) <|
 .seq (.ops [⟨some 23, .fieldAddr 89 (.tmp 22) 1, false, none⟩]) <|
 .seq (.ops [⟨some 24, .load 3 (.tmp 23), false, none⟩]) <|
 .seq (.ops [⟨some 25, .build 59 #[(0, (.tmp 17)), (1, (.tmp 18)), (2, (.tmp 24))], false, none⟩]) <|
 .seq (.ops [⟨some 26, .buildSlice 55 1 #[(0, (.tmp 25))], true, none⟩]) <|
 .seq (.ops [⟨some 27, .call ⟨.builtin .append, #[(.tmp 16), (.tmp 26)], #[55, 55]⟩, true, none⟩]) <|
 .seq (.ops [⟨some 28, .nilCheck (.tmp 12), false, none⟩]) <|
 .seq (.ops [⟨some 29, .fieldAddr 89 (.tmp 28) 4, false, none⟩]) <|
 .seq (.ops [⟨none, .store 55 (.tmp 29) (.tmp 27), true, none⟩]) <|
 .skip) (.seq (.ops [⟨some 21, .call ⟨.value (.func 71), #[(.tmp 19), (.tmp 20)], #[48, 3]⟩, true, none⟩]) <|
 .seq (.ops [⟨some 22, .nilCheck (.tmp 21), false, none⟩]) <|
 .seq (.ops [⟨some 23, .fieldAddr 89 (.tmp 22) 1, false, none⟩]) <|
 .seq (.ops [⟨some 24, .load 3 (.tmp 23), false, none⟩]) <|
 .seq (.ops [⟨some 25, .build 59 #[(0, (.tmp 17)), (1, (.tmp 18)), (2, (.tmp 24))], false, none⟩]) <|
 .amb (.seq (.ops [⟨some 16, .load 55 (.tmp 15), false, none⟩]) <|
 .seq (.ops [⟨some 26, .buildSlice 55 1 #[(0, (.tmp 25))], true, none⟩]) <|
 .seq (.ops [⟨some 27, .call ⟨.builtin .append, #[(.tmp 16), (.tmp 26)], #[55, 55]⟩, true, none⟩]) <|
 .seq (.ops [⟨some 28, .nilCheck (.tmp 12), false, none⟩]) <|
 .seq (.ops [⟨some 29, .fieldAddr 89 (.tmp 28) 4, false, none⟩]) <|
 .seq (.ops [⟨none, .store 55 (.tmp 29) (.tmp 27), true, none⟩]) <|
 .skip) (.seq (.ops [⟨some 26, .buildSlice 55 1 #[(0, (.tmp 25))], true, none⟩]) <|
 .seq (.ops [⟨some 16, .load 55 (.tmp 15), false, none⟩]) <|
 .seq (.ops [⟨some 27, .call ⟨.builtin .append, #[(.tmp 16), (.tmp 26)], #[55, 55]⟩, true, none⟩]) <|
 .seq (.ops [⟨some 28, .nilCheck (.tmp 12), false, none⟩]) <|
 .seq (.ops [⟨some 29, .fieldAddr 89 (.tmp 28) 4, false, none⟩]) <|
 .seq (.ops [⟨none, .store 55 (.tmp 29) (.tmp 27), true, none⟩]) <|
 .skip))
theorem c70 : Tryd.f70.body.map (fun c => ((compile Tryd.prog kp70 [] kp70 c).map (·.1), fits Tryd.f70.ntmps c)) = some (some s70, true) := by kernel_rfl
theorem r70 : Tryd.f70.results.toList = [] := by kernel_rfl
-- (*marionette/marionetteref15.Tree).Get
abbrev kp71 : List Nat := [4]
def s71 : SC :=
 .seq (.ops [⟨some 4, .assign (.const (.pointer none)), false, none⟩]) <|
 .seq (.keep [0, 1]) <|
 .seq (.seq (.ops [⟨some 5, .move (.tmp 1), false, none⟩,
  ⟨some 6, .binOp .lss 3 (.tmp 5) (.const (.int .i64 1)) 3, false, none⟩,
  ⟨some 7, .move (.tmp 6), false, none⟩,
  ⟨some 8, .move (.tmp 1), false, some (7, false)⟩,
  ⟨some 9, .move (.tmp 0), false, some (7, false)⟩,
  ⟨some 10, .nilCheck (.tmp 9), false, some (7, false)⟩,
  ⟨some 11, .fieldAddr 92 (.tmp 10) 0, false, some (7, false)⟩,
  ⟨some 12, .load 90 (.tmp 11), false, some (7, false)⟩,
  ⟨some 13, .call ⟨.builtin .len, #[(.tmp 12)], #[90]⟩, false, some (7, false)⟩,
  ⟨some 14, .binOp .gtr 3 (.tmp 8) (.tmp 13) 3, false, some (7, false)⟩,
  ⟨some 15, .pick (.tmp 7) (.const (.bool true)) (.tmp 14), false, none⟩]) <|
 .seq (.keep [0, 1, 15]) <|
 .cond (.tmp 15) (.seq (.ops [⟨some 16, .build 89 #[], false, none⟩,
  ⟨some 17, .box 89 (.tmp 16), true, none⟩,
  ⟨some 4, .assign (.tmp 17), false, none⟩]) <|
 .seq (.keep [4]) <|
 .ret) <|
 .skip) <|
 .seq (.keep [0, 1]) <|
 .seq (.ops [⟨some 18, .move (.tmp 0), false, none⟩,
  ⟨some 19, .nilCheck (.tmp 18), false, none⟩,
  ⟨some 20, .fieldAddr 92 (.tmp 19) 0, false, none⟩,
  ⟨some 21, .load 90 (.tmp 20), false, none⟩,
  ⟨some 22, .move (.tmp 1), false, none⟩,
  ⟨some 23, .binOp .sub 3 (.tmp 22) (.const (.int .i64 1)) 3, false, none⟩,
  ⟨some 24, .indexAddr 90 (.tmp 21) (.tmp 23), false, none⟩,
  ⟨some 25, .load 87 (.tmp 24), false, none⟩,
  ⟨some 4, .assign (.tmp 25), false, none⟩]) <|
 .seq (.keep [4]) <|
 .ret
theorem c71 : Tryd.f71.body.map (fun c => ((compile Tryd.prog kp71 [] kp71 c).map (·.1), fits Tryd.f71.ntmps c)) = some (some s71, true) := by kernel_rfl
theorem r71 : Tryd.f71.results.toList = [.tmp 4] := by kernel_rfl
-- (*marionette/marionetteref15.Node).at
abbrev kp72 : List Nat := [4]
def s72 : SC :=
 .seq (.ops [⟨some 4, .assign (.const (.int .i64 0)), false, none⟩]) <|
 .seq (.keep [0, 1]) <|
 .seq (.seq (.ops [⟨some 5, .assign (.const (.int .i64 0)), false, none⟩]) <|
 .seq (.keep [0, 1, 5]) <|
 .block 0 <| .loop <| .seq (.seq (.seq (.ops [⟨some 6, .move (.tmp 5), false, none⟩,
  ⟨some 7, .move (.tmp 0), false, none⟩,
  ⟨some 8, .nilCheck (.tmp 7), false, none⟩,
  ⟨some 9, .fieldAddr 89 (.tmp 8) 4, false, none⟩,
  ⟨some 10, .load 55 (.tmp 9), false, none⟩,
  ⟨some 11, .call ⟨.builtin .len, #[(.tmp 10)], #[55]⟩, false, none⟩,
  ⟨some 12, .binOp .lss 3 (.tmp 6) (.tmp 11) 3, false, none⟩]) <|
 .seq (.keep [0, 1, 5, 12]) <|
 .cond (.tmp 12) (.skip) <|
 .exit 0) <|
 .seq (.keep [0, 1, 5]) <|
 .seq (.block 1 <| .seq (.ops [⟨some 15, .move (.tmp 0), false, none⟩,
  ⟨some 16, .nilCheck (.tmp 15), false, none⟩,
  ⟨some 17, .fieldAddr 89 (.tmp 16) 4, false, none⟩,
  ⟨some 18, .load 55 (.tmp 17), false, none⟩,
  ⟨some 19, .move (.tmp 5), false, none⟩,
  ⟨some 20, .indexAddr 55 (.tmp 18) (.tmp 19), false, none⟩,
  ⟨some 21, .fieldAddr 59 (.tmp 20) 0, false, none⟩,
  ⟨some 22, .load 9 (.tmp 21), false, none⟩,
  ⟨some 23, .move (.tmp 1), false, none⟩,
  ⟨some 24, .binOp .eql 9 (.tmp 22) (.tmp 23) 9, false, none⟩]) <|
 .seq (.keep [0, 1, 5, 24]) <|
 .cond (.tmp 24) (.seq (.ops [⟨some 25, .move (.tmp 5), false, none⟩,
  ⟨some 4, .assign (.tmp 25), false, none⟩]) <|
 .seq (.keep [4]) <|
 .ret) <|
 .skip) <|
 .seq (.keep [0, 1, 5]) <|
 .ops [⟨some 13, .move (.tmp 5), false, none⟩,
  ⟨some 14, .binOp .add 3 (.tmp 13) (.const (.int .i64 1)) 3, false, none⟩,
  ⟨some 5, .assign (.tmp 14), false, none⟩]) <|
 .keep [0, 1, 5]) <|
 .seq (.keep []) <|
 .seq (.ops [⟨some 4, .assign (.const (.int .i64 (-1))), false, none⟩]) <|
 .seq (.keep [4]) <|
 .ret
theorem c72 : Tryd.f72.body.map (fun c => ((compile Tryd.prog kp72 [] kp72 c).map (·.1), fits Tryd.f72.ntmps c)) = some (some s72, true) := by kernel_rfl
theorem r72 : Tryd.f72.results.toList = [.tmp 4] := by kernel_rfl
-- marionette/marionetteref15.Good
abbrev kp76 : List Nat := [2]
def s76 : SC :=
 .seq (.ops [⟨some 2, .assign (.const (.bool false)), false, none⟩]) <|
 .seq (.keep [0]) <|
 .seq (.seq (.ops [⟨some 3, .assign (.const (.int .i64 0)), false, none⟩]) <|
 .seq (.keep [0, 3]) <|
 .block 0 <| .loop <| .seq (.seq (.seq (.ops [⟨some 4, .move (.tmp 3), false, none⟩,
  ⟨some 5, .move (.tmp 0), false, none⟩,
  ⟨some 6, .call ⟨.builtin .len, #[(.tmp 5)], #[9]⟩, false, none⟩,
  ⟨some 7, .binOp .lss 3 (.tmp 4) (.tmp 6) 3, false, none⟩]) <|
 .seq (.keep [0, 3, 7]) <|
 .cond (.tmp 7) (.skip) <|
 .exit 0) <|
 .seq (.keep [0, 3]) <|
 .seq (.block 1 <| .seq (.ops [⟨some 10, .move (.tmp 0), false, none⟩,
  ⟨some 11, .move (.tmp 3), false, none⟩,
  ⟨some 12, .index 9 (.tmp 10) (.tmp 11), false, none⟩,
  ⟨some 13, .binOp .eql 5 (.tmp 12) (.const (.int .u8 0)) 5, false, none⟩,
  ⟨some 14, .move (.tmp 13), false, none⟩,
  ⟨some 15, .move (.tmp 0), false, some (14, false)⟩,
  ⟨some 16, .move (.tmp 3), false, some (14, false)⟩,
  ⟨some 17, .index 9 (.tmp 15) (.tmp 16), false, some (14, false)⟩,
  ⟨some 18, .binOp .eql 5 (.tmp 17) (.const (.int .u8 47)) 5, false, some (14, false)⟩,
  ⟨some 19, .pick (.tmp 14) (.const (.bool true)) (.tmp 18), false, none⟩]) <|
 .seq (.keep [0, 3, 19]) <|
 .cond (.tmp 19) (.seq (.ops [⟨some 2, .assign (.const (.bool false)), false, none⟩]) <|
 .seq (.keep [2]) <|
 .ret) <|
 .skip) <|
 .seq (.keep [0, 3]) <|
 .ops [⟨some 8, .move (.tmp 3), false, none⟩,
  ⟨some 9, .binOp .add 3 (.tmp 8) (.const (.int .i64 1)) 3, false, none⟩,
  ⟨some 3, .assign (.tmp 9), false, none⟩]) <|
 .keep [0, 3]) <|
 .seq (.keep [0]) <|
 .seq (.ops [⟨some 20, .move (.tmp 0), false, none⟩,
  ⟨some 21, .call ⟨.builtin .len, #[(.tmp 20)], #[9]⟩, false, none⟩,
  ⟨some 22, .binOp .geq 3 (.tmp 21) (.const (.int .i64 1)) 3, false, none⟩,
  ⟨some 23, .move (.tmp 22), false, none⟩,
  ⟨some 24, .move (.tmp 0), false, some (23, true)⟩,
  ⟨some 25, .call ⟨.builtin .len, #[(.tmp 24)], #[9]⟩, false, some (23, true)⟩,
  ⟨some 26, .binOp .leq 3 (.tmp 25) (.const (.int .i64 255)) 3, false, some (23, true)⟩,
  ⟨some 27, .pick (.tmp 23) (.tmp 26) (.const (.bool false)), false, none⟩,
  ⟨some 28, .move (.tmp 27), false, none⟩,
  ⟨some 29, .move (.tmp 0), false, some (28, true)⟩,
  ⟨some 30, .binOp .neq 9 (.tmp 29) (.const (.string ⟨#[46]⟩)) 9, false, some (28, true)⟩,
  ⟨some 31, .pick (.tmp 28) (.tmp 30) (.const (.bool false)), false, none⟩,
  ⟨some 32, .move (.tmp 31), false, none⟩,
  ⟨some 33, .move (.tmp 0), false, some (32, true)⟩,
  ⟨some 34, .binOp .neq 9 (.tmp 33) (.const (.string ⟨#[46, 46]⟩)) 9, false, some (32, true)⟩,
  ⟨some 35, .pick (.tmp 32) (.tmp 34) (.const (.bool false)), false, none⟩,
  ⟨some 2, .assign (.tmp 35), false, none⟩]) <|
 .seq (.keep [2]) <|
 .ret
theorem c76 : Tryd.f76.body.map (fun c => ((compile Tryd.prog kp76 [] kp76 c).map (·.1), fits Tryd.f76.ntmps c)) = some (some s76, true) := by kernel_rfl
theorem r76 : Tryd.f76.results.toList = [.tmp 2] := by kernel_rfl
-- (*marionette/marionetteref15.Tree).Parent
abbrev kp77 : List Nat := [4]
def s77 : SC :=
 .seq (.ops [⟨some 4, .assign (.const (.int .i64 0)), false, none⟩]) <|
 .seq (.keep [0, 1]) <|
 .seq (.seq (.ops [⟨some 5, .move (.tmp 0), false, none⟩,
  ⟨some 6, .move (.tmp 1), false, none⟩,
  ⟨some 7, .call ⟨.value (.func 66), #[(.tmp 5), (.tmp 6)], #[48, 3]⟩, true, none⟩,
  ⟨some 8, .binOp .neq 26 (.tmp 7) (.const (.int .i64 0)) 26, false, none⟩]) <|
 .seq (.keep [0, 1, 8]) <|
 .cond (.tmp 8) (.seq (.ops [⟨some 4, .assign (.const (.int .i64 0)), false, none⟩]) <|
 .seq (.keep [4]) <|
 .ret) <|
 .skip) <|
 .seq (.keep [0, 1]) <|
 .seq (.seq (.ops [⟨some 9, .move (.tmp 0), false, none⟩,
  ⟨some 10, .move (.tmp 1), false, none⟩,
  ⟨some 11, .call ⟨.value (.func 71), #[(.tmp 9), (.tmp 10)], #[48, 3]⟩, true, none⟩,
  ⟨some 12, .nilCheck (.tmp 11), false, none⟩,
  ⟨some 13, .fieldAddr 89 (.tmp 12) 5, false, none⟩,
  ⟨some 14, .load 3 (.tmp 13), false, none⟩,
  ⟨some 15, .binOp .eql 3 (.tmp 14) (.const (.int .i64 0)) 3, false, none⟩]) <|
 .seq (.keep [0, 1, 15]) <|
 .cond (.tmp 15) (.seq (.ops [⟨some 16, .move (.tmp 1), false, none⟩,
  ⟨some 4, .assign (.tmp 16), false, none⟩]) <|
 .seq (.keep [4]) <|
 .ret) <|
 .skip) <|
 .seq (.keep [0, 1]) <|
 .seq (.ops [⟨some 17, .move (.tmp 0), false, none⟩,
  ⟨some 18, .move (.tmp 1), false, none⟩,
  ⟨some 19, .call ⟨.value (.func 71), #[(.tmp 17), (.tmp 18)], #[48, 3]⟩, true, none⟩,
  ⟨some 20, .nilCheck (.tmp 19), false, none⟩,
  ⟨some 21, .fieldAddr 89 (.tmp 20) 5, false, none⟩,
  ⟨some 22, .load 3 (.tmp 21), false, none⟩,
  ⟨some 4, .assign (.tmp 22), false, none⟩]) <|
 .seq (.keep [4]) <|
 .ret
theorem c77 : Tryd.f77.body.map (fun c => ((compile Tryd.prog kp77 [] kp77 c).map (·.1), fits Tryd.f77.ntmps c)) = some (some s77, true) := by kernel_rfl
theorem r77 : Tryd.f77.results.toList = [.tmp 4] := by kernel_rfl
-- (*marionette/marionetteref15.Tree).bytes
abbrev kp79 : List Nat := [4]
def s79 : SC :=
 .seq (.ops [⟨some 4, .assign (.const (.int .i64 0)), false, none⟩]) <|
 .seq (.keep [0, 1]) <|
 .seq (.ops [⟨some 6, .move (.tmp 0), false, none⟩,
  ⟨some 7, .move (.tmp 1), false, none⟩,
  ⟨some 8, .call ⟨.value (.func 71), #[(.tmp 6), (.tmp 7)], #[48, 3]⟩, true, none⟩,
  ⟨some 5, .assign (.tmp 8), false, none⟩]) <|
 .seq (.keep [5]) <|
 .seq (.seq (.ops [⟨some 9, .move (.tmp 5), false, none⟩,
  ⟨some 10, .nilCheck (.tmp 9), false, none⟩,
  ⟨some 11, .fieldAddr 89 (.tmp 10) 0, false, none⟩,
  ⟨some 12, .load 3 (.tmp 11), false, none⟩,
  ⟨some 13, .binOp .eql 3 (.tmp 12) (.const (.int .i64 0)) 3, false, none⟩]) <|
 .seq (.keep [5, 13]) <|
 .cond (.tmp 13) (.seq (.ops [⟨some 4, .assign (.const (.int .i64 2)), false, none⟩]) <|
 .seq (.keep [4]) <|
 .ret) <|
 .skip) <|
 .seq (.keep [5]) <|
 .seq (.seq (.ops [⟨some 14, .move (.tmp 5), false, none⟩,
  ⟨some 15, .nilCheck (.tmp 14), false, none⟩,
  ⟨some 16, .fieldAddr 89 (.tmp 15) 1, false, none⟩,
  ⟨some 17, .load 3 (.tmp 16), false, none⟩,
  ⟨some 18, .binOp .eql 3 (.tmp 17) (.const (.int .i64 2)) 3, false, none⟩]) <|
 .seq (.keep [5, 18]) <|
 .cond (.tmp 18) (.seq (.ops [⟨some 4, .assign (.const (.int .i64 21)), false, none⟩]) <|
 .seq (.keep [4]) <|
 .ret) <|
 .skip) <|
 .seq (.keep [5]) <|
 .seq (.seq (.ops [⟨some 19, .move (.tmp 5), false, none⟩,
  ⟨some 20, .nilCheck (.tmp 19), false, none⟩,
  ⟨some 21, .fieldAddr 89 (.tmp 20) 1, false, none⟩,
  ⟨some 22, .load 3 (.tmp 21), false, none⟩,
  ⟨some 23, .binOp .eql 3 (.tmp 22) (.const (.int .i64 3)) 3, false, none⟩]) <|
 .seq (.keep [23]) <|
 .cond (.tmp 23) (.seq (.ops [⟨some 4, .assign (.const (.int .i64 22)), false, none⟩]) <|
 .seq (.keep [4]) <|
 .ret) <|
 .skip) <|
 .seq (.keep []) <|
 .seq (.ops [⟨some 4, .assign (.const (.int .i64 0)), false, none⟩]) <|
 .seq (.keep [4]) <|
 .ret
theorem c79 : Tryd.f79.body.map (fun c => ((compile Tryd.prog kp79 [] kp79 c).map (·.1), fits Tryd.f79.ntmps c)) = some (some s79, true) := by kernel_rfl
theorem r79 : Tryd.f79.results.toList = [.tmp 4] := by kernel_rfl
-- internal/stringslite.IndexByte
abbrev kp81 : List Nat := [4]
def s81 : SC :=
 .seq (.ops [⟨some 4, .assign (.const (.int .i64 0)), false, none⟩]) <|
 .seq (.keep [0, 1]) <|
 .seq (.ops [⟨some 5, .move (.tmp 0), false, none⟩,
  ⟨some 6, .move (.tmp 1), false, none⟩,
  ⟨some 7, .call ⟨.value (.func 85), #[(.tmp 5), (.tmp 6)], #[9, 5]⟩, true, none⟩,
  ⟨some 4, .assign (.tmp 7), false, none⟩]) <|
 .seq (.keep [4]) <|
 .ret
theorem c81 : Tryd.f81.body.map (fun c => ((compile Tryd.prog kp81 [] kp81 c).map (·.1), fits Tryd.f81.ntmps c)) = some (some s81, true) := by kernel_rfl
theorem r81 : Tryd.f81.results.toList = [.tmp 4] := by kernel_rfl
end Go.SX.G
