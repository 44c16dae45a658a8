/- The compiled texts of the functions that are walked here, each checked against the loaded program; facts on its types. Printed by a program of this session. -/
import Derived.Test.YthippanonfbboaaDoorGenB
import Derived.Test.YthippanonfbboaaDoorProg
set_option linter.unusedVariables false
namespace Go.SX.G
open Go Go.SX Go.Proofs
-- (*marionette/marionetteref15.Tree).Write
abbrev kp47 : List Nat := [8, 9]
def s47 : SC :=
 .seq (.ops [⟨some 8, .assign (.const (.int .i64 0)), false, none⟩,
  ⟨some 9, .assign (.const (.int .i64 0)), false, none⟩]) <|
 .seq (.keep [0, 1, 2, 3]) <|
 .seq (.ops [⟨some 14, .move (.tmp 0), false, none⟩,
  ⟨some 15, .move (.tmp 1), false, none⟩,
  ⟨some 16, .call ⟨.value (.func 79), #[(.tmp 14), (.tmp 15)], #[48, 3]⟩, true, none⟩,
  ⟨some 10, .assign (.tmp 16), false, none⟩]) <|
 .seq (.keep [0, 1, 2, 3, 10]) <|
 .seq (.seq (.ops [⟨some 17, .move (.tmp 10), false, none⟩,
  ⟨some 18, .binOp .neq 26 (.tmp 17) (.const (.int .i64 0)) 26, false, none⟩]) <|
 .seq (.keep [0, 1, 2, 3, 10, 18]) <|
 .cond (.tmp 18) (.seq (.ops [⟨some 19, .move (.tmp 10), false, none⟩,
  ⟨some 8, .assign (.const (.int .i64 0)), false, none⟩,
  ⟨some 9, .assign (.tmp 19), false, none⟩]) <|
 .seq (.keep [8, 9]) <|
 .ret) <|
 .skip) <|
 .seq (.keep [0, 1, 2, 3]) <|
 .seq (.seq (.ops [⟨some 20, .move (.tmp 2), false, none⟩,
  ⟨some 21, .binOp .lss 3 (.tmp 20) (.const (.int .i64 0)) 3, false, none⟩]) <|
 .seq (.keep [0, 1, 2, 3, 21]) <|
 .cond (.tmp 21) (.seq (.ops [⟨some 8, .assign (.const (.int .i64 0)), false, none⟩,
  ⟨some 9, .assign (.const (.int .i64 22)), false, none⟩]) <|
 .seq (.keep [8, 9]) <|
 .ret) <|
 .skip) <|
 .seq (.keep [0, 1, 2, 3]) <|
 .seq (.ops [⟨some 22, .move (.tmp 0), false, none⟩,
  ⟨some 23, .move (.tmp 1), false, none⟩,
  ⟨some 24, .call ⟨.value (.func 71), #[(.tmp 22), (.tmp 23)], #[48, 3]⟩, true, none⟩,
  ⟨some 11, .assign (.tmp 24), false, none⟩]) <|
 .seq (.keep [2, 3, 11]) <|
 .seq (.seq (.ops [⟨some 25, .move (.tmp 11), false, none⟩,
  ⟨some 26, .nilCheck (.tmp 25), false, none⟩,
  ⟨some 27, .fieldAddr 89 (.tmp 26) 1, false, none⟩,
  ⟨some 28, .load 3 (.tmp 27), false, none⟩,
  ⟨some 29, .binOp .neq 3 (.tmp 28) (.const (.int .i64 1)) 3, false, none⟩,
  ⟨some 30, .move (.tmp 29), false, none⟩,
  ⟨some 31, .move (.tmp 3), false, some (30, false)⟩,
  ⟨some 32, .call ⟨.builtin .len, #[(.tmp 31)], #[23]⟩, false, some (30, false)⟩,
  ⟨some 33, .binOp .eql 3 (.tmp 32) (.const (.int .i64 0)) 3, false, some (30, false)⟩,
  ⟨some 34, .pick (.tmp 30) (.const (.bool true)) (.tmp 33), false, none⟩]) <|
 .seq (.keep [2, 3, 11, 34]) <|
 .cond (.tmp 34) (.seq (.ops [⟨some 35, .move (.tmp 3), false, none⟩,
  ⟨some 36, .call ⟨.builtin .len, #[(.tmp 35)], #[23]⟩, false, none⟩,
  ⟨some 8, .assign (.tmp 36), false, none⟩,
  ⟨some 9, .assign (.const (.int .i64 0)), false, none⟩]) <|
 .seq (.keep [8, 9]) <|
 .ret) <|
 .skip) <|
 .seq (.keep [2, 3, 11]) <|
 .seq (.seq (.ops [⟨some 37, .move (.tmp 2), false, none⟩,
  ⟨some 38, .binOp .gtr 3 (.tmp 37) (.const (.int .i64 1048576)) 3, false, none⟩,
  ⟨some 39, .move (.tmp 38), false, none⟩,
  ⟨some 40, .move (.tmp 2), false, some (39, false)⟩,
  ⟨some 41, .move (.tmp 3), false, some (39, false)⟩,
  ⟨some 42, .call ⟨.builtin .len, #[(.tmp 41)], #[23]⟩, false, some (39, false)⟩,
  ⟨some 43, .binOp .add 3 (.tmp 40) (.tmp 42) 3, false, some (39, false)⟩,
  ⟨some 44, .binOp .gtr 3 (.tmp 43) (.const (.int .i64 1048576)) 3, false, some (39, false)⟩,
  ⟨some 45, .pick (.tmp 39) (.const (.bool true)) (.tmp 44), false, none⟩]) <|
 .seq (.keep [2, 3, 11, 45]) <|
 .cond (.tmp 45) (.seq (.ops [⟨some 8, .assign (.const (.int .i64 0)), false, none⟩,
  ⟨some 9, .assign (.const (.int .i64 27)), false, none⟩]) <|
 .seq (.keep [8, 9]) <|
 .ret) <|
 .skip) <|
 .seq (.keep [2, 3, 11]) <|
 .seq (.ops [⟨some 46, .buildSlice 23 0 #[], true, none⟩,
  ⟨some 47, .move (.tmp 11), false, none⟩,
  ⟨some 48, .nilCheck (.tmp 47), false, none⟩,
  ⟨some 49, .fieldAddr 89 (.tmp 48) 3, false, none⟩,
  ⟨some 50, .load 23 (.tmp 49), false, none⟩,
  ⟨some 51, .call ⟨.builtin .append, #[(.tmp 46), (.tmp 50)], #[23, 23]⟩, true, none⟩,
  ⟨some 12, .assign (.tmp 51), false, none⟩]) <|
 .seq (.keep [2, 3, 11, 12]) <|
 .seq (.block 0 <| .loop <| .seq (.seq (.seq (.ops [⟨some 52, .move (.tmp 12), false, none⟩,
  ⟨some 53, .call ⟨.builtin .len, #[(.tmp 52)], #[23]⟩, false, none⟩,
  ⟨some 54, .move (.tmp 2), false, none⟩,
  ⟨some 55, .move (.tmp 3), false, none⟩,
  ⟨some 56, .call ⟨.builtin .len, #[(.tmp 55)], #[23]⟩, false, none⟩,
  ⟨some 57, .binOp .add 3 (.tmp 54) (.tmp 56) 3, false, none⟩,
  ⟨some 58, .binOp .lss 3 (.tmp 53) (.tmp 57) 3, false, none⟩]) <|
 .seq (.keep [2, 3, 11, 12, 58]) <|
 .cond (.tmp 58) (.skip) <|
 .exit 0) <|
 .seq (.keep [2, 3, 11, 12]) <|
 .block 1 <| .ops [⟨some 59, .move (.tmp 12), false, none⟩,
  ⟨some 60, .buildSlice 23 1 #[(0, (.const (.int .u8 0)))], true, none⟩,
  ⟨some 61, .call ⟨.builtin .append, #[(.tmp 59), (.tmp 60)], #[23, 23]⟩, true, none⟩,
  ⟨some 12, .assign (.tmp 61), false, none⟩]) <|
 .keep [2, 3, 11, 12]) <|
 .seq (.keep [2, 3, 11, 12]) <|
 .seq (.seq (.ops [⟨some 13, .assign (.const (.int .i64 0)), false, none⟩]) <|
 .seq (.keep [2, 3, 11, 12, 13]) <|
 .block 2 <| .loop <| .seq (.seq (.seq (.ops [⟨some 62, .move (.tmp 13), false, none⟩,
  ⟨some 63, .move (.tmp 3), false, none⟩,
  ⟨some 64, .call ⟨.builtin .len, #[(.tmp 63)], #[23]⟩, false, none⟩,
  ⟨some 65, .binOp .lss 3 (.tmp 62) (.tmp 64) 3, false, none⟩]) <|
 .seq (.keep [2, 3, 11, 12, 13, 65]) <|
 .cond (.tmp 65) (.skip) <|
 .exit 2) <|
 .seq (.keep [2, 3, 11, 12, 13]) <|
 .seq (.block 3 <| .ops [⟨some 68, .move (.tmp 12), false, none⟩,
  ⟨some 69, .move (.tmp 2), false, none⟩,
  ⟨some 70, .move (.tmp 13), false, none⟩,
  ⟨some 71, .binOp .add 3 (.tmp 69) (.tmp 70) 3, false, none⟩,
  ⟨some 72, .move (.tmp 3), false, none⟩,
  ⟨some 73, .move (.tmp 13), false, none⟩,
  ⟨some 74, .indexAddr 23 (.tmp 72) (.tmp 73), false, none⟩,
  ⟨some 75, .load 5 (.tmp 74), false, none⟩,
  ⟨some 76, .indexAddr 23 (.tmp 68) (.tmp 71), false, none⟩,
  ⟨none, .store 5 (.tmp 76) (.tmp 75), true, none⟩]) <|
 .seq (.keep [2, 3, 11, 12, 13]) <|
 .ops [⟨some 66, .move (.tmp 13), false, none⟩,
  ⟨some 67, .binOp .add 3 (.tmp 66) (.const (.int .i64 1)) 3, false, none⟩,
  ⟨some 13, .assign (.tmp 67), false, none⟩]) <|
 .keep [2, 3, 11, 12, 13]) <|
 .seq (.keep [3, 11, 12]) <|
 .seq (.ops [⟨some 77, .move (.tmp 11), false, none⟩,
  ⟨some 78, .move (.tmp 12), false, none⟩,
  ⟨some 79, .nilCheck (.tmp 77), false, none⟩,
  ⟨some 80, .fieldAddr 89 (.tmp 79) 3, false, none⟩,
  ⟨none, .store 23 (.tmp 80) (.tmp 78), true, none⟩]) <|
 .seq (.keep [3]) <|
 .seq (.ops [⟨some 81, .move (.tmp 3), false, none⟩,
  ⟨some 82, .call ⟨.builtin .len, #[(.tmp 81)], #[23]⟩, false, none⟩,
  ⟨some 8, .assign (.tmp 82), false, none⟩,
  ⟨some 9, .assign (.const (.int .i64 0)), false, none⟩]) <|
 .seq (.keep [8, 9]) <|
 .ret
theorem c47 : Tryd.f47.body.map (fun c => ((compile Tryd.prog kp47 [] kp47 c).map (·.1), fits Tryd.f47.ntmps c)) = some (some s47, true) := by kernel_rfl
theorem r47 : Tryd.f47.results.toList = [.tmp 8, .tmp 9] := by kernel_rfl
-- (*marionette/marionetteref15.Tree).Cut
abbrev kp48 : List Nat := [6]
def s48 : SC :=
 .seq (.ops [⟨some 6, .assign (.const (.int .i64 0)), false, none⟩]) <|
 .seq (.keep [0, 1, 2]) <|
 .seq (.ops [⟨some 10, .move (.tmp 0), false, none⟩,
  ⟨some 11, .move (.tmp 1), false, none⟩,
  ⟨some 12, .call ⟨.value (.func 79), #[(.tmp 10), (.tmp 11)], #[48, 3]⟩, true, none⟩,
  ⟨some 7, .assign (.tmp 12), false, none⟩]) <|
 .seq (.keep [0, 1, 2, 7]) <|
 .seq (.seq (.ops [⟨some 13, .move (.tmp 7), false, none⟩,
  ⟨some 14, .binOp .neq 26 (.tmp 13) (.const (.int .i64 0)) 26, false, none⟩]) <|
 .seq (.keep [0, 1, 2, 7, 14]) <|
 .cond (.tmp 14) (.seq (.ops [⟨some 15, .move (.tmp 7), false, none⟩,
  ⟨some 6, .assign (.tmp 15), false, none⟩]) <|
 .seq (.keep [6]) <|
 .ret) <|
 .skip) <|
 .seq (.keep [0, 1, 2]) <|
 .seq (.ops [⟨some 16, .move (.tmp 0), false, none⟩,
  ⟨some 17, .move (.tmp 1), false, none⟩,
  ⟨some 18, .call ⟨.value (.func 71), #[(.tmp 16), (.tmp 17)], #[48, 3]⟩, true, none⟩,
  ⟨some 8, .assign (.tmp 18), false, none⟩]) <|
 .seq (.keep [2, 8]) <|
 .seq (.seq (.ops [⟨some 19, .move (.tmp 8), false, none⟩,
  ⟨some 20, .nilCheck (.tmp 19), false, none⟩,
  ⟨some 21, .fieldAddr 89 (.tmp 20) 1, false, none⟩,
  ⟨some 22, .load 3 (.tmp 21), false, none⟩,
  ⟨some 23, .binOp .neq 3 (.tmp 22) (.const (.int .i64 1)) 3, false, none⟩,
  ⟨some 24, .move (.tmp 23), false, none⟩,
  ⟨some 25, .move (.tmp 2), false, some (24, false)⟩,
  ⟨some 26, .binOp .lss 3 (.tmp 25) (.const (.int .i64 0)) 3, false, some (24, false)⟩,
  ⟨some 27, .pick (.tmp 24) (.const (.bool true)) (.tmp 26), false, none⟩]) <|
 .seq (.keep [2, 8, 27]) <|
 .cond (.tmp 27) (.seq (.ops [⟨some 6, .assign (.const (.int .i64 22)), false, none⟩]) <|
 .seq (.keep [6]) <|
 .ret) <|
 .skip) <|
 .seq (.keep [2, 8]) <|
 .seq (.seq (.ops [⟨some 28, .move (.tmp 2), false, none⟩,
  ⟨some 29, .binOp .gtr 3 (.tmp 28) (.const (.int .i64 1048576)) 3, false, none⟩]) <|
 .seq (.keep [2, 8, 29]) <|
 .cond (.tmp 29) (.seq (.ops [⟨some 6, .assign (.const (.int .i64 27)), false, none⟩]) <|
 .seq (.keep [6]) <|
 .ret) <|
 .skip) <|
 .seq (.keep [2, 8]) <|
 .seq (.ops [⟨some 30, .buildSlice 23 0 #[], true, none⟩,
  ⟨some 31, .move (.tmp 8), false, none⟩,
  ⟨some 32, .nilCheck (.tmp 31), false, none⟩,
  ⟨some 33, .fieldAddr 89 (.tmp 32) 3, false, none⟩,
  ⟨some 34, .load 23 (.tmp 33), false, none⟩,
  ⟨some 35, .call ⟨.builtin .append, #[(.tmp 30), (.tmp 34)], #[23, 23]⟩, true, none⟩,
  ⟨some 9, .assign (.tmp 35), false, none⟩]) <|
 .seq (.keep [2, 8, 9]) <|
 .seq (.block 0 <| .loop <| .seq (.seq (.seq (.ops [⟨some 36, .move (.tmp 9), false, none⟩,
  ⟨some 37, .call ⟨.builtin .len, #[(.tmp 36)], #[23]⟩, false, none⟩,
  ⟨some 38, .move (.tmp 2), false, none⟩,
  ⟨some 39, .binOp .lss 3 (.tmp 37) (.tmp 38) 3, false, none⟩]) <|
 .seq (.keep [2, 8, 9, 39]) <|
 .cond (.tmp 39) (.skip) <|
 .exit 0) <|
 .seq (.keep [2, 8, 9]) <|
 .block 1 <| .ops [⟨some 40, .move (.tmp 9), false, none⟩,
  ⟨some 41, .buildSlice 23 1 #[(0, (.const (.int .u8 0)))], true, none⟩,
  ⟨some 42, .call ⟨.builtin .append, #[(.tmp 40), (.tmp 41)], #[23, 23]⟩, true, none⟩,
  ⟨some 9, .assign (.tmp 42), false, none⟩]) <|
 .keep [2, 8, 9]) <|
 .seq (.keep [2, 8, 9]) <|
 .seq (.ops [⟨some 43, .move (.tmp 8), false, none⟩,
  ⟨some 44, .move (.tmp 9), false, none⟩,
  ⟨some 45, .move (.tmp 2), false, none⟩,
  ⟨some 46, .slice 23 (.tmp 44) none (some (.tmp 45)) none, false, none⟩,
  ⟨some 47, .nilCheck (.tmp 43), false, none⟩,
  ⟨some 48, .fieldAddr 89 (.tmp 47) 3, false, none⟩,
  ⟨none, .store 23 (.tmp 48) (.tmp 46), true, none⟩]) <|
 .seq (.keep []) <|
 .seq (.ops [⟨some 6, .assign (.const (.int .i64 0)), false, none⟩]) <|
 .seq (.keep [6]) <|
 .ret
theorem c48 : Tryd.f48.body.map (fun c => ((compile Tryd.prog kp48 [] kp48 c).map (·.1), fits Tryd.f48.ntmps c)) = some (some s48, true) := by kernel_rfl
theorem r48 : Tryd.f48.results.toList = [.tmp 6] := by kernel_rfl
-- (*marionette/node.Tree).Chmod
abbrev kp49 : List Nat := [6]
def s49 : SC :=
 .seq (.ops [⟨some 6, .assign (.const (.int .i64 0)), false, none⟩]) <|
 .seq (.keep [0, 1, 2]) <|
 .seq (.ops [⟨some 8, .move (.tmp 0), false, none⟩,
  ⟨some 9, .move (.tmp 1), false, none⟩,
  ⟨some 10, .call ⟨.value (.func 29), #[(.tmp 8), (.tmp 9)], #[25, 3]⟩, true, none⟩,
  ⟨some 7, .assign (.tmp 10), false, none⟩]) <|
 .seq (.keep [2, 7]) <|
 .seq (.block 0 <| .seq (.ops [⟨some 12, .move (.tmp 7), false, none⟩,
  ⟨some 13, .binOp .eql 67 (.tmp 12) (.const (.pointer none)) 67, false, none⟩,
  ⟨some 11, .assign (.tmp 13), false, none⟩]) <|
 .seq (.keep [2, 7, 11]) <|
 .cond (.tmp 11) (.seq (.ops [⟨some 6, .assign (.const (.int .i64 2)), false, none⟩]) <|
 .seq (.keep [6]) <|
 .ret) <|
 .seq (.ops [⟨some 15, .move (.tmp 2), false, none⟩,
  ⟨some 16, .binOp .lss 3 (.tmp 15) (.const (.int .i64 0)) 3, false, none⟩,
  ⟨some 17, .move (.tmp 16), false, none⟩,
  ⟨some 18, .move (.tmp 2), false, some (17, false)⟩,
  ⟨some 19, .binOp .gtr 3 (.tmp 18) (.const (.int .i64 511)) 3, false, some (17, false)⟩,
  ⟨some 20, .pick (.tmp 17) (.const (.bool true)) (.tmp 19), false, none⟩,
  ⟨some 14, .assign (.tmp 20), false, none⟩]) <|
 .seq (.keep [2, 7, 14]) <|
 .cond (.tmp 14) (.seq (.ops [⟨some 6, .assign (.const (.int .i64 22)), false, none⟩]) <|
 .seq (.keep [6]) <|
 .ret) <|
 .skip) <|
 .seq (.keep [2, 7]) <|
 .seq (.ops [⟨some 21, .move (.tmp 7), false, none⟩,
  ⟨some 22, .move (.tmp 2), false, none⟩,
  ⟨some 23, .nilCheck (.tmp 21), false, none⟩,
  ⟨some 24, .fieldAddr 69 (.tmp 23) 1, false, none⟩,
  ⟨none, .store 3 (.tmp 24) (.tmp 22), true, none⟩]) <|
 .seq (.keep []) <|
 .seq (.ops [⟨some 6, .assign (.const (.int .i64 0)), false, none⟩]) <|
 .seq (.keep [6]) <|
 .ret
theorem c49 : Tryd.f49.body.map (fun c => ((compile Tryd.prog kp49 [] kp49 c).map (·.1), fits Tryd.f49.ntmps c)) = some (some s49, true) := by kernel_rfl
theorem r49 : Tryd.f49.results.toList = [.tmp 6] := by kernel_rfl
-- (*marionette/marionetteref15.Tree).Chmod
abbrev kp50 : List Nat := [6]
def s50 : SC :=
 .seq (.ops [⟨some 6, .assign (.const (.int .i64 0)), false, none⟩]) <|
 .seq (.keep [0, 1, 2]) <|
 .seq (.ops [⟨some 8, .move (.tmp 0), false, none⟩,
  ⟨some 9, .move (.tmp 1), false, none⟩,
  ⟨some 10, .call ⟨.value (.func 71), #[(.tmp 8), (.tmp 9)], #[48, 3]⟩, true, none⟩,
  ⟨some 7, .assign (.tmp 10), false, none⟩]) <|
 .seq (.keep [2, 7]) <|
 .seq (.seq (.ops [⟨some 11, .move (.tmp 7), false, none⟩,
  ⟨some 12, .nilCheck (.tmp 11), false, none⟩,
  ⟨some 13, .fieldAddr 89 (.tmp 12) 0, false, none⟩,
  ⟨some 14, .load 3 (.tmp 13), false, none⟩,
  ⟨some 15, .binOp .eql 3 (.tmp 14) (.const (.int .i64 0)) 3, false, none⟩]) <|
 .seq (.keep [2, 7, 15]) <|
 .cond (.tmp 15) (.seq (.ops [⟨some 6, .assign (.const (.int .i64 2)), false, none⟩]) <|
 .seq (.keep [6]) <|
 .ret) <|
 .skip) <|
 .seq (.keep [2, 7]) <|
 .seq (.seq (.ops [⟨some 16, .move (.tmp 2), false, none⟩,
  ⟨some 17, .binOp .lss 3 (.tmp 16) (.const (.int .i64 0)) 3, false, none⟩,
  ⟨some 18, .move (.tmp 17), false, none⟩,
  ⟨some 19, .move (.tmp 2), false, some (18, false)⟩,
  ⟨some 20, .binOp .gtr 3 (.tmp 19) (.const (.int .i64 511)) 3, false, some (18, false)⟩,
  ⟨some 21, .pick (.tmp 18) (.const (.bool true)) (.tmp 20), false, none⟩]) <|
 .seq (.keep [2, 7, 21]) <|
 .cond (.tmp 21) (.seq (.ops [⟨some 6, .assign (.const (.int .i64 22)), false, none⟩]) <|
 .seq (.keep [6]) <|
 .ret) <|
 .skip) <|
 .seq (.keep [2, 7]) <|
 .seq (.ops [⟨some 22, .move (.tmp 7), false, none⟩,
  ⟨some 23, .move (.tmp 2), false, none⟩,
  ⟨some 24, .nilCheck (.tmp 22), false, none⟩,
  ⟨some 25, .fieldAddr 89 (.tmp 24) 2, false, none⟩,
  ⟨none, .store 3 (.tmp 25) (.tmp 23), true, none⟩]) <|
 .seq (.keep []) <|
 .seq (.ops [⟨some 6, .assign (.const (.int .i64 0)), false, none⟩]) <|
 .seq (.keep [6]) <|
 .ret
theorem c50 : Tryd.f50.body.map (fun c => ((compile Tryd.prog kp50 [] kp50 c).map (·.1), fits Tryd.f50.ntmps c)) = some (some s50, true) := by kernel_rfl
theorem r50 : Tryd.f50.results.toList = [.tmp 6] := by kernel_rfl
-- (*marionette/marionetteref15.Tree).Hold
abbrev kp51 : List Nat := []
def s51 : SC :=
 .seq (.ops [⟨some 5, .move (.tmp 0), false, none⟩,
  ⟨some 6, .move (.tmp 1), false, none⟩,
  ⟨some 7, .call ⟨.value (.func 71), #[(.tmp 5), (.tmp 6)], #[48, 3]⟩, true, none⟩,
  ⟨some 4, .assign (.tmp 7), false, none⟩]) <|
 .seq (.keep [4]) <|
 .seq (.ops [⟨some 8, .move (.tmp 4), false, none⟩,
  ⟨some 9, .nilCheck (.tmp 8), false, none⟩,
  ⟨some 10, .fieldAddr 89 (.tmp 9) 0, false, none⟩,
  ⟨some 11, .load 3 (.tmp 10), false, none⟩,
  ⟨some 12, .binOp .gtr 3 (.tmp 11) (.const (.int .i64 0)) 3, false, none⟩]) <|
 .seq (.keep [4, 12]) <|
 .cond (.tmp 12) (.ops [⟨some 13, .move (.tmp 4), false, none⟩,
  ⟨some 14, .nilCheck (.tmp 13), false, none⟩,
  ⟨some 15, .fieldAddr 89 (.tmp 14) 7, false, none⟩,
  ⟨some 16, .load 3 (.tmp 15), false, none⟩,
  ⟨some 17, .binOp .add 3 (.tmp 16) (.const (.int .i64 1)) 3, false, none⟩,
  ⟨some 18, .nilCheck (.tmp 13), false, none⟩,
  ⟨some 19, .fieldAddr 89 (.tmp 18) 7, false, none⟩,
  ⟨none, .store 3 (.tmp 19) (.tmp 17), true, none⟩]) <|
 .skip
theorem c51 : Tryd.f51.body.map (fun c => ((compile Tryd.prog kp51 [] kp51 c).map (·.1), fits Tryd.f51.ntmps c)) = some (some s51, true) := by kernel_rfl
theorem r51 : Tryd.f51.results.toList = [] := by kernel_rfl
-- (*marionette/marionetteref15.Tree).Release
abbrev kp52 : List Nat := []
def s52 : SC :=
 .seq (.ops [⟨some 5, .move (.tmp 0), false, none⟩,
  ⟨some 6, .move (.tmp 1), false, none⟩,
  ⟨some 7, .call ⟨.value (.func 71), #[(.tmp 5), (.tmp 6)], #[48, 3]⟩, true, none⟩,
  ⟨some 4, .assign (.tmp 7), false, none⟩]) <|
 .seq (.keep [0, 1, 4]) <|
 .seq (.ops [⟨some 8, .move (.tmp 4), false, none⟩,
  ⟨some 9, .nilCheck (.tmp 8), false, none⟩,
  ⟨some 10, .fieldAddr 89 (.tmp 9) 0, false, none⟩,
  ⟨some 11, .load 3 (.tmp 10), false, none⟩,
  ⟨some 12, .binOp .gtr 3 (.tmp 11) (.const (.int .i64 0)) 3, false, none⟩,
  ⟨some 13, .move (.tmp 12), false, none⟩,
  ⟨some 14, .move (.tmp 4), false, some (13, true)⟩,
  ⟨some 15, .nilCheck (.tmp 14), false, some (13, true)⟩,
  ⟨some 16, .fieldAddr 89 (.tmp 15) 7, false, some (13, true)⟩,
  ⟨some 17, .load 3 (.tmp 16), false, some (13, true)⟩,
  ⟨some 18, .binOp .gtr 3 (.tmp 17) (.const (.int .i64 0)) 3, false, some (13, true)⟩,
  ⟨some 19, .pick (.tmp 13) (.tmp 18) (.const (.bool false)), false, none⟩]) <|
 .seq (.keep [0, 1, 4, 19]) <|
 .cond (.tmp 19) (.seq (.ops [⟨some 20, .move (.tmp 4), false, none⟩,
  ⟨some 21, .nilCheck (.tmp 20), false, none⟩,
  ⟨some 22, .fieldAddr 89 (.tmp 21) 7, false, none⟩,
  ⟨some 23, .load 3 (.tmp 22), false, none⟩,
  ⟨some 24, .binOp .sub 3 (.tmp 23) (.const (.int .i64 1)) 3, false, none⟩,
  ⟨some 25, .nilCheck (.tmp 20), false, none⟩,
  ⟨some 26, .fieldAddr 89 (.tmp 25) 7, false, none⟩,
  ⟨none, .store 3 (.tmp 26) (.tmp 24), true, none⟩]) <|
 .seq (.keep [0, 1]) <|
 .ops [⟨some 27, .move (.tmp 0), false, none⟩,
  ⟨some 28, .move (.tmp 1), false, none⟩,
  ⟨some 29, .call ⟨.value (.func 80), #[(.tmp 27), (.tmp 28)], #[48, 3]⟩, true, none⟩]) <|
 .skip
theorem c52 : Tryd.f52.body.map (fun c => ((compile Tryd.prog kp52 [] kp52 c).map (·.1), fits Tryd.f52.ntmps c)) = some (some s52, true) := by kernel_rfl
theorem r52 : Tryd.f52.results.toList = [] := by kernel_rfl
-- (*marionette/node.Tree).Find
abbrev kp53 : List Nat := [6, 7]
def s53 : SC :=
 .seq (.ops [⟨some 6, .assign (.const (.int .i64 0)), false, none⟩,
  ⟨some 7, .assign (.const (.int .i64 0)), false, none⟩]) <|
 .seq (.keep [0, 1, 2]) <|
 .seq (.ops [⟨some 12, .move (.tmp 0), false, none⟩,
  ⟨some 13, .move (.tmp 1), false, none⟩,
  ⟨some 14, .call ⟨.value (.func 36), #[(.tmp 12), (.tmp 13)], #[25, 3]⟩, true, none⟩,
  ⟨some 11, .move (.tmp 14), false, none⟩,
  ⟨some 15, .extract (.tmp 11) 0, false, none⟩,
  ⟨some 16, .extract (.tmp 11) 1, false, none⟩,
  ⟨some 8, .assign (.tmp 15), false, none⟩,
  ⟨some 9, .assign (.tmp 16), false, none⟩]) <|
 .seq (.keep [0, 1, 2, 8, 9]) <|
 .seq (.seq (.ops [⟨some 17, .move (.tmp 9), false, none⟩,
  ⟨some 18, .binOp .neq 26 (.tmp 17) (.const (.int .i64 0)) 26, false, none⟩]) <|
 .seq (.keep [0, 1, 2, 8, 9, 18]) <|
 .cond (.tmp 18) (.seq (.ops [⟨some 19, .move (.tmp 9), false, none⟩,
  ⟨some 6, .assign (.const (.int .i64 0)), false, none⟩,
  ⟨some 7, .assign (.tmp 19), false, none⟩]) <|
 .seq (.keep [6, 7]) <|
 .ret) <|
 .skip) <|
 .seq (.keep [0, 1, 2, 8]) <|
 .seq (.seq (.ops [⟨some 20, .move (.tmp 2), false, none⟩]) <|
 .seq (.keep [0, 1, 2, 8, 20]) <|
 .block 0 <| .seq (.ops [⟨some 22, .binOp .eql 9 (.tmp 20) (.const (.string ⟨#[46]⟩)) 9, false, none⟩,
  ⟨some 21, .assign (.tmp 22), false, none⟩]) <|
 .seq (.keep [0, 1, 2, 8, 20, 21]) <|
 .cond (.tmp 21) (.seq (.ops [⟨some 23, .move (.tmp 1), false, none⟩,
  ⟨some 6, .assign (.tmp 23), false, none⟩,
  ⟨some 7, .assign (.const (.int .i64 0)), false, none⟩]) <|
 .seq (.keep [6, 7]) <|
 .ret) <|
 .seq (.ops [⟨some 25, .binOp .eql 9 (.tmp 20) (.const (.string ⟨#[46, 46]⟩)) 9, false, none⟩,
  ⟨some 24, .assign (.tmp 25), false, none⟩]) <|
 .seq (.keep [0, 1, 2, 8, 24]) <|
 .cond (.tmp 24) (.seq (.ops [⟨some 26, .move (.tmp 0), false, none⟩,
  ⟨some 27, .move (.tmp 1), false, none⟩,
  ⟨some 28, .call ⟨.value (.func 21), #[(.tmp 26), (.tmp 27)], #[25, 3]⟩, true, none⟩,
  ⟨some 6, .assign (.tmp 28), false, none⟩,
  ⟨some 7, .assign (.const (.int .i64 0)), false, none⟩]) <|
 .seq (.keep [6, 7]) <|
 .ret) <|
 .skip) <|
 .seq (.keep [2, 8]) <|
 .seq (.ops [⟨some 29, .move (.tmp 8), false, none⟩,
  ⟨some 30, .move (.tmp 2), false, none⟩,
  ⟨some 31, .call ⟨.value (.func 37), #[(.tmp 29), (.tmp 30)], #[67, 9]⟩, true, none⟩,
  ⟨some 10, .assign (.tmp 31), false, none⟩]) <|
 .seq (.keep [8, 10]) <|
 .seq (.seq (.ops [⟨some 32, .move (.tmp 10), false, none⟩,
  ⟨some 33, .binOp .lss 3 (.tmp 32) (.const (.int .i64 0)) 3, false, none⟩]) <|
 .seq (.keep [8, 10, 33]) <|
 .cond (.tmp 33) (.seq (.ops [⟨some 6, .assign (.const (.int .i64 0)), false, none⟩,
  ⟨some 7, .assign (.const (.int .i64 2)), false, none⟩]) <|
 .seq (.keep [6, 7]) <|
 .ret) <|
 .skip) <|
 .seq (.keep [8, 10]) <|
 .seq (.ops [⟨some 34, .move (.tmp 8), false, none⟩,
  ⟨some 35, .nilCheck (.tmp 34), false, none⟩,
  ⟨some 36, .fieldAddr 69 (.tmp 35) 3, false, none⟩,
  ⟨some 37, .load 55 (.tmp 36), false, none⟩,
  ⟨some 38, .move (.tmp 10), false, none⟩,
  ⟨some 39, .indexAddr 55 (.tmp 37) (.tmp 38), false, none⟩,
  ⟨some 40, .fieldAddr 59 (.tmp 39) 1, false, none⟩,
  ⟨some 41, .load 3 (.tmp 40), false, none⟩,
  ⟨some 6, .assign (.tmp 41), false, none⟩,
  ⟨some 7, .assign (.const (.int .i64 0)), false, none⟩]) <|
 .seq (.keep [6, 7]) <|
 .ret
theorem c53 : Tryd.f53.body.map (fun c => ((compile Tryd.prog kp53 [] kp53 c).map (·.1), fits Tryd.f53.ntmps c)) = some (some s53, true) := by kernel_rfl
theorem r53 : Tryd.f53.results.toList = [.tmp 6, .tmp 7] := by kernel_rfl
-- (*marionette/marionetteref15.Tree).Find
abbrev kp54 : List Nat := [6, 7]
def s54 : SC :=
 .seq (.ops [⟨some 6, .assign (.const (.int .i64 0)), false, none⟩,
  ⟨some 7, .assign (.const (.int .i64 0)), false, none⟩]) <|
 .seq (.keep [0, 1, 2]) <|
 .seq (.ops [⟨some 10, .move (.tmp 0), false, none⟩,
  ⟨some 11, .move (.tmp 1), false, none⟩,
  ⟨some 12, .call ⟨.value (.func 66), #[(.tmp 10), (.tmp 11)], #[48, 3]⟩, true, none⟩,
  ⟨some 8, .assign (.tmp 12), false, none⟩]) <|
 .seq (.keep [0, 1, 2, 8]) <|
 .seq (.seq (.ops [⟨some 13, .move (.tmp 8), false, none⟩,
  ⟨some 14, .binOp .neq 26 (.tmp 13) (.const (.int .i64 0)) 26, false, none⟩]) <|
 .seq (.keep [0, 1, 2, 8, 14]) <|
 .cond (.tmp 14) (.seq (.ops [⟨some 15, .move (.tmp 8), false, none⟩,
  ⟨some 6, .assign (.const (.int .i64 0)), false, none⟩,
  ⟨some 7, .assign (.tmp 15), false, none⟩]) <|
 .seq (.keep [6, 7]) <|
 .ret) <|
 .skip) <|
 .seq (.keep [0, 1, 2]) <|
 .seq (.seq (.ops [⟨some 16, .move (.tmp 2), false, none⟩,
  ⟨some 17, .binOp .eql 9 (.tmp 16) (.const (.string ⟨#[46]⟩)) 9, false, none⟩]) <|
 .seq (.keep [0, 1, 2, 17]) <|
 .cond (.tmp 17) (.seq (.ops [⟨some 18, .move (.tmp 1), false, none⟩,
  ⟨some 6, .assign (.tmp 18), false, none⟩,
  ⟨some 7, .assign (.const (.int .i64 0)), false, none⟩]) <|
 .seq (.keep [6, 7]) <|
 .ret) <|
 .skip) <|
 .seq (.keep [0, 1, 2]) <|
 .seq (.seq (.ops [⟨some 19, .move (.tmp 2), false, none⟩,
  ⟨some 20, .binOp .eql 9 (.tmp 19) (.const (.string ⟨#[46, 46]⟩)) 9, false, none⟩]) <|
 .seq (.keep [0, 1, 2, 20]) <|
 .cond (.tmp 20) (.seq (.ops [⟨some 21, .move (.tmp 0), false, none⟩,
  ⟨some 22, .move (.tmp 1), false, none⟩,
  ⟨some 23, .call ⟨.value (.func 77), #[(.tmp 21), (.tmp 22)], #[48, 3]⟩, true, none⟩,
  ⟨some 6, .assign (.tmp 23), false, none⟩,
  ⟨some 7, .assign (.const (.int .i64 0)), false, none⟩]) <|
 .seq (.keep [6, 7]) <|
 .ret) <|
 .skip) <|
 .seq (.keep [0, 1, 2]) <|
 .seq (.ops [⟨some 24, .move (.tmp 0), false, none⟩,
  ⟨some 25, .move (.tmp 1), false, none⟩,
  ⟨some 26, .call ⟨.value (.func 71), #[(.tmp 24), (.tmp 25)], #[48, 3]⟩, true, none⟩,
  ⟨some 27, .move (.tmp 2), false, none⟩,
  ⟨some 28, .call ⟨.value (.func 72), #[(.tmp 26), (.tmp 27)], #[87, 9]⟩, true, none⟩,
  ⟨some 9, .assign (.tmp 28), false, none⟩]) <|
 .seq (.keep [0, 1, 9]) <|
 .seq (.seq (.ops [⟨some 29, .move (.tmp 9), false, none⟩,
  ⟨some 30, .binOp .lss 3 (.tmp 29) (.const (.int .i64 0)) 3, false, none⟩]) <|
 .seq (.keep [0, 1, 9, 30]) <|
 .cond (.tmp 30) (.seq (.ops [⟨some 6, .assign (.const (.int .i64 0)), false, none⟩,
  ⟨some 7, .assign (.const (.int .i64 2)), false, none⟩]) <|
 .seq (.keep [6, 7]) <|
 .ret) <|
 .skip) <|
 .seq (.keep [0, 1, 9]) <|
 .seq (.ops [⟨some 31, .move (.tmp 0), false, none⟩,
  ⟨some 32, .move (.tmp 1), false, none⟩,
  ⟨some 33, .call ⟨.value (.func 71), #[(.tmp 31), (.tmp 32)], #[48, 3]⟩, true, none⟩,
  ⟨some 34, .nilCheck (.tmp 33), false, none⟩,
  ⟨some 35, .fieldAddr 89 (.tmp 34) 4, false, none⟩,
  ⟨some 36, .load 55 (.tmp 35), false, none⟩,
  ⟨some 37, .move (.tmp 9), false, none⟩,
  ⟨some 38, .indexAddr 55 (.tmp 36) (.tmp 37), false, none⟩,
  ⟨some 39, .fieldAddr 59 (.tmp 38) 1, false, none⟩,
  ⟨some 40, .load 3 (.tmp 39), false, none⟩,
  ⟨some 6, .assign (.tmp 40), false, none⟩,
  ⟨some 7, .assign (.const (.int .i64 0)), false, none⟩]) <|
 .seq (.keep [6, 7]) <|
 .ret
theorem c54 : Tryd.f54.body.map (fun c => ((compile Tryd.prog kp54 [] kp54 c).map (·.1), fits Tryd.f54.ntmps c)) = some (some s54, true) := by kernel_rfl
theorem r54 : Tryd.f54.results.toList = [.tmp 6, .tmp 7] := by kernel_rfl
-- (*marionette/node.Tree).Target
abbrev kp55 : List Nat := [4, 5]
def s55 : SC :=
 .seq (.ops [⟨some 4, .assign (.const (.string ⟨#[]⟩)), false, none⟩,
  ⟨some 5, .assign (.const (.int .i64 0)), false, none⟩]) <|
 .seq (.keep [0, 1]) <|
 .seq (.ops [⟨some 7, .move (.tmp 0), false, none⟩,
  ⟨some 8, .move (.tmp 1), false, none⟩,
  ⟨some 9, .call ⟨.value (.func 29), #[(.tmp 7), (.tmp 8)], #[25, 3]⟩, true, none⟩,
  ⟨some 6, .assign (.tmp 9), false, none⟩]) <|
 .seq (.keep [6]) <|
 .block 0 <| .seq (.ops [⟨some 16, .move (.tmp 6), false, none⟩,
  ⟨some 17, .binOp .eql 67 (.tmp 16) (.const (.pointer none)) 67, false, none⟩,
  ⟨some 15, .assign (.tmp 17), false, none⟩]) <|
 .seq (.keep [6, 15]) <|
 .cond (.tmp 15) (.seq (.ops [⟨some 4, .assign (.const (.string ⟨#[]⟩)), false, none⟩,
  ⟨some 5, .assign (.const (.int .i64 2)), false, none⟩]) <|
 .seq (.keep [4, 5]) <|
 .ret) <|
 .seq (.ops [⟨some 19, .move (.tmp 6), false, none⟩,
  ⟨some 20, .nilCheck (.tmp 19), false, none⟩,
  ⟨some 21, .fieldAddr 69 (.tmp 20) 0, false, none⟩,
  ⟨some 22, .load 3 (.tmp 21), false, none⟩,
  ⟨some 23, .binOp .neq 3 (.tmp 22) (.const (.int .i64 3)) 3, false, none⟩,
  ⟨some 18, .assign (.tmp 23), false, none⟩]) <|
 .seq (.keep [6, 18]) <|
 .cond (.tmp 18) (.seq (.ops [⟨some 4, .assign (.const (.string ⟨#[]⟩)), false, none⟩,
  ⟨some 5, .assign (.const (.int .i64 22)), false, none⟩]) <|
 .seq (.keep [4, 5]) <|
 .ret) <|
 .seq (.ops [⟨some 10, .move (.tmp 6), false, none⟩,
  ⟨some 11, .nilCheck (.tmp 10), false, none⟩,
  ⟨some 12, .fieldAddr 69 (.tmp 11) 2, false, none⟩,
  ⟨some 13, .load 23 (.tmp 12), false, none⟩,
  ⟨some 14, .convert 23 9 (.tmp 13), true, none⟩,
  ⟨some 4, .assign (.tmp 14), false, none⟩,
  ⟨some 5, .assign (.const (.int .i64 0)), false, none⟩]) <|
 .seq (.keep [4, 5]) <|
 .ret
theorem c55 : Tryd.f55.body.map (fun c => ((compile Tryd.prog kp55 [] kp55 c).map (·.1), fits Tryd.f55.ntmps c)) = some (some s55, true) := by kernel_rfl
theorem r55 : Tryd.f55.results.toList = [.tmp 4, .tmp 5] := by kernel_rfl
-- (*marionette/marionetteref15.Tree).Target
abbrev kp56 : List Nat := [4, 5]
def s56 : SC :=
 .seq (.ops [⟨some 4, .assign (.const (.string ⟨#[]⟩)), false, none⟩,
  ⟨some 5, .assign (.const (.int .i64 0)), false, none⟩]) <|
 .seq (.keep [0, 1]) <|
 .seq (.ops [⟨some 7, .move (.tmp 0), false, none⟩,
  ⟨some 8, .move (.tmp 1), false, none⟩,
  ⟨some 9, .call ⟨.value (.func 71), #[(.tmp 7), (.tmp 8)], #[48, 3]⟩, true, none⟩,
  ⟨some 6, .assign (.tmp 9), false, none⟩]) <|
 .seq (.keep [6]) <|
 .seq (.seq (.ops [⟨some 10, .move (.tmp 6), false, none⟩,
  ⟨some 11, .nilCheck (.tmp 10), false, none⟩,
  ⟨some 12, .fieldAddr 89 (.tmp 11) 0, false, none⟩,
  ⟨some 13, .load 3 (.tmp 12), false, none⟩,
  ⟨some 14, .binOp .eql 3 (.tmp 13) (.const (.int .i64 0)) 3, false, none⟩]) <|
 .seq (.keep [6, 14]) <|
 .cond (.tmp 14) (.seq (.ops [⟨some 4, .assign (.const (.string ⟨#[]⟩)), false, none⟩,
  ⟨some 5, .assign (.const (.int .i64 2)), false, none⟩]) <|
 .seq (.keep [4, 5]) <|
 .ret) <|
 .skip) <|
 .seq (.keep [6]) <|
 .seq (.seq (.ops [⟨some 15, .move (.tmp 6), false, none⟩,
  ⟨some 16, .nilCheck (.tmp 15), false, none⟩,
  ⟨some 17, .fieldAddr 89 (.tmp 16) 1, false, none⟩,
  ⟨some 18, .load 3 (.tmp 17), false, none⟩,
  ⟨some 19, .binOp .neq 3 (.tmp 18) (.const (.int .i64 3)) 3, false, none⟩]) <|
 .seq (.keep [6, 19]) <|
 .cond (.tmp 19) (.seq (.ops [⟨some 4, .assign (.const (.string ⟨#[]⟩)), false, none⟩,
  ⟨some 5, .assign (.const (.int .i64 22)), false, none⟩]) <|
 .seq (.keep [4, 5]) <|
 .ret) <|
 .skip) <|
 .seq (.keep [6]) <|
 .seq (.ops [⟨some 20, .move (.tmp 6), false, none⟩,
  ⟨some 21, .nilCheck (.tmp 20), false, none⟩,
  ⟨some 22, .fieldAddr 89 (.tmp 21) 3, false, none⟩,
  ⟨some 23, .load 23 (.tmp 22), false, none⟩,
  ⟨some 24, .convert 23 9 (.tmp 23), true, none⟩,
  ⟨some 4, .assign (.tmp 24), false, none⟩,
  ⟨some 5, .assign (.const (.int .i64 0)), false, none⟩]) <|
 .seq (.keep [4, 5]) <|
 .ret
theorem c56 : Tryd.f56.body.map (fun c => ((compile Tryd.prog kp56 [] kp56 c).map (·.1), fits Tryd.f56.ntmps c)) = some (some s56, true) := by kernel_rfl
theorem r56 : Tryd.f56.results.toList = [.tmp 4, .tmp 5] := by kernel_rfl
-- strings.IndexByte
abbrev kp58 : List Nat := [4]
def s58 : SC :=
 .seq (.ops [⟨some 4, .assign (.const (.int .i64 0)), false, none⟩]) <|
 .seq (.keep [0, 1]) <|
 .seq (.ops [⟨some 5, .move (.tmp 0), false, none⟩,
  ⟨some 6, .move (.tmp 1), false, none⟩,
  ⟨some 7, .call ⟨.value (.func 81), #[(.tmp 5), (.tmp 6)], #[9, 5]⟩, true, none⟩,
  ⟨some 4, .assign (.tmp 7), false, none⟩]) <|
 .seq (.keep [4]) <|
 .ret
theorem c58 : Tryd.f58.body.map (fun c => ((compile Tryd.prog kp58 [] kp58 c).map (·.1), fits Tryd.f58.ntmps c)) = some (some s58, true) := by kernel_rfl
theorem r58 : Tryd.f58.results.toList = [.tmp 4] := by kernel_rfl
-- slices.IndexFunc[[]marionette/api.Entry,marionette/api.Entry]
abbrev kp63 : List Nat := [4]
def s63 : SC :=
 .seq (.ops [⟨some 4, .assign (.const (.int .i64 0)), false, none⟩]) <|
 .seq (.keep [0, 1]) <|
 .seq (.seq (.ops [⟨some 6, .move (.tmp 0), false, none⟩,
  ⟨some 7, .call ⟨.builtin .len, #[(.tmp 6)], #[55]⟩, false, none⟩,
  ⟨some 8, .move (.const (.int .i64 0)), false, none⟩]) <|
 .seq (.keep [0, 1, 7, 8]) <|
 .block 0 <| .loop <| .seq (.seq (.ops [⟨some 9, .binOp .lss 3 (.tmp 8) (.tmp 7) 3, false, none⟩]) <|
 .seq (.keep [0, 1, 7, 8, 9]) <|
 .seq (.cond (.tmp 9) (.skip) <|
 .exit 0) <|
 .seq (.keep [0, 1, 7, 8]) <|
 .seq (.block 1 <| .seq (.ops [⟨some 10, .move (.tmp 8), false, none⟩,
  ⟨some 5, .assign (.tmp 10), false, none⟩]) <|
 .seq (.keep [0, 1, 5, 7, 8]) <|
 .seq (.ops [⟨some 11, .move (.tmp 1), false, none⟩,
  ⟨some 12, .move (.tmp 0), false, none⟩,
  ⟨some 13, .move (.tmp 5), false, none⟩,
  ⟨some 14, .indexAddr 55 (.tmp 12) (.tmp 13), false, none⟩,
  ⟨some 15, .load 59 (.tmp 14), false, none⟩,
  ⟨some 16, .call ⟨.value (.tmp 11), #[(.tmp 15)], #[59]⟩, true, none⟩]) <|
 .seq (.keep [0, 1, 5, 7, 8, 16]) <|
 .cond (.tmp 16) (.seq (.ops [⟨some 17, .move (.tmp 5), false, none⟩,
  ⟨some 4, .assign (.tmp 17), false, none⟩]) <|
 .seq (.keep [4]) <|
 .ret) <|
 .skip) <|
 .seq (.keep [0, 1, 7, 8]) <|
 .ops [⟨some 18, .binOp .add 3 (.tmp 8) (.const (.int .i64 1)) 3, false, none⟩,
  ⟨some 8, .move (.tmp 18), false, none⟩]) <|
 .keep [0, 1, 7, 8]) <|
 .seq (.keep []) <|
 .seq (.ops [⟨some 4, .assign (.const (.int .i64 (-1))), false, none⟩]) <|
 .seq (.keep [4]) <|
 .ret
theorem c63 : Tryd.f63.body.map (fun c => ((compile Tryd.prog kp63 [] kp63 c).map (·.1), fits Tryd.f63.ntmps c)) = some (some s63, true) := by kernel_rfl
theorem r63 : Tryd.f63.results.toList = [.tmp 4] := by kernel_rfl
-- (*marionette/marionetteref15.Tree).isDir
abbrev kp66 : List Nat := [4]
def s66 : SC :=
 .seq (.ops [⟨some 4, .assign (.const (.int .i64 0)), false, none⟩]) <|
 .seq (.keep [0, 1]) <|
 .seq (.ops [⟨some 6, .move (.tmp 0), false, none⟩,
  ⟨some 7, .move (.tmp 1), false, none⟩,
  ⟨some 8, .call ⟨.value (.func 71), #[(.tmp 6), (.tmp 7)], #[48, 3]⟩, true, none⟩,
  ⟨some 5, .assign (.tmp 8), false, none⟩]) <|
 .seq (.keep [5]) <|
 .seq (.seq (.ops [⟨some 9, .move (.tmp 5), false, none⟩,
  ⟨some 10, .nilCheck (.tmp 9), false, none⟩,
  ⟨some 11, .fieldAddr 89 (.tmp 10) 0, false, none⟩,
  ⟨some 12, .load 3 (.tmp 11), false, none⟩,
  ⟨some 13, .binOp .eql 3 (.tmp 12) (.const (.int .i64 0)) 3, false, none⟩]) <|
 .seq (.keep [5, 13]) <|
 .cond (.tmp 13) (.seq (.ops [⟨some 4, .assign (.const (.int .i64 2)), false, none⟩]) <|
 .seq (.keep [4]) <|
 .ret) <|
 .skip) <|
 .seq (.keep [5]) <|
 .seq (.seq (.ops [⟨some 14, .move (.tmp 5), false, none⟩,
  ⟨some 15, .nilCheck (.tmp 14), false, none⟩,
  ⟨some 16, .fieldAddr 89 (.tmp 15) 1, false, none⟩,
  ⟨some 17, .load 3 (.tmp 16), false, none⟩,
  ⟨some 18, .binOp .neq 3 (.tmp 17) (.const (.int .i64 2)) 3, false, none⟩]) <|
 .seq (.keep [18]) <|
 .cond (.tmp 18) (.seq (.ops [⟨some 4, .assign (.const (.int .i64 20)), false, none⟩]) <|
 .seq (.keep [4]) <|
 .ret) <|
 .skip) <|
 .seq (.keep []) <|
 .seq (.ops [⟨some 4, .assign (.const (.int .i64 0)), false, none⟩]) <|
 .seq (.keep [4]) <|
 .ret
theorem c66 : Tryd.f66.body.map (fun c => ((compile Tryd.prog kp66 [] kp66 c).map (·.1), fits Tryd.f66.ntmps c)) = some (some s66, true) := by kernel_rfl
theorem r66 : Tryd.f66.results.toList = [.tmp 4] := by kernel_rfl
-- marionette/marionetteref15.may
abbrev kp67 : List Nat := [6]
def s67 : SC :=
 .seq (.ops [⟨some 6, .assign (.const (.bool false)), false, none⟩]) <|
 .seq (.keep [0, 1, 2]) <|
 .seq (.seq (.ops [⟨some 8, .move (.tmp 1), false, none⟩,
  ⟨some 9, .binOp .lss 3 (.tmp 8) (.const (.int .i64 0)) 3, false, none⟩,
  ⟨some 10, .move (.tmp 9), false, none⟩,
  ⟨some 11, .move (.tmp 1), false, some (10, false)⟩,
  ⟨some 12, .binOp .gtr 3 (.tmp 11) (.const (.int .i64 511)) 3, false, some (10, false)⟩,
  ⟨some 13, .pick (.tmp 10) (.const (.bool true)) (.tmp 12), false, none⟩,
  ⟨some 14, .move (.tmp 13), false, none⟩,
  ⟨some 15, .move (.tmp 2), false, some (14, false)⟩,
  ⟨some 16, .call ⟨.builtin .len, #[(.tmp 15)], #[23]⟩, false, some (14, false)⟩,
  ⟨some 17, .binOp .gtr 3 (.tmp 16) (.const (.int .i64 1048576)) 3, false, some (14, false)⟩,
  ⟨some 18, .pick (.tmp 14) (.const (.bool true)) (.tmp 17), false, none⟩]) <|
 .seq (.keep [0, 2, 18]) <|
 .cond (.tmp 18) (.seq (.ops [⟨some 6, .assign (.const (.bool false)), false, none⟩]) <|
 .seq (.keep [6]) <|
 .ret) <|
 .skip) <|
 .seq (.keep [0, 2]) <|
 .seq (.seq (.ops [⟨some 19, .move (.tmp 0), false, none⟩,
  ⟨some 20, .binOp .eql 3 (.tmp 19) (.const (.int .i64 3)) 3, false, none⟩]) <|
 .seq (.keep [0, 2, 20]) <|
 .cond (.tmp 20) (.seq (.seq (.ops [⟨some 7, .assign (.const (.int .i64 0)), false, none⟩]) <|
 .seq (.keep [2, 7]) <|
 .block 0 <| .loop <| .seq (.seq (.seq (.ops [⟨some 21, .move (.tmp 7), false, none⟩,
  ⟨some 22, .move (.tmp 2), false, none⟩,
  ⟨some 23, .call ⟨.builtin .len, #[(.tmp 22)], #[23]⟩, false, none⟩,
  ⟨some 24, .binOp .lss 3 (.tmp 21) (.tmp 23) 3, false, none⟩]) <|
 .seq (.keep [2, 7, 24]) <|
 .cond (.tmp 24) (.skip) <|
 .exit 0) <|
 .seq (.keep [2, 7]) <|
 .seq (.block 1 <| .seq (.ops [⟨some 27, .move (.tmp 2), false, none⟩,
  ⟨some 28, .move (.tmp 7), false, none⟩,
  ⟨some 29, .indexAddr 23 (.tmp 27) (.tmp 28), false, none⟩,
  ⟨some 30, .load 5 (.tmp 29), false, none⟩,
  ⟨some 31, .binOp .eql 5 (.tmp 30) (.const (.int .u8 0)) 5, false, none⟩]) <|
 .seq (.keep [2, 7, 31]) <|
 .cond (.tmp 31) (.seq (.ops [⟨some 6, .assign (.const (.bool false)), false, none⟩]) <|
 .seq (.keep [6]) <|
 .ret) <|
 .skip) <|
 .seq (.keep [2, 7]) <|
 .ops [⟨some 25, .move (.tmp 7), false, none⟩,
  ⟨some 26, .binOp .add 3 (.tmp 25) (.const (.int .i64 1)) 3, false, none⟩,
  ⟨some 7, .assign (.tmp 26), false, none⟩]) <|
 .keep [2, 7]) <|
 .seq (.keep [2]) <|
 .seq (.ops [⟨some 32, .move (.tmp 2), false, none⟩,
  ⟨some 33, .call ⟨.builtin .len, #[(.tmp 32)], #[23]⟩, false, none⟩,
  ⟨some 34, .binOp .geq 3 (.tmp 33) (.const (.int .i64 1)) 3, false, none⟩,
  ⟨some 35, .move (.tmp 34), false, none⟩,
  ⟨some 36, .move (.tmp 2), false, some (35, true)⟩,
  ⟨some 37, .call ⟨.builtin .len, #[(.tmp 36)], #[23]⟩, false, some (35, true)⟩,
  ⟨some 38, .binOp .leq 3 (.tmp 37) (.const (.int .i64 4096)) 3, false, some (35, true)⟩,
  ⟨some 39, .pick (.tmp 35) (.tmp 38) (.const (.bool false)), false, none⟩,
  ⟨some 6, .assign (.tmp 39), false, none⟩]) <|
 .seq (.keep [6]) <|
 .ret) <|
 .skip) <|
 .seq (.keep [0, 2]) <|
 .seq (.seq (.ops [⟨some 40, .move (.tmp 0), false, none⟩,
  ⟨some 41, .binOp .eql 3 (.tmp 40) (.const (.int .i64 1)) 3, false, none⟩]) <|
 .seq (.keep [0, 2, 41]) <|
 .cond (.tmp 41) (.seq (.ops [⟨some 6, .assign (.const (.bool true)), false, none⟩]) <|
 .seq (.keep [6]) <|
 .ret) <|
 .skip) <|
 .seq (.keep [0, 2]) <|
 .seq (.ops [⟨some 42, .move (.tmp 0), false, none⟩,
  ⟨some 43, .binOp .eql 3 (.tmp 42) (.const (.int .i64 2)) 3, false, none⟩,
  ⟨some 44, .move (.tmp 43), false, none⟩,
  ⟨some 45, .move (.tmp 0), false, some (44, false)⟩,
  ⟨some 46, .binOp .eql 3 (.tmp 45) (.const (.int .i64 4)) 3, false, some (44, false)⟩,
  ⟨some 47, .pick (.tmp 44) (.const (.bool true)) (.tmp 46), false, none⟩,
  ⟨some 48, .move (.tmp 47), false, none⟩,
  ⟨some 49, .move (.tmp 0), false, some (48, false)⟩,
  ⟨some 50, .binOp .eql 3 (.tmp 49) (.const (.int .i64 5)) 3, false, some (48, false)⟩,
  ⟨some 51, .pick (.tmp 48) (.const (.bool true)) (.tmp 50), false, none⟩,
  ⟨some 52, .move (.tmp 51), false, none⟩,
  ⟨some 53, .move (.tmp 2), false, some (52, true)⟩,
  ⟨some 54, .call ⟨.builtin .len, #[(.tmp 53)], #[23]⟩, false, some (52, true)⟩,
  ⟨some 55, .binOp .eql 3 (.tmp 54) (.const (.int .i64 0)) 3, false, some (52, true)⟩,
  ⟨some 56, .pick (.tmp 52) (.tmp 55) (.const (.bool false)), false, none⟩,
  ⟨some 6, .assign (.tmp 56), false, none⟩]) <|
 .seq (.keep [6]) <|
 .ret
theorem c67 : Tryd.f67.body.map (fun c => ((compile Tryd.prog kp67 [] kp67 c).map (·.1), fits Tryd.f67.ntmps c)) = some (some s67, true) := by kernel_rfl
theorem r67 : Tryd.f67.results.toList = [.tmp 6] := by kernel_rfl
-- (*marionette/marionetteref15.Tree).place
abbrev kp68 : List Nat := [6]
def s68 : SC :=
 .seq (.ops [⟨some 6, .assign (.const (.int .i64 0)), false, none⟩]) <|
 .seq (.keep [0, 1, 2]) <|
 .seq (.ops [⟨some 8, .move (.tmp 0), false, none⟩,
  ⟨some 9, .move (.tmp 1), false, none⟩,
  ⟨some 10, .call ⟨.value (.func 66), #[(.tmp 8), (.tmp 9)], #[48, 3]⟩, true, none⟩,
  ⟨some 7, .assign (.tmp 10), false, none⟩]) <|
 .seq (.keep [0, 1, 2, 7]) <|
 .seq (.seq (.ops [⟨some 11, .move (.tmp 7), false, none⟩,
  ⟨some 12, .binOp .neq 26 (.tmp 11) (.const (.int .i64 0)) 26, false, none⟩]) <|
 .seq (.keep [0, 1, 2, 7, 12]) <|
 .cond (.tmp 12) (.seq (.ops [⟨some 13, .move (.tmp 7), false, none⟩,
  ⟨some 6, .assign (.tmp 13), false, none⟩]) <|
 .seq (.keep [6]) <|
 .ret) <|
 .skip) <|
 .seq (.keep [0, 1, 2]) <|
 .seq (.seq (.ops [⟨some 14, .move (.tmp 2), false, none⟩,
  ⟨some 15, .binOp .eql 9 (.tmp 14) (.const (.string ⟨#[46]⟩)) 9, false, none⟩,
  ⟨some 16, .move (.tmp 15), false, none⟩,
  ⟨some 17, .move (.tmp 2), false, some (16, false)⟩,
  ⟨some 18, .binOp .eql 9 (.tmp 17) (.const (.string ⟨#[46, 46]⟩)) 9, false, some (16, false)⟩,
  ⟨some 19, .pick (.tmp 16) (.const (.bool true)) (.tmp 18), false, none⟩]) <|
 .seq (.keep [0, 1, 2, 19]) <|
 .cond (.tmp 19) (.seq (.ops [⟨some 6, .assign (.const (.int .i64 17)), false, none⟩]) <|
 .seq (.keep [6]) <|
 .ret) <|
 .skip) <|
 .seq (.keep [0, 1, 2]) <|
 .seq (.seq (.ops [⟨some 20, .move (.tmp 2), false, none⟩,
  ⟨some 21, .call ⟨.value (.func 76), #[(.tmp 20)], #[9]⟩, true, none⟩,
  ⟨some 22, .unOp .not 4 (.tmp 21), false, none⟩]) <|
 .seq (.keep [0, 1, 2, 22]) <|
 .cond (.tmp 22) (.seq (.ops [⟨some 6, .assign (.const (.int .i64 22)), false, none⟩]) <|
 .seq (.keep [6]) <|
 .ret) <|
 .skip) <|
 .seq (.keep [0, 1, 2]) <|
 .seq (.seq (.ops [⟨some 23, .move (.tmp 0), false, none⟩,
  ⟨some 24, .move (.tmp 1), false, none⟩,
  ⟨some 25, .call ⟨.value (.func 71), #[(.tmp 23), (.tmp 24)], #[48, 3]⟩, true, none⟩,
  ⟨some 26, .move (.tmp 2), false, none⟩,
  ⟨some 27, .call ⟨.value (.func 72), #[(.tmp 25), (.tmp 26)], #[87, 9]⟩, true, none⟩,
  ⟨some 28, .binOp .geq 3 (.tmp 27) (.const (.int .i64 0)) 3, false, none⟩]) <|
 .seq (.keep [0, 1, 28]) <|
 .cond (.tmp 28) (.seq (.ops [⟨some 6, .assign (.const (.int .i64 17)), false, none⟩]) <|
 .seq (.keep [6]) <|
 .ret) <|
 .skip) <|
 .seq (.keep [0, 1]) <|
 .seq (.seq (.ops [⟨some 29, .move (.tmp 0), false, none⟩,
  ⟨some 30, .move (.tmp 1), false, none⟩,
  ⟨some 31, .call ⟨.value (.func 71), #[(.tmp 29), (.tmp 30)], #[48, 3]⟩, true, none⟩,
  ⟨some 32, .nilCheck (.tmp 31), false, none⟩,
  ⟨some 33, .fieldAddr 89 (.tmp 32) 5, false, none⟩,
  ⟨some 34, .load 3 (.tmp 33), false, none⟩,
  ⟨some 35, .binOp .eql 3 (.tmp 34) (.const (.int .i64 0)) 3, false, none⟩]) <|
 .seq (.keep [35]) <|
 .cond (.tmp 35) (.seq (.ops [⟨some 6, .assign (.const (.int .i64 2)), false, none⟩]) <|
 .seq (.keep [6]) <|
 .ret) <|
 .skip) <|
 .seq (.keep []) <|
 .seq (.ops [⟨some 6, .assign (.const (.int .i64 0)), false, none⟩]) <|
 .seq (.keep [6]) <|
 .ret
theorem c68 : Tryd.f68.body.map (fun c => ((compile Tryd.prog kp68 [] kp68 c).map (·.1), fits Tryd.f68.ntmps c)) = some (some s68, true) := by kernel_rfl
theorem r68 : Tryd.f68.results.toList = [.tmp 6] := by kernel_rfl
-- (*marionette/marionetteref15.Tree).Len
abbrev kp69 : List Nat := [2]
def s69 : SC :=
 .seq (.ops [⟨some 2, .assign (.const (.int .i64 0)), false, none⟩]) <|
 .seq (.keep [0]) <|
 .seq (.ops [⟨some 3, .assign (.const (.int .i64 0)), false, none⟩]) <|
 .seq (.keep [0, 3]) <|
 .seq (.seq (.ops [⟨some 4, .assign (.const (.int .i64 0)), false, none⟩]) <|
 .seq (.keep [0, 3, 4]) <|
 .block 0 <| .loop <| .seq (.seq (.seq (.ops [⟨some 5, .move (.tmp 4), false, none⟩,
  ⟨some 6, .move (.tmp 0), false, none⟩,
  ⟨some 7, .nilCheck (.tmp 6), false, none⟩,
  ⟨some 8, .fieldAddr 92 (.tmp 7) 0, false, none⟩,
  ⟨some 9, .load 90 (.tmp 8), false, none⟩,
  ⟨some 10, .call ⟨.builtin .len, #[(.tmp 9)], #[90]⟩, false, none⟩,
  ⟨some 11, .binOp .lss 3 (.tmp 5) (.tmp 10) 3, false, none⟩]) <|
 .seq (.keep [0, 3, 4, 11]) <|
 .cond (.tmp 11) (.skip) <|
 .exit 0) <|
 .seq (.keep [0, 3, 4]) <|
 .seq (.block 1 <| .seq (.ops [⟨some 14, .move (.tmp 0), false, none⟩,
  ⟨some 15, .nilCheck (.tmp 14), false, none⟩,
  ⟨some 16, .fieldAddr 92 (.tmp 15) 0, false, none⟩,
  ⟨some 17, .load 90 (.tmp 16), false, none⟩,
  ⟨some 18, .move (.tmp 4), false, none⟩,
  ⟨some 19, .indexAddr 90 (.tmp 17) (.tmp 18), false, none⟩,
  ⟨some 20, .load 87 (.tmp 19), false, none⟩,
  ⟨some 21, .nilCheck (.tmp 20), false, none⟩,
  ⟨some 22, .fieldAddr 89 (.tmp 21) 0, false, none⟩,
  ⟨some 23, .load 3 (.tmp 22), false, none⟩,
  ⟨some 24, .binOp .gtr 3 (.tmp 23) (.const (.int .i64 0)) 3, false, none⟩]) <|
 .seq (.keep [0, 3, 4, 24]) <|
 .cond (.tmp 24) (.ops [⟨some 25, .move (.tmp 3), false, none⟩,
  ⟨some 26, .binOp .add 3 (.tmp 25) (.const (.int .i64 1)) 3, false, none⟩,
  ⟨some 3, .assign (.tmp 26), false, none⟩]) <|
 .skip) <|
 .seq (.keep [0, 3, 4]) <|
 .ops [⟨some 12, .move (.tmp 4), false, none⟩,
  ⟨some 13, .binOp .add 3 (.tmp 12) (.const (.int .i64 1)) 3, false, none⟩,
  ⟨some 4, .assign (.tmp 13), false, none⟩]) <|
 .keep [0, 3, 4]) <|
 .seq (.keep [3]) <|
 .seq (.ops [⟨some 27, .move (.tmp 3), false, none⟩,
  ⟨some 2, .assign (.tmp 27), false, none⟩]) <|
 .seq (.keep [2]) <|
 .ret
theorem c69 : Tryd.f69.body.map (fun c => ((compile Tryd.prog kp69 [] kp69 c).map (·.1), fits Tryd.f69.ntmps c)) = some (some s69, true) := by kernel_rfl
theorem r69 : Tryd.f69.results.toList = [.tmp 2] := by kernel_rfl
-- (*marionette/marionetteref15.Tree).enter
abbrev kp70 : List Nat := []
def s70 : SC :=
 .seq (.ops [⟨some 9, .move (.tmp 0), false, none⟩,
  ⟨some 10, .move (.tmp 1), false, none⟩,
  ⟨some 11, .call ⟨.value (.func 71), #[(.tmp 9), (.tmp 10)], #[48, 3]⟩, true, none⟩,
  ⟨some 8, .assign (.tmp 11), false, none⟩]) <|
 .seq (.keep [0, 2, 3, 8]) <|
 .seq (.ops [⟨some 12, .move (.tmp 8), false, none⟩]) <|
 .seq (.ops [⟨some 13, .move (.tmp 8), false, none⟩]) <|
 .seq (.ops [⟨some 14, .nilCheck (.tmp 13), false, none⟩]) <|
 .seq (.ops [⟨some 15, .fieldAddr 89 (.tmp 14) 4, false, none⟩]) <|
 .seq (.ops [⟨some 17, .move (.tmp 2), false, none⟩]) <|
 .seq (.ops [⟨some 18, .move (.tmp 3), false, none⟩]) <|
 .seq (.ops [⟨some 19, .move (.tmp 0), false, none⟩]) <|
 .seq (.ops [⟨some 20, .move (.tmp 3), false, none⟩]) <|
 .amb (.seq (.ops [⟨some 16, .load 55 (.tmp 15), false, none⟩]) <|
 .seq (.ops [⟨some 21, .call ⟨.value (.func 71), #[(.tmp 19), (.tmp 20)], #[48, 3]⟩, true, none⟩]) <|
 .seq (.ops [⟨some 22, .nilCheck (.tmp 21), false, none⟩]) <|
 .seq (.ops [⟨some 23, .fieldAddr 89 (.tmp 22) 1, false, none⟩]) <|
 .seq (.ops [⟨some 24, .load 3 (.tmp 23), false, none⟩]) <|
 .seq (.ops [⟨some 25, .build 59 #[(0, (.tmp 17)), (1, (.tmp 18)), (2, (.tmp 24))], false, none⟩]) <|
 .seq (.ops [⟨some 26, .buildSlice 55 1 #[(0, (.tmp 25))], true, none⟩]) <|
 .seq (.ops [⟨some 27, .call ⟨.builtin .append, #[(.tmp 16), (.tmp 26)], #[55, 55]⟩, true, none⟩]) <|
 .seq (.ops [⟨some 28, .nilCheck (.tmp 12), false, none⟩]) <|
 .seq (.ops [⟨some 29, .fieldAddr 89 (.tmp 28) 4, false, none⟩]) <|
 .seq (.ops [⟨none, .store 55 (.tmp 29) (.tmp 27), true, none⟩]) <|
 .skip) (.seq (.ops [⟨some 21, .call ⟨.value (.func 71), #[(.tmp 19), (.tmp 20)], #[48, 3]⟩, true, none⟩]) <|
 .seq (.ops [⟨some 22, .nilCheck (.tmp 21), false, none⟩]) <|
 .seq (.ops [⟨some 23, .fieldAddr 89 (.tmp 22) 1, false, none⟩]) <|
 .seq (.ops [⟨some 24, .load 3 (.tmp 23), false, none⟩]) <|
 .seq (.ops [⟨some 25, .build 59 #[(0, (.tmp 17)), (1, (.tmp 18)), (2, (.tmp 24))], false, none⟩]) <|
 .amb (.seq (.ops [⟨some 16, .load 55 (.tmp 15), false, none⟩]) <|
 .seq (.ops [⟨some 26, .buildSlice 55 1 #[(0, (.tmp 25))], true, none⟩]) <|
 .seq (.ops [⟨some 27, .call ⟨.builtin .append, #[(.tmp 16), (.tmp 26)], #[55, 55]⟩, true, none⟩]) <|
 .seq (.ops [⟨some 28, .nilCheck (.tmp 12), false, none⟩]) <|
 .seq (.ops [⟨some 29, .fieldAddr 89 (.tmp 28) 4, false, none⟩]) <|
 .seq (.ops [⟨none, .store 55 (.tmp 29) (.tmp 27), true, none⟩]) <|
 .skip) (.seq (.ops [⟨some 26, .buildSlice 55 1 #[(0, (.tmp 25))], true, none⟩]) <|
 .seq (.ops [⟨some 16, .load 55 (.tmp 15), false, none⟩]) <|
 .seq (.ops [⟨some 27, .call ⟨.builtin .append, #[(.tmp 16), (.tmp 26)], #[55, 55]⟩, true, none⟩]) <|
 .seq (.ops [⟨some 28, .nilCheck (.tmp 12), false, none⟩]) <|
 .seq (.ops [⟨some 29, .fieldAddr 89 (.tmp 28) 4, false, none⟩]) <|
 .seq (.ops [⟨none, .store 55 (.tmp 29) (.tmp 27), true, none⟩]) <|
 .skip))
theorem c70 : Tryd.f70.body.map (fun c => ((compile Tryd.prog kp70 [] kp70 c).map (·.1), fits Tryd.f70.ntmps c)) = some (some s70, true) := by kernel_rfl
theorem r70 : Tryd.f70.results.toList = [] := by kernel_rfl
-- (*marionette/marionetteref15.Tree).Get
abbrev kp71 : List Nat := [4]
def s71 : SC :=
 .seq (.ops [⟨some 4, .assign (.const (.pointer none)), false, none⟩]) <|
 .seq (.keep [0, 1]) <|
 .seq (.seq (.ops [⟨some 5, .move (.tmp 1), false, none⟩,
  ⟨some 6, .binOp .lss 3 (.tmp 5) (.const (.int .i64 1)) 3, false, none⟩,
  ⟨some 7, .move (.tmp 6), false, none⟩,
  ⟨some 8, .move (.tmp 1), false, some (7, false)⟩,
  ⟨some 9, .move (.tmp 0), false, some (7, false)⟩,
  ⟨some 10, .nilCheck (.tmp 9), false, some (7, false)⟩,
  ⟨some 11, .fieldAddr 92 (.tmp 10) 0, false, some (7, false)⟩,
  ⟨some 12, .load 90 (.tmp 11), false, some (7, false)⟩,
  ⟨some 13, .call ⟨.builtin .len, #[(.tmp 12)], #[90]⟩, false, some (7, false)⟩,
  ⟨some 14, .binOp .gtr 3 (.tmp 8) (.tmp 13) 3, false, some (7, false)⟩,
  ⟨some 15, .pick (.tmp 7) (.const (.bool true)) (.tmp 14), false, none⟩]) <|
 .seq (.keep [0, 1, 15]) <|
 .cond (.tmp 15) (.seq (.ops [⟨some 16, .build 89 #[], false, none⟩,
  ⟨some 17, .box 89 (.tmp 16), true, none⟩,
  ⟨some 4, .assign (.tmp 17), false, none⟩]) <|
 .seq (.keep [4]) <|
 .ret) <|
 .skip) <|
 .seq (.keep [0, 1]) <|
 .seq (.ops [⟨some 18, .move (.tmp 0), false, none⟩,
  ⟨some 19, .nilCheck (.tmp 18), false, none⟩,
  ⟨some 20, .fieldAddr 92 (.tmp 19) 0, false, none⟩,
  ⟨some 21, .load 90 (.tmp 20), false, none⟩,
  ⟨some 22, .move (.tmp 1), false, none⟩,
  ⟨some 23, .binOp .sub 3 (.tmp 22) (.const (.int .i64 1)) 3, false, none⟩,
  ⟨some 24, .indexAddr 90 (.tmp 21) (.tmp 23), false, none⟩,
  ⟨some 25, .load 87 (.tmp 24), false, none⟩,
  ⟨some 4, .assign (.tmp 25), false, none⟩]) <|
 .seq (.keep [4]) <|
 .ret
theorem c71 : Tryd.f71.body.map (fun c => ((compile Tryd.prog kp71 [] kp71 c).map (·.1), fits Tryd.f71.ntmps c)) = some (some s71, true) := by kernel_rfl
theorem r71 : Tryd.f71.results.toList = [.tmp 4] := by kernel_rfl
-- (*marionette/marionetteref15.Node).at
abbrev kp72 : List Nat := [4]
def s72 : SC :=
 .seq (.ops [⟨some 4, .assign (.const (.int .i64 0)), false, none⟩]) <|
 .seq (.keep [0, 1]) <|
 .seq (.seq (.ops [⟨some 5, .assign (.const (.int .i64 0)), false, none⟩]) <|
 .seq (.keep [0, 1, 5]) <|
 .block 0 <| .loop <| .seq (.seq (.seq (.ops [⟨some 6, .move (.tmp 5), false, none⟩,
  ⟨some 7, .move (.tmp 0), false, none⟩,
  ⟨some 8, .nilCheck (.tmp 7), false, none⟩,
  ⟨some 9, .fieldAddr 89 (.tmp 8) 4, false, none⟩,
  ⟨some 10, .load 55 (.tmp 9), false, none⟩,
  ⟨some 11, .call ⟨.builtin .len, #[(.tmp 10)], #[55]⟩, false, none⟩,
  ⟨some 12, .binOp .lss 3 (.tmp 6) (.tmp 11) 3, false, none⟩]) <|
 .seq (.keep [0, 1, 5, 12]) <|
 .cond (.tmp 12) (.skip) <|
 .exit 0) <|
 .seq (.keep [0, 1, 5]) <|
 .seq (.block 1 <| .seq (.ops [⟨some 15, .move (.tmp 0), false, none⟩,
  ⟨some 16, .nilCheck (.tmp 15), false, none⟩,
  ⟨some 17, .fieldAddr 89 (.tmp 16) 4, false, none⟩,
  ⟨some 18, .load 55 (.tmp 17), false, none⟩,
  ⟨some 19, .move (.tmp 5), false, none⟩,
  ⟨some 20, .indexAddr 55 (.tmp 18) (.tmp 19), false, none⟩,
  ⟨some 21, .fieldAddr 59 (.tmp 20) 0, false, none⟩,
  ⟨some 22, .load 9 (.tmp 21), false, none⟩,
  ⟨some 23, .move (.tmp 1), false, none⟩,
  ⟨some 24, .binOp .eql 9 (.tmp 22) (.tmp 23) 9, false, none⟩]) <|
 .seq (.keep [0, 1, 5, 24]) <|
 .cond (.tmp 24) (.seq (.ops [⟨some 25, .move (.tmp 5), false, none⟩,
  ⟨some 4, .assign (.tmp 25), false, none⟩]) <|
 .seq (.keep [4]) <|
 .ret) <|
 .skip) <|
 .seq (.keep [0, 1, 5]) <|
 .ops [⟨some 13, .move (.tmp 5), false, none⟩,
  ⟨some 14, .binOp .add 3 (.tmp 13) (.const (.int .i64 1)) 3, false, none⟩,
  ⟨some 5, .assign (.tmp 14), false, none⟩]) <|
 .keep [0, 1, 5]) <|
 .seq (.keep []) <|
 .seq (.ops [⟨some 4, .assign (.const (.int .i64 (-1))), false, none⟩]) <|
 .seq (.keep [4]) <|
 .ret
theorem c72 : Tryd.f72.body.map (fun c => ((compile Tryd.prog kp72 [] kp72 c).map (·.1), fits Tryd.f72.ntmps c)) = some (some s72, true) := by kernel_rfl
theorem r72 : Tryd.f72.results.toList = [.tmp 4] := by kernel_rfl
-- marionette/marionetteref15.Good
abbrev kp76 : List Nat := [2]
def s76 : SC :=
 .seq (.ops [⟨some 2, .assign (.const (.bool false)), false, none⟩]) <|
 .seq (.keep [0]) <|
 .seq (.seq (.ops [⟨some 3, .assign (.const (.int .i64 0)), false, none⟩]) <|
 .seq (.keep [0, 3]) <|
 .block 0 <| .loop <| .seq (.seq (.seq (.ops [⟨some 4, .move (.tmp 3), false, none⟩,
  ⟨some 5, .move (.tmp 0), false, none⟩,
  ⟨some 6, .call ⟨.builtin .len, #[(.tmp 5)], #[9]⟩, false, none⟩,
  ⟨some 7, .binOp .lss 3 (.tmp 4) (.tmp 6) 3, false, none⟩]) <|
 .seq (.keep [0, 3, 7]) <|
 .cond (.tmp 7) (.skip) <|
 .exit 0) <|
 .seq (.keep [0, 3]) <|
 .seq (.block 1 <| .seq (.ops [⟨some 10, .move (.tmp 0), false, none⟩,
  ⟨some 11, .move (.tmp 3), false, none⟩,
  ⟨some 12, .index 9 (.tmp 10) (.tmp 11), false, none⟩,
  ⟨some 13, .binOp .eql 5 (.tmp 12) (.const (.int .u8 0)) 5, false, none⟩,
  ⟨some 14, .move (.tmp 13), false, none⟩,
  ⟨some 15, .move (.tmp 0), false, some (14, false)⟩,
  ⟨some 16, .move (.tmp 3), false, some (14, false)⟩,
  ⟨some 17, .index 9 (.tmp 15) (.tmp 16), false, some (14, false)⟩,
  ⟨some 18, .binOp .eql 5 (.tmp 17) (.const (.int .u8 47)) 5, false, some (14, false)⟩,
  ⟨some 19, .pick (.tmp 14) (.const (.bool true)) (.tmp 18), false, none⟩]) <|
 .seq (.keep [0, 3, 19]) <|
 .cond (.tmp 19) (.seq (.ops [⟨some 2, .assign (.const (.bool false)), false, none⟩]) <|
 .seq (.keep [2]) <|
 .ret) <|
 .skip) <|
 .seq (.keep [0, 3]) <|
 .ops [⟨some 8, .move (.tmp 3), false, none⟩,
  ⟨some 9, .binOp .add 3 (.tmp 8) (.const (.int .i64 1)) 3, false, none⟩,
  ⟨some 3, .assign (.tmp 9), false, none⟩]) <|
 .keep [0, 3]) <|
 .seq (.keep [0]) <|
 .seq (.ops [⟨some 20, .move (.tmp 0), false, none⟩,
  ⟨some 21, .call ⟨.builtin .len, #[(.tmp 20)], #[9]⟩, false, none⟩,
  ⟨some 22, .binOp .geq 3 (.tmp 21) (.const (.int .i64 1)) 3, false, none⟩,
  ⟨some 23, .move (.tmp 22), false, none⟩,
  ⟨some 24, .move (.tmp 0), false, some (23, true)⟩,
  ⟨some 25, .call ⟨.builtin .len, #[(.tmp 24)], #[9]⟩, false, some (23, true)⟩,
  ⟨some 26, .binOp .leq 3 (.tmp 25) (.const (.int .i64 255)) 3, false, some (23, true)⟩,
  ⟨some 27, .pick (.tmp 23) (.tmp 26) (.const (.bool false)), false, none⟩,
  ⟨some 28, .move (.tmp 27), false, none⟩,
  ⟨some 29, .move (.tmp 0), false, some (28, true)⟩,
  ⟨some 30, .binOp .neq 9 (.tmp 29) (.const (.string ⟨#[46]⟩)) 9, false, some (28, true)⟩,
  ⟨some 31, .pick (.tmp 28) (.tmp 30) (.const (.bool false)), false, none⟩,
  ⟨some 32, .move (.tmp 31), false, none⟩,
  ⟨some 33, .move (.tmp 0), false, some (32, true)⟩,
  ⟨some 34, .binOp .neq 9 (.tmp 33) (.const (.string ⟨#[46, 46]⟩)) 9, false, some (32, true)⟩,
  ⟨some 35, .pick (.tmp 32) (.tmp 34) (.const (.bool false)), false, none⟩,
  ⟨some 2, .assign (.tmp 35), false, none⟩]) <|
 .seq (.keep [2]) <|
 .ret
theorem c76 : Tryd.f76.body.map (fun c => ((compile Tryd.prog kp76 [] kp76 c).map (·.1), fits Tryd.f76.ntmps c)) = some (some s76, true) := by kernel_rfl
theorem r76 : Tryd.f76.results.toList = [.tmp 2] := by kernel_rfl
-- (*marionette/marionetteref15.Tree).Parent
abbrev kp77 : List Nat := [4]
def s77 : SC :=
 .seq (.ops [⟨some 4, .assign (.const (.int .i64 0)), false, none⟩]) <|
 .seq (.keep [0, 1]) <|
 .seq (.seq (.ops [⟨some 5, .move (.tmp 0), false, none⟩,
  ⟨some 6, .move (.tmp 1), false, none⟩,
  ⟨some 7, .call ⟨.value (.func 66), #[(.tmp 5), (.tmp 6)], #[48, 3]⟩, true, none⟩,
  ⟨some 8, .binOp .neq 26 (.tmp 7) (.const (.int .i64 0)) 26, false, none⟩]) <|
 .seq (.keep [0, 1, 8]) <|
 .cond (.tmp 8) (.seq (.ops [⟨some 4, .assign (.const (.int .i64 0)), false, none⟩]) <|
 .seq (.keep [4]) <|
 .ret) <|
 .skip) <|
 .seq (.keep [0, 1]) <|
 .seq (.seq (.ops [⟨some 9, .move (.tmp 0), false, none⟩,
  ⟨some 10, .move (.tmp 1), false, none⟩,
  ⟨some 11, .call ⟨.value (.func 71), #[(.tmp 9), (.tmp 10)], #[48, 3]⟩, true, none⟩,
  ⟨some 12, .nilCheck (.tmp 11), false, none⟩,
  ⟨some 13, .fieldAddr 89 (.tmp 12) 5, false, none⟩,
  ⟨some 14, .load 3 (.tmp 13), false, none⟩,
  ⟨some 15, .binOp .eql 3 (.tmp 14) (.const (.int .i64 0)) 3, false, none⟩]) <|
 .seq (.keep [0, 1, 15]) <|
 .cond (.tmp 15) (.seq (.ops [⟨some 16, .move (.tmp 1), false, none⟩,
  ⟨some 4, .assign (.tmp 16), false, none⟩]) <|
 .seq (.keep [4]) <|
 .ret) <|
 .skip) <|
 .seq (.keep [0, 1]) <|
 .seq (.ops [⟨some 17, .move (.tmp 0), false, none⟩,
  ⟨some 18, .move (.tmp 1), false, none⟩,
  ⟨some 19, .call ⟨.value (.func 71), #[(.tmp 17), (.tmp 18)], #[48, 3]⟩, true, none⟩,
  ⟨some 20, .nilCheck (.tmp 19), false, none⟩,
  ⟨some 21, .fieldAddr 89 (.tmp 20) 5, false, none⟩,
  ⟨some 22, .load 3 (.tmp 21), false, none⟩,
  ⟨some 4, .assign (.tmp 22), false, none⟩]) <|
 .seq (.keep [4]) <|
 .ret
theorem c77 : Tryd.f77.body.map (fun c => ((compile Tryd.prog kp77 [] kp77 c).map (·.1), fits Tryd.f77.ntmps c)) = some (some s77, true) := by kernel_rfl
theorem r77 : Tryd.f77.results.toList = [.tmp 4] := by kernel_rfl
-- (*marionette/marionetteref15.Tree).bytes
abbrev kp79 : List Nat := [4]
def s79 : SC :=
 .seq (.ops [⟨some 4, .assign (.const (.int .i64 0)), false, none⟩]) <|
 .seq (.keep [0, 1]) <|
 .seq (.ops [⟨some 6, .move (.tmp 0), false, none⟩,
  ⟨some 7, .move (.tmp 1), false, none⟩,
  ⟨some 8, .call ⟨.value (.func 71), #[(.tmp 6), (.tmp 7)], #[48, 3]⟩, true, none⟩,
  ⟨some 5, .assign (.tmp 8), false, none⟩]) <|
 .seq (.keep [5]) <|
 .seq (.seq (.ops [⟨some 9, .move (.tmp 5), false, none⟩,
  ⟨some 10, .nilCheck (.tmp 9), false, none⟩,
  ⟨some 11, .fieldAddr 89 (.tmp 10) 0, false, none⟩,
  ⟨some 12, .load 3 (.tmp 11), false, none⟩,
  ⟨some 13, .binOp .eql 3 (.tmp 12) (.const (.int .i64 0)) 3, false, none⟩]) <|
 .seq (.keep [5, 13]) <|
 .cond (.tmp 13) (.seq (.ops [⟨some 4, .assign (.const (.int .i64 2)), false, none⟩]) <|
 .seq (.keep [4]) <|
 .ret) <|
 .skip) <|
 .seq (.keep [5]) <|
 .seq (.seq (.ops [⟨some 14, .move (.tmp 5), false, none⟩,
  ⟨some 15, .nilCheck (.tmp 14), false, none⟩,
  ⟨some 16, .fieldAddr 89 (.tmp 15) 1, false, none⟩,
  ⟨some 17, .load 3 (.tmp 16), false, none⟩,
  ⟨some 18, .binOp .eql 3 (.tmp 17) (.const (.int .i64 2)) 3, false, none⟩]) <|
 .seq (.keep [5, 18]) <|
 .cond (.tmp 18) (.seq (.ops [⟨some 4, .assign (.const (.int .i64 21)), false, none⟩]) <|
 .seq (.keep [4]) <|
 .ret) <|
 .skip) <|
 .seq (.keep [5]) <|
 .seq (.seq (.ops [⟨some 19, .move (.tmp 5), false, none⟩,
  ⟨some 20, .nilCheck (.tmp 19), false, none⟩,
  ⟨some 21, .fieldAddr 89 (.tmp 20) 1, false, none⟩,
  ⟨some 22, .load 3 (.tmp 21), false, none⟩,
  ⟨some 23, .binOp .eql 3 (.tmp 22) (.const (.int .i64 3)) 3, false, none⟩]) <|
 .seq (.keep [23]) <|
 .cond (.tmp 23) (.seq (.ops [⟨some 4, .assign (.const (.int .i64 22)), false, none⟩]) <|
 .seq (.keep [4]) <|
 .ret) <|
 .skip) <|
 .seq (.keep []) <|
 .seq (.ops [⟨some 4, .assign (.const (.int .i64 0)), false, none⟩]) <|
 .seq (.keep [4]) <|
 .ret
theorem c79 : Tryd.f79.body.map (fun c => ((compile Tryd.prog kp79 [] kp79 c).map (·.1), fits Tryd.f79.ntmps c)) = some (some s79, true) := by kernel_rfl
theorem r79 : Tryd.f79.results.toList = [.tmp 4] := by kernel_rfl
-- internal/stringslite.IndexByte
abbrev kp81 : List Nat := [4]
def s81 : SC :=
 .seq (.ops [⟨some 4, .assign (.const (.int .i64 0)), false, none⟩]) <|
 .seq (.keep [0, 1]) <|
 .seq (.ops [⟨some 5, .move (.tmp 0), false, none⟩,
  ⟨some 6, .move (.tmp 1), false, none⟩,
  ⟨some 7, .call ⟨.value (.func 85), #[(.tmp 5), (.tmp 6)], #[9, 5]⟩, true, none⟩,
  ⟨some 4, .assign (.tmp 7), false, none⟩]) <|
 .seq (.keep [4]) <|
 .ret
theorem c81 : Tryd.f81.body.map (fun c => ((compile Tryd.prog kp81 [] kp81 c).map (·.1), fits Tryd.f81.ntmps c)) = some (some s81, true) := by kernel_rfl
theorem r81 : Tryd.f81.results.toList = [.tmp 4] := by kernel_rfl
end Go.SX.G
