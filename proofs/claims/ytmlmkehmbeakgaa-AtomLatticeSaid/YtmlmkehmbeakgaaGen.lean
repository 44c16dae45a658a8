/- The compiled texts of the functions that are walked here, each checked against the loaded program; facts on its types. Printed by a program of this session. -/
import Derived.Test.YtmlmkehmbeakgaaSxSimp
import Derived.Test.YtmlmkehmbeakgaaProg
set_option linter.unusedVariables false
namespace Go.SX.G
open Go Go.SX Go.Proofs
theorem mixed : Try.prog.follows .mixedOrders = true := by kernel_rfl
theorem by3 : byP Try.prog 3 = some 8 := by kernel_rfl
theorem sh3 : shP Try.prog 3 = some .one := by kernel_rfl
theorem sl28 : slE Try.prog 28 = some (3, 1) := by kernel_rfl
theorem sz3 : szP Try.prog 3 = some 1 := by kernel_rfl
theorem ze3 : zeroP Try.prog 3 = some (.int .i64 0) := by kernel_rfl
-- marionette/marionettelaw09.AtomLattice
abbrev kp4 : List Nat := [6]
def s4 : SC :=
 .seq (.ops [⟨some 6, .assign (.const (.bool false)), false, none⟩]) <|
 .seq (.keep [0, 1, 2]) <|
 .seq (.ops [⟨some 7, .assign (.const (.int .i64 0)), false, none⟩]) <|
 .seq (.keep [0, 1, 2, 7]) <|
 .seq (.ops [⟨some 8, .assign (.const (.int .u64 4294967295)), false, none⟩]) <|
 .seq (.keep [0, 1, 2, 7, 8]) <|
 .seq (.seq (.ops [⟨some 27, .move (.tmp 2), false, none⟩]) <|
 .seq (.keep [0, 1, 7, 8, 27]) <|
 .cond (.tmp 27) (.seq (.ops [⟨some 7, .assign (.const (.int .i64 11)), false, none⟩]) <|
 .seq (.keep [0, 1, 7]) <|
 .ops [⟨some 8, .assign (.const (.int .u64 18446744073709551615)), false, none⟩]) <|
 .skip) <|
 .seq (.keep [0, 1, 7, 8]) <|
 .seq (.ops [⟨some 28, .buildSlice 28 6 #[(0, (.const (.int .i64 70))), (1, (.const (.int .i64 71))), (2, (.const (.int .i64 72))), (3, (.const (.int .i64 73))), (4, (.const (.int .i64 68))), (5, (.const (.int .i64 69)))], true, none⟩,
  ⟨some 9, .assign (.tmp 28), false, none⟩]) <|
 .seq (.keep [0, 1, 7, 8, 9]) <|
 .seq (.seq (.ops [⟨some 10, .assign (.const (.int .i64 0)), false, none⟩]) <|
 .seq (.keep [0, 1, 7, 8, 9, 10]) <|
 .block 0 <| .loop <| .seq (.seq (.seq (.ops [⟨some 29, .move (.tmp 10), false, none⟩,
  ⟨some 30, .binOp .lss 3 (.tmp 29) (.const (.int .i64 6)) 3, false, none⟩]) <|
 .seq (.keep [0, 1, 7, 8, 9, 10, 30]) <|
 .cond (.tmp 30) (.skip) <|
 .exit 0) <|
 .seq (.keep [0, 1, 7, 8, 9, 10]) <|
 .seq (.block 1 <| .seq (.ops [⟨some 34, .move (.tmp 9), false, none⟩,
  ⟨some 35, .move (.tmp 10), false, none⟩,
  ⟨some 36, .indexAddr 28 (.tmp 34) (.tmp 35), false, none⟩,
  ⟨some 37, .load 3 (.tmp 36), false, none⟩,
  ⟨some 38, .move (.tmp 7), false, none⟩,
  ⟨some 39, .binOp .add 3 (.tmp 37) (.tmp 38) 3, false, none⟩,
  ⟨some 40, .move (.tmp 0), false, none⟩,
  ⟨some 41, .move (.tmp 1), false, none⟩,
  ⟨some 42, .call ⟨.value (.func 11), #[(.tmp 39), (.tmp 40), (.tmp 41)], #[3, 22, 22]⟩, true, none⟩,
  ⟨some 33, .move (.tmp 42), false, none⟩,
  ⟨some 43, .extract (.tmp 33) 0, false, none⟩,
  ⟨some 44, .extract (.tmp 33) 1, false, none⟩,
  ⟨some 11, .assign (.tmp 43), false, none⟩,
  ⟨some 12, .assign (.tmp 44), false, none⟩]) <|
 .seq (.keep [0, 1, 7, 8, 9, 10, 11]) <|
 .seq (.ops [⟨some 46, .move (.tmp 9), false, none⟩,
  ⟨some 47, .move (.tmp 10), false, none⟩,
  ⟨some 48, .indexAddr 28 (.tmp 46) (.tmp 47), false, none⟩,
  ⟨some 49, .load 3 (.tmp 48), false, none⟩,
  ⟨some 50, .move (.tmp 7), false, none⟩,
  ⟨some 51, .binOp .add 3 (.tmp 49) (.tmp 50) 3, false, none⟩,
  ⟨some 52, .move (.tmp 1), false, none⟩,
  ⟨some 53, .move (.tmp 0), false, none⟩,
  ⟨some 54, .call ⟨.value (.func 11), #[(.tmp 51), (.tmp 52), (.tmp 53)], #[3, 22, 22]⟩, true, none⟩,
  ⟨some 45, .move (.tmp 54), false, none⟩,
  ⟨some 55, .extract (.tmp 45) 0, false, none⟩,
  ⟨some 56, .extract (.tmp 45) 1, false, none⟩,
  ⟨some 13, .assign (.tmp 55), false, none⟩,
  ⟨some 14, .assign (.tmp 56), false, none⟩]) <|
 .seq (.keep [0, 1, 7, 8, 9, 10, 11, 13]) <|
 .seq (.ops [⟨some 58, .move (.tmp 9), false, none⟩,
  ⟨some 59, .move (.tmp 10), false, none⟩,
  ⟨some 60, .indexAddr 28 (.tmp 58) (.tmp 59), false, none⟩,
  ⟨some 61, .load 3 (.tmp 60), false, none⟩,
  ⟨some 62, .move (.tmp 7), false, none⟩,
  ⟨some 63, .binOp .add 3 (.tmp 61) (.tmp 62) 3, false, none⟩,
  ⟨some 64, .move (.tmp 11), false, none⟩,
  ⟨some 65, .move (.tmp 1), false, none⟩,
  ⟨some 66, .call ⟨.value (.func 11), #[(.tmp 63), (.tmp 64), (.tmp 65)], #[3, 22, 22]⟩, true, none⟩,
  ⟨some 57, .move (.tmp 66), false, none⟩,
  ⟨some 67, .extract (.tmp 57) 0, false, none⟩,
  ⟨some 68, .extract (.tmp 57) 1, false, none⟩,
  ⟨some 15, .assign (.tmp 67), false, none⟩,
  ⟨some 16, .assign (.tmp 68), false, none⟩]) <|
 .seq (.keep [0, 1, 7, 8, 9, 10, 11, 13, 15]) <|
 .seq (.ops [⟨some 69, .move (.tmp 11), false, none⟩,
  ⟨some 70, .move (.tmp 13), false, none⟩,
  ⟨some 71, .binOp .neq 22 (.tmp 69) (.tmp 70) 22, false, none⟩,
  ⟨some 72, .move (.tmp 71), false, none⟩,
  ⟨some 73, .move (.tmp 15), false, some (72, false)⟩,
  ⟨some 74, .move (.tmp 11), false, some (72, false)⟩,
  ⟨some 75, .binOp .neq 22 (.tmp 73) (.tmp 74) 22, false, some (72, false)⟩,
  ⟨some 76, .pick (.tmp 72) (.const (.bool true)) (.tmp 75), false, none⟩,
  ⟨some 77, .move (.tmp 76), false, none⟩,
  ⟨some 78, .move (.tmp 10), false, some (77, false)⟩,
  ⟨some 79, .binOp .lss 3 (.tmp 78) (.const (.int .i64 4)) 3, false, some (77, false)⟩,
  ⟨some 80, .move (.tmp 79), false, some (77, false)⟩,
  ⟨some 81, .move (.tmp 11), false, some (80, true)⟩,
  ⟨some 82, .move (.tmp 0), false, some (80, true)⟩,
  ⟨some 83, .move (.tmp 8), false, some (80, true)⟩,
  ⟨some 84, .binOp .and 22 (.tmp 82) (.tmp 83) 22, false, some (80, true)⟩,
  ⟨some 85, .binOp .neq 22 (.tmp 81) (.tmp 84) 22, false, some (80, true)⟩,
  ⟨some 86, .pick (.tmp 80) (.tmp 85) (.const (.bool false)), false, some (77, false)⟩,
  ⟨some 87, .move (.tmp 86), false, some (77, false)⟩,
  ⟨some 88, .move (.tmp 11), false, some (87, true)⟩,
  ⟨some 89, .move (.tmp 1), false, some (87, true)⟩,
  ⟨some 90, .move (.tmp 8), false, some (87, true)⟩,
  ⟨some 91, .binOp .and 22 (.tmp 89) (.tmp 90) 22, false, some (87, true)⟩,
  ⟨some 92, .binOp .neq 22 (.tmp 88) (.tmp 91) 22, false, some (87, true)⟩,
  ⟨some 93, .pick (.tmp 87) (.tmp 92) (.const (.bool false)), false, some (77, false)⟩,
  ⟨some 94, .pick (.tmp 77) (.const (.bool true)) (.tmp 93), false, none⟩]) <|
 .seq (.keep [0, 1, 7, 8, 9, 10, 94]) <|
 .cond (.tmp 94) (.seq (.ops [⟨some 6, .assign (.const (.bool false)), false, none⟩]) <|
 .seq (.keep [6]) <|
 .ret) <|
 .skip) <|
 .seq (.keep [0, 1, 7, 8, 9, 10]) <|
 .ops [⟨some 31, .move (.tmp 10), false, none⟩,
  ⟨some 32, .binOp .add 3 (.tmp 31) (.const (.int .i64 1)) 3, false, none⟩,
  ⟨some 10, .assign (.tmp 32), false, none⟩]) <|
 .keep [0, 1, 7, 8, 9, 10]) <|
 .seq (.keep [0, 1, 7, 8]) <|
 .seq (.ops [⟨some 96, .move (.tmp 7), false, none⟩,
  ⟨some 97, .binOp .add 3 (.const (.int .i64 66)) (.tmp 96) 3, false, none⟩,
  ⟨some 98, .move (.tmp 0), false, none⟩,
  ⟨some 99, .move (.tmp 1), false, none⟩,
  ⟨some 100, .call ⟨.value (.func 11), #[(.tmp 97), (.tmp 98), (.tmp 99)], #[3, 22, 22]⟩, true, none⟩,
  ⟨some 95, .move (.tmp 100), false, none⟩,
  ⟨some 101, .extract (.tmp 95) 0, false, none⟩,
  ⟨some 102, .extract (.tmp 95) 1, false, none⟩,
  ⟨some 17, .assign (.tmp 101), false, none⟩,
  ⟨some 18, .assign (.tmp 102), false, none⟩]) <|
 .seq (.keep [0, 1, 7, 8, 17]) <|
 .seq (.ops [⟨some 104, .move (.tmp 7), false, none⟩,
  ⟨some 105, .binOp .add 3 (.const (.int .i64 66)) (.tmp 104) 3, false, none⟩,
  ⟨some 106, .move (.tmp 17), false, none⟩,
  ⟨some 107, .move (.tmp 1), false, none⟩,
  ⟨some 108, .unOp .neg 22 (.tmp 107), false, none⟩,
  ⟨some 109, .call ⟨.value (.func 11), #[(.tmp 105), (.tmp 106), (.tmp 108)], #[3, 22, 22]⟩, true, none⟩,
  ⟨some 103, .move (.tmp 109), false, none⟩,
  ⟨some 110, .extract (.tmp 103) 0, false, none⟩,
  ⟨some 111, .extract (.tmp 103) 1, false, none⟩,
  ⟨some 19, .assign (.tmp 110), false, none⟩,
  ⟨some 20, .assign (.tmp 111), false, none⟩]) <|
 .seq (.keep [0, 1, 7, 8, 19]) <|
 .seq (.ops [⟨some 113, .move (.tmp 7), false, none⟩,
  ⟨some 114, .binOp .add 3 (.const (.int .i64 67)) (.tmp 113) 3, false, none⟩,
  ⟨some 115, .move (.tmp 0), false, none⟩,
  ⟨some 116, .move (.tmp 1), false, none⟩,
  ⟨some 117, .call ⟨.value (.func 11), #[(.tmp 114), (.tmp 115), (.tmp 116)], #[3, 22, 22]⟩, true, none⟩,
  ⟨some 112, .move (.tmp 117), false, none⟩,
  ⟨some 118, .extract (.tmp 112) 0, false, none⟩,
  ⟨some 119, .extract (.tmp 112) 1, false, none⟩,
  ⟨some 21, .assign (.tmp 118), false, none⟩,
  ⟨some 22, .assign (.tmp 119), false, none⟩]) <|
 .seq (.keep [0, 1, 7, 8, 19, 21]) <|
 .seq (.ops [⟨some 121, .move (.tmp 7), false, none⟩,
  ⟨some 122, .binOp .add 3 (.const (.int .i64 67)) (.tmp 121) 3, false, none⟩,
  ⟨some 123, .move (.tmp 21), false, none⟩,
  ⟨some 124, .move (.tmp 1), false, none⟩,
  ⟨some 125, .call ⟨.value (.func 11), #[(.tmp 122), (.tmp 123), (.tmp 124)], #[3, 22, 22]⟩, true, none⟩,
  ⟨some 120, .move (.tmp 125), false, none⟩,
  ⟨some 126, .extract (.tmp 120) 0, false, none⟩,
  ⟨some 127, .extract (.tmp 120) 1, false, none⟩,
  ⟨some 23, .assign (.tmp 126), false, none⟩,
  ⟨some 24, .assign (.tmp 127), false, none⟩]) <|
 .seq (.keep [0, 1, 7, 8, 19, 23]) <|
 .seq (.ops [⟨some 129, .move (.tmp 7), false, none⟩,
  ⟨some 130, .binOp .add 3 (.const (.int .i64 65)) (.tmp 129) 3, false, none⟩,
  ⟨some 131, .move (.tmp 0), false, none⟩,
  ⟨some 132, .move (.tmp 1), false, none⟩,
  ⟨some 133, .call ⟨.value (.func 11), #[(.tmp 130), (.tmp 131), (.tmp 132)], #[3, 22, 22]⟩, true, none⟩,
  ⟨some 128, .move (.tmp 133), false, none⟩,
  ⟨some 134, .extract (.tmp 128) 0, false, none⟩,
  ⟨some 135, .extract (.tmp 128) 1, false, none⟩,
  ⟨some 25, .assign (.tmp 134), false, none⟩,
  ⟨some 26, .assign (.tmp 135), false, none⟩]) <|
 .seq (.keep [0, 1, 8, 19, 23, 25]) <|
 .seq (.ops [⟨some 136, .call ⟨.value (.func 13), #[], #[]⟩, true, none⟩,
  ⟨some 137, .move (.tmp 136), false, none⟩,
  ⟨some 138, .move (.tmp 19), false, some (137, true)⟩,
  ⟨some 139, .move (.tmp 0), false, some (137, true)⟩,
  ⟨some 140, .move (.tmp 8), false, some (137, true)⟩,
  ⟨some 141, .binOp .and 22 (.tmp 139) (.tmp 140) 22, false, some (137, true)⟩,
  ⟨some 142, .binOp .eql 22 (.tmp 138) (.tmp 141) 22, false, some (137, true)⟩,
  ⟨some 143, .pick (.tmp 137) (.tmp 142) (.const (.bool false)), false, none⟩,
  ⟨some 144, .move (.tmp 143), false, none⟩,
  ⟨some 145, .move (.tmp 23), false, some (144, true)⟩,
  ⟨some 146, .move (.tmp 0), false, some (144, true)⟩,
  ⟨some 147, .move (.tmp 8), false, some (144, true)⟩,
  ⟨some 148, .binOp .and 22 (.tmp 146) (.tmp 147) 22, false, some (144, true)⟩,
  ⟨some 149, .binOp .eql 22 (.tmp 145) (.tmp 148) 22, false, some (144, true)⟩,
  ⟨some 150, .pick (.tmp 144) (.tmp 149) (.const (.bool false)), false, none⟩,
  ⟨some 151, .move (.tmp 150), false, none⟩,
  ⟨some 152, .move (.tmp 25), false, some (151, true)⟩,
  ⟨some 153, .move (.tmp 1), false, some (151, true)⟩,
  ⟨some 154, .move (.tmp 8), false, some (151, true)⟩,
  ⟨some 155, .binOp .and 22 (.tmp 153) (.tmp 154) 22, false, some (151, true)⟩,
  ⟨some 156, .binOp .eql 22 (.tmp 152) (.tmp 155) 22, false, some (151, true)⟩,
  ⟨some 157, .pick (.tmp 151) (.tmp 156) (.const (.bool false)), false, none⟩,
  ⟨some 6, .assign (.tmp 157), false, none⟩]) <|
 .seq (.keep [6]) <|
 .ret
theorem c4 : Try.f4.body.map (fun c => ((compile Try.prog kp4 [] kp4 c).map (·.1), fits Try.f4.ntmps c)) = some (some s4, true) := by kernel_rfl
theorem r4 : Try.f4.results.toList = [.tmp 6] := by kernel_rfl
-- marionette/atom.Do
abbrev kp11 : List Nat := [6, 7]
def s11 : SC :=
 .seq (.ops [⟨some 6, .assign (.const (.int .u64 0)), false, none⟩,
  ⟨some 7, .assign (.const (.bool false)), false, none⟩]) <|
 .seq (.keep [0, 1, 2]) <|
 .seq (.ops [⟨some 16, .move (.tmp 0), false, none⟩,
  ⟨some 17, .call ⟨.value (.func 14), #[(.tmp 16)], #[3]⟩, true, none⟩,
  ⟨some 8, .assign (.tmp 17), false, none⟩]) <|
 .seq (.keep [0, 1, 2, 8]) <|
 .seq (.seq (.ops [⟨some 18, .move (.tmp 8), false, none⟩,
  ⟨some 19, .binOp .eql 3 (.tmp 18) (.const (.int .i64 0)) 3, false, none⟩]) <|
 .seq (.keep [0, 1, 2, 8, 19]) <|
 .cond (.tmp 19) (.seq (.ops [⟨some 6, .assign (.const (.int .u64 0)), false, none⟩,
  ⟨some 7, .assign (.const (.bool false)), false, none⟩]) <|
 .seq (.keep [6, 7]) <|
 .ret) <|
 .skip) <|
 .seq (.keep [0, 1, 2, 8]) <|
 .seq (.ops [⟨some 20, .move (.tmp 8), false, none⟩,
  ⟨some 21, .binOp .mul 3 (.const (.int .i64 8)) (.tmp 20) 3, false, none⟩,
  ⟨some 22, .binOp .sub 3 (.const (.int .i64 64)) (.tmp 21) 3, false, none⟩,
  ⟨some 23, .binOp .shr 22 (.const (.int .u64 18446744073709551615)) (.tmp 22) 3, false, none⟩,
  ⟨some 9, .assign (.tmp 23), false, none⟩]) <|
 .seq (.keep [0, 1, 2, 8, 9]) <|
 .seq (.ops [⟨some 24, .move (.tmp 1), false, none⟩,
  ⟨some 25, .move (.tmp 9), false, none⟩,
  ⟨some 26, .binOp .and 22 (.tmp 24) (.tmp 25) 22, false, none⟩,
  ⟨some 27, .move (.tmp 2), false, none⟩,
  ⟨some 28, .move (.tmp 9), false, none⟩,
  ⟨some 29, .binOp .and 22 (.tmp 27) (.tmp 28) 22, false, none⟩,
  ⟨some 10, .assign (.tmp 26), false, none⟩,
  ⟨some 11, .assign (.tmp 29), false, none⟩]) <|
 .seq (.keep [0, 8, 9, 10, 11]) <|
 .seq (.ops [⟨some 30, .move (.tmp 10), false, none⟩,
  ⟨some 31, .move (.tmp 8), false, none⟩,
  ⟨some 32, .binOp .mul 3 (.const (.int .i64 8)) (.tmp 31) 3, false, none⟩,
  ⟨some 33, .call ⟨.value (.func 36), #[(.tmp 30), (.tmp 32)], #[22, 3]⟩, true, none⟩,
  ⟨some 34, .convert 22 2 (.tmp 33), false, none⟩,
  ⟨some 35, .move (.tmp 11), false, none⟩,
  ⟨some 36, .move (.tmp 8), false, none⟩,
  ⟨some 37, .binOp .mul 3 (.const (.int .i64 8)) (.tmp 36) 3, false, none⟩,
  ⟨some 38, .call ⟨.value (.func 36), #[(.tmp 35), (.tmp 37)], #[22, 3]⟩, true, none⟩,
  ⟨some 39, .convert 22 2 (.tmp 38), false, none⟩,
  ⟨some 12, .assign (.tmp 34), false, none⟩,
  ⟨some 13, .assign (.tmp 39), false, none⟩]) <|
 .seq (.keep [0, 9, 10, 11, 12, 13]) <|
 .seq (.ops [⟨some 40, .move (.tmp 10), false, none⟩,
  ⟨some 41, .move (.tmp 10), false, none⟩,
  ⟨some 14, .assign (.tmp 40), false, none⟩,
  ⟨some 15, .assign (.tmp 41), false, none⟩]) <|
 .seq (.keep [0, 9, 10, 11, 12, 13, 14, 15]) <|
 .seq (.seq (.ops [⟨some 42, .move (.tmp 13), false, none⟩,
  ⟨some 43, .move (.tmp 12), false, none⟩,
  ⟨some 44, .binOp .lss 2 (.tmp 42) (.tmp 43) 2, false, none⟩]) <|
 .seq (.keep [0, 9, 10, 11, 12, 13, 14, 15, 44]) <|
 .cond (.tmp 44) (.ops [⟨some 45, .move (.tmp 11), false, none⟩,
  ⟨some 14, .assign (.tmp 45), false, none⟩]) <|
 .skip) <|
 .seq (.keep [0, 9, 10, 11, 12, 13, 14, 15]) <|
 .seq (.seq (.ops [⟨some 46, .move (.tmp 13), false, none⟩,
  ⟨some 47, .move (.tmp 12), false, none⟩,
  ⟨some 48, .binOp .gtr 2 (.tmp 46) (.tmp 47) 2, false, none⟩]) <|
 .seq (.keep [0, 9, 10, 11, 14, 15, 48]) <|
 .cond (.tmp 48) (.ops [⟨some 49, .move (.tmp 11), false, none⟩,
  ⟨some 15, .assign (.tmp 49), false, none⟩]) <|
 .skip) <|
 .seq (.keep [0, 9, 10, 11, 14, 15]) <|
 .seq (.seq (.ops [⟨some 50, .move (.tmp 0), false, none⟩,
  ⟨some 51, .call ⟨.value (.func 37), #[(.tmp 50)], #[3]⟩, true, none⟩]) <|
 .seq (.keep [9, 10, 11, 14, 15, 51]) <|
 .block 0 <| .seq (.ops [⟨some 53, .binOp .eql 3 (.tmp 51) (.const (.int .i64 65)) 3, false, none⟩,
  ⟨some 52, .assign (.tmp 53), false, none⟩]) <|
 .seq (.keep [9, 10, 11, 14, 15, 51, 52]) <|
 .cond (.tmp 52) (.seq (.ops [⟨some 54, .move (.tmp 11), false, none⟩,
  ⟨some 6, .assign (.tmp 54), false, none⟩,
  ⟨some 7, .assign (.const (.bool true)), false, none⟩]) <|
 .seq (.keep [6, 7]) <|
 .ret) <|
 .seq (.ops [⟨some 56, .binOp .eql 3 (.tmp 51) (.const (.int .i64 66)) 3, false, none⟩,
  ⟨some 55, .assign (.tmp 56), false, none⟩]) <|
 .seq (.keep [9, 10, 11, 14, 15, 51, 55]) <|
 .cond (.tmp 55) (.seq (.ops [⟨some 57, .move (.tmp 10), false, none⟩,
  ⟨some 58, .move (.tmp 11), false, none⟩,
  ⟨some 59, .binOp .add 22 (.tmp 57) (.tmp 58) 22, false, none⟩,
  ⟨some 60, .move (.tmp 9), false, none⟩,
  ⟨some 61, .binOp .and 22 (.tmp 59) (.tmp 60) 22, false, none⟩,
  ⟨some 6, .assign (.tmp 61), false, none⟩,
  ⟨some 7, .assign (.const (.bool true)), false, none⟩]) <|
 .seq (.keep [6, 7]) <|
 .ret) <|
 .seq (.ops [⟨some 63, .binOp .eql 3 (.tmp 51) (.const (.int .i64 67)) 3, false, none⟩,
  ⟨some 62, .assign (.tmp 63), false, none⟩]) <|
 .seq (.keep [10, 11, 14, 15, 51, 62]) <|
 .cond (.tmp 62) (.seq (.ops [⟨some 64, .move (.tmp 10), false, none⟩,
  ⟨some 65, .move (.tmp 11), false, none⟩,
  ⟨some 66, .binOp .xor 22 (.tmp 64) (.tmp 65) 22, false, none⟩,
  ⟨some 6, .assign (.tmp 66), false, none⟩,
  ⟨some 7, .assign (.const (.bool true)), false, none⟩]) <|
 .seq (.keep [6, 7]) <|
 .ret) <|
 .seq (.ops [⟨some 68, .binOp .eql 3 (.tmp 51) (.const (.int .i64 68)) 3, false, none⟩,
  ⟨some 67, .assign (.tmp 68), false, none⟩]) <|
 .seq (.keep [10, 11, 14, 15, 51, 67]) <|
 .cond (.tmp 67) (.seq (.ops [⟨some 69, .move (.tmp 10), false, none⟩,
  ⟨some 70, .move (.tmp 11), false, none⟩,
  ⟨some 71, .binOp .and 22 (.tmp 69) (.tmp 70) 22, false, none⟩,
  ⟨some 6, .assign (.tmp 71), false, none⟩,
  ⟨some 7, .assign (.const (.bool true)), false, none⟩]) <|
 .seq (.keep [6, 7]) <|
 .ret) <|
 .seq (.ops [⟨some 73, .binOp .eql 3 (.tmp 51) (.const (.int .i64 69)) 3, false, none⟩,
  ⟨some 72, .assign (.tmp 73), false, none⟩]) <|
 .seq (.keep [10, 11, 14, 15, 51, 72]) <|
 .cond (.tmp 72) (.seq (.ops [⟨some 74, .move (.tmp 10), false, none⟩,
  ⟨some 75, .move (.tmp 11), false, none⟩,
  ⟨some 76, .binOp .or 22 (.tmp 74) (.tmp 75) 22, false, none⟩,
  ⟨some 6, .assign (.tmp 76), false, none⟩,
  ⟨some 7, .assign (.const (.bool true)), false, none⟩]) <|
 .seq (.keep [6, 7]) <|
 .ret) <|
 .seq (.ops [⟨some 78, .binOp .eql 3 (.tmp 51) (.const (.int .i64 70)) 3, false, none⟩,
  ⟨some 77, .assign (.tmp 78), false, none⟩]) <|
 .seq (.keep [10, 11, 14, 15, 51, 77]) <|
 .cond (.tmp 77) (.seq (.ops [⟨some 79, .move (.tmp 14), false, none⟩,
  ⟨some 6, .assign (.tmp 79), false, none⟩,
  ⟨some 7, .assign (.const (.bool true)), false, none⟩]) <|
 .seq (.keep [6, 7]) <|
 .ret) <|
 .seq (.ops [⟨some 81, .binOp .eql 3 (.tmp 51) (.const (.int .i64 71)) 3, false, none⟩,
  ⟨some 80, .assign (.tmp 81), false, none⟩]) <|
 .seq (.keep [10, 11, 15, 51, 80]) <|
 .cond (.tmp 80) (.seq (.ops [⟨some 82, .move (.tmp 15), false, none⟩,
  ⟨some 6, .assign (.tmp 82), false, none⟩,
  ⟨some 7, .assign (.const (.bool true)), false, none⟩]) <|
 .seq (.keep [6, 7]) <|
 .ret) <|
 .seq (.ops [⟨some 84, .binOp .eql 3 (.tmp 51) (.const (.int .i64 72)) 3, false, none⟩,
  ⟨some 83, .assign (.tmp 84), false, none⟩]) <|
 .seq (.keep [10, 11, 51, 83]) <|
 .cond (.tmp 83) (.seq (.ops [⟨some 85, .move (.tmp 10), false, none⟩,
  ⟨some 86, .move (.tmp 11), false, none⟩,
  ⟨some 87, .call ⟨.builtin .min, #[(.tmp 85), (.tmp 86)], #[22, 22]⟩, false, none⟩,
  ⟨some 6, .assign (.tmp 87), false, none⟩,
  ⟨some 7, .assign (.const (.bool true)), false, none⟩]) <|
 .seq (.keep [6, 7]) <|
 .ret) <|
 .seq (.ops [⟨some 89, .binOp .eql 3 (.tmp 51) (.const (.int .i64 73)) 3, false, none⟩,
  ⟨some 88, .assign (.tmp 89), false, none⟩]) <|
 .seq (.keep [10, 11, 88]) <|
 .cond (.tmp 88) (.seq (.ops [⟨some 90, .move (.tmp 10), false, none⟩,
  ⟨some 91, .move (.tmp 11), false, none⟩,
  ⟨some 92, .call ⟨.builtin .max, #[(.tmp 90), (.tmp 91)], #[22, 22]⟩, false, none⟩,
  ⟨some 6, .assign (.tmp 92), false, none⟩,
  ⟨some 7, .assign (.const (.bool true)), false, none⟩]) <|
 .seq (.keep [6, 7]) <|
 .ret) <|
 .skip) <|
 .seq (.keep []) <|
 .seq (.ops [⟨some 6, .assign (.const (.int .u64 0)), false, none⟩,
  ⟨some 7, .assign (.const (.bool false)), false, none⟩]) <|
 .seq (.keep [6, 7]) <|
 .ret
theorem c11 : Try.f11.body.map (fun c => ((compile Try.prog kp11 [] kp11 c).map (·.1), fits Try.f11.ntmps c)) = some (some s11, true) := by kernel_rfl
theorem r11 : Try.f11.results.toList = [.tmp 6, .tmp 7] := by kernel_rfl
-- marionette/marionettelaw09.answers
abbrev kp13 : List Nat := [0]
def s13 : SC :=
 .seq (.ops [⟨some 0, .assign (.const (.bool false)), false, none⟩]) <|
 .seq (.keep []) <|
 .seq (.ops [⟨some 4, .call ⟨.value (.func 11), #[(.const (.int .i64 66)), (.const (.int .u64 3)), (.const (.int .u64 4))], #[3, 22, 22]⟩, true, none⟩,
  ⟨some 3, .move (.tmp 4), false, none⟩,
  ⟨some 5, .extract (.tmp 3) 0, false, none⟩,
  ⟨some 6, .extract (.tmp 3) 1, false, none⟩,
  ⟨some 1, .assign (.tmp 5), false, none⟩,
  ⟨some 2, .assign (.tmp 6), false, none⟩]) <|
 .seq (.keep [1, 2]) <|
 .seq (.ops [⟨some 7, .move (.tmp 2), false, none⟩,
  ⟨some 8, .move (.tmp 7), false, none⟩,
  ⟨some 9, .move (.tmp 1), false, some (8, true)⟩,
  ⟨some 10, .binOp .eql 22 (.tmp 9) (.const (.int .u64 7)) 22, false, some (8, true)⟩,
  ⟨some 11, .pick (.tmp 8) (.tmp 10) (.const (.bool false)), false, none⟩,
  ⟨some 12, .move (.tmp 11), false, none⟩,
  ⟨some 13, .call ⟨.value (.func 14), #[(.const (.int .i64 74))], #[3]⟩, true, some (12, true)⟩,
  ⟨some 14, .binOp .eql 3 (.tmp 13) (.const (.int .i64 8)) 3, false, some (12, true)⟩,
  ⟨some 15, .pick (.tmp 12) (.tmp 14) (.const (.bool false)), false, none⟩,
  ⟨some 0, .assign (.tmp 15), false, none⟩]) <|
 .seq (.keep [0]) <|
 .ret
theorem c13 : Try.f13.body.map (fun c => ((compile Try.prog kp13 [] kp13 c).map (·.1), fits Try.f13.ntmps c)) = some (some s13, true) := by kernel_rfl
theorem r13 : Try.f13.results.toList = [.tmp 0] := by kernel_rfl
-- marionette/atom.Width
abbrev kp14 : List Nat := [2]
def s14 : SC :=
 .seq (.ops [⟨some 2, .assign (.const (.int .i64 0)), false, none⟩]) <|
 .seq (.keep [0]) <|
 .seq (.block 0 <| .seq (.ops [⟨some 4, .move (.tmp 0), false, none⟩,
  ⟨some 5, .binOp .geq 3 (.tmp 4) (.const (.int .i64 63)) 3, false, none⟩,
  ⟨some 6, .move (.tmp 5), false, none⟩,
  ⟨some 7, .move (.tmp 0), false, some (6, true)⟩,
  ⟨some 8, .binOp .leq 3 (.tmp 7) (.const (.int .i64 73)) 3, false, some (6, true)⟩,
  ⟨some 9, .pick (.tmp 6) (.tmp 8) (.const (.bool false)), false, none⟩,
  ⟨some 3, .assign (.tmp 9), false, none⟩]) <|
 .seq (.keep [0, 3]) <|
 .cond (.tmp 3) (.seq (.ops [⟨some 2, .assign (.const (.int .i64 4)), false, none⟩]) <|
 .seq (.keep [2]) <|
 .ret) <|
 .seq (.ops [⟨some 11, .move (.tmp 0), false, none⟩,
  ⟨some 12, .binOp .geq 3 (.tmp 11) (.const (.int .i64 74)) 3, false, none⟩,
  ⟨some 13, .move (.tmp 12), false, none⟩,
  ⟨some 14, .move (.tmp 0), false, some (13, true)⟩,
  ⟨some 15, .binOp .leq 3 (.tmp 14) (.const (.int .i64 84)) 3, false, some (13, true)⟩,
  ⟨some 16, .pick (.tmp 13) (.tmp 15) (.const (.bool false)), false, none⟩,
  ⟨some 10, .assign (.tmp 16), false, none⟩]) <|
 .seq (.keep [10]) <|
 .cond (.tmp 10) (.seq (.ops [⟨some 2, .assign (.const (.int .i64 8)), false, none⟩]) <|
 .seq (.keep [2]) <|
 .ret) <|
 .skip) <|
 .seq (.keep []) <|
 .seq (.ops [⟨some 2, .assign (.const (.int .i64 0)), false, none⟩]) <|
 .seq (.keep [2]) <|
 .ret
theorem c14 : Try.f14.body.map (fun c => ((compile Try.prog kp14 [] kp14 c).map (·.1), fits Try.f14.ntmps c)) = some (some s14, true) := by kernel_rfl
theorem r14 : Try.f14.results.toList = [.tmp 2] := by kernel_rfl
-- marionette/word.Sext
abbrev kp36 : List Nat := [4]
def s36 : SC :=
 .seq (.ops [⟨some 4, .assign (.const (.int .u64 0)), false, none⟩]) <|
 .seq (.keep [0, 1]) <|
 .seq (.seq (.ops [⟨some 5, .move (.tmp 1), false, none⟩,
  ⟨some 6, .binOp .lss 3 (.tmp 5) (.const (.int .i64 1)) 3, false, none⟩,
  ⟨some 7, .move (.tmp 6), false, none⟩,
  ⟨some 8, .move (.tmp 1), false, some (7, false)⟩,
  ⟨some 9, .binOp .gtr 3 (.tmp 8) (.const (.int .i64 64)) 3, false, some (7, false)⟩,
  ⟨some 10, .pick (.tmp 7) (.const (.bool true)) (.tmp 9), false, none⟩]) <|
 .seq (.keep [0, 1, 10]) <|
 .cond (.tmp 10) (.seq (.ops [⟨some 11, .move (.tmp 0), false, none⟩,
  ⟨some 4, .assign (.tmp 11), false, none⟩]) <|
 .seq (.keep [4]) <|
 .ret) <|
 .skip) <|
 .seq (.keep [0, 1]) <|
 .seq (.ops [⟨some 12, .move (.tmp 0), false, none⟩,
  ⟨some 13, .move (.tmp 1), false, none⟩,
  ⟨some 14, .binOp .sub 3 (.const (.int .i64 64)) (.tmp 13) 3, false, none⟩,
  ⟨some 15, .binOp .shl 22 (.tmp 12) (.tmp 14) 3, false, none⟩,
  ⟨some 16, .convert 22 2 (.tmp 15), false, none⟩,
  ⟨some 17, .move (.tmp 1), false, none⟩,
  ⟨some 18, .binOp .sub 3 (.const (.int .i64 64)) (.tmp 17) 3, false, none⟩,
  ⟨some 19, .binOp .shr 2 (.tmp 16) (.tmp 18) 3, false, none⟩,
  ⟨some 20, .convert 2 22 (.tmp 19), false, none⟩,
  ⟨some 4, .assign (.tmp 20), false, none⟩]) <|
 .seq (.keep [4]) <|
 .ret
theorem c36 : Try.f36.body.map (fun c => ((compile Try.prog kp36 [] kp36 c).map (·.1), fits Try.f36.ntmps c)) = some (some s36, true) := by kernel_rfl
theorem r36 : Try.f36.results.toList = [.tmp 4] := by kernel_rfl
-- marionette/atom.base
abbrev kp37 : List Nat := [2]
def s37 : SC :=
 .seq (.ops [⟨some 2, .assign (.const (.int .i64 0)), false, none⟩]) <|
 .seq (.keep [0]) <|
 .seq (.seq (.ops [⟨some 3, .move (.tmp 0), false, none⟩,
  ⟨some 4, .binOp .geq 3 (.tmp 3) (.const (.int .i64 74)) 3, false, none⟩]) <|
 .seq (.keep [0, 4]) <|
 .cond (.tmp 4) (.seq (.ops [⟨some 5, .move (.tmp 0), false, none⟩,
  ⟨some 6, .binOp .sub 3 (.tmp 5) (.const (.int .i64 74)) 3, false, none⟩,
  ⟨some 7, .binOp .add 3 (.tmp 6) (.const (.int .i64 63)) 3, false, none⟩,
  ⟨some 2, .assign (.tmp 7), false, none⟩]) <|
 .seq (.keep [2]) <|
 .ret) <|
 .skip) <|
 .seq (.keep [0]) <|
 .seq (.ops [⟨some 8, .move (.tmp 0), false, none⟩,
  ⟨some 2, .assign (.tmp 8), false, none⟩]) <|
 .seq (.keep [2]) <|
 .ret
theorem c37 : Try.f37.body.map (fun c => ((compile Try.prog kp37 [] kp37 c).map (·.1), fits Try.f37.ntmps c)) = some (some s37, true) := by kernel_rfl
theorem r37 : Try.f37.results.toList = [.tmp 2] := by kernel_rfl
end Go.SX.G
