/- The compiled texts of the functions that are walked here, each checked against the loaded program; facts on its types. Printed by a program of this session. -/
import Derived.Test.YtmlmkehmbeakgaaSxSimp
import Derived.Test.YtmlmkehmbeakgaaProg
set_option linter.unusedVariables false
namespace Go.SX.G
open Go Go.SX Go.Proofs
theorem mixed : Try.prog.follows .mixedOrders = true := by kernel_rfl
theorem by5 : byP Try.prog 5 = some 1 := by kernel_rfl
theorem sh5 : shP Try.prog 5 = some .one := by kernel_rfl
theorem sl50 : slE Try.prog 50 = some (5, 1) := by kernel_rfl
theorem sz5 : szP Try.prog 5 = some 1 := by kernel_rfl
theorem ze5 : zeroP Try.prog 5 = some (.int .u8 0) := by kernel_rfl
-- marionette/marionettelaw09.AtomDoes
abbrev kp3 : List Nat := [6]
def s3 : SC :=
 .seq (.ops [⟨some 6, .assign (.const (.bool false)), false, none⟩]) <|
 .seq (.keep [0, 1, 2]) <|
 .seq (.ops [⟨some 12, .move (.tmp 0), false, none⟩,
  ⟨some 13, .move (.tmp 1), false, none⟩,
  ⟨some 14, .move (.tmp 2), false, none⟩,
  ⟨some 15, .call ⟨.value (.func 11), #[(.tmp 12), (.tmp 13), (.tmp 14)], #[3, 22, 22]⟩, true, none⟩,
  ⟨some 11, .move (.tmp 15), false, none⟩,
  ⟨some 16, .extract (.tmp 11) 0, false, none⟩,
  ⟨some 17, .extract (.tmp 11) 1, false, none⟩,
  ⟨some 7, .assign (.tmp 16), false, none⟩,
  ⟨some 8, .assign (.tmp 17), false, none⟩]) <|
 .seq (.keep [0, 1, 2, 7, 8]) <|
 .seq (.ops [⟨some 19, .move (.tmp 0), false, none⟩,
  ⟨some 20, .move (.tmp 1), false, none⟩,
  ⟨some 21, .move (.tmp 2), false, none⟩,
  ⟨some 22, .call ⟨.value (.func 12), #[(.tmp 19), (.tmp 20), (.tmp 21)], #[3, 22, 22]⟩, true, none⟩,
  ⟨some 18, .move (.tmp 22), false, none⟩,
  ⟨some 23, .extract (.tmp 18) 0, false, none⟩,
  ⟨some 24, .extract (.tmp 18) 1, false, none⟩,
  ⟨some 9, .assign (.tmp 23), false, none⟩,
  ⟨some 10, .assign (.tmp 24), false, none⟩]) <|
 .seq (.keep [0, 7, 8, 9, 10]) <|
 .seq (.ops [⟨some 25, .call ⟨.value (.func 13), #[], #[]⟩, true, none⟩,
  ⟨some 26, .move (.tmp 25), false, none⟩,
  ⟨some 27, .move (.tmp 7), false, some (26, true)⟩,
  ⟨some 28, .move (.tmp 9), false, some (26, true)⟩,
  ⟨some 29, .binOp .eql 22 (.tmp 27) (.tmp 28) 22, false, some (26, true)⟩,
  ⟨some 30, .pick (.tmp 26) (.tmp 29) (.const (.bool false)), false, none⟩,
  ⟨some 31, .move (.tmp 30), false, none⟩,
  ⟨some 32, .move (.tmp 8), false, some (31, true)⟩,
  ⟨some 33, .move (.tmp 10), false, some (31, true)⟩,
  ⟨some 34, .binOp .eql 4 (.tmp 32) (.tmp 33) 4, false, some (31, true)⟩,
  ⟨some 35, .pick (.tmp 31) (.tmp 34) (.const (.bool false)), false, none⟩,
  ⟨some 36, .move (.tmp 35), false, none⟩,
  ⟨some 37, .move (.tmp 0), false, some (36, true)⟩,
  ⟨some 38, .call ⟨.value (.func 14), #[(.tmp 37)], #[3]⟩, true, some (36, true)⟩,
  ⟨some 39, .move (.tmp 0), false, some (36, true)⟩,
  ⟨some 40, .call ⟨.value (.func 15), #[(.tmp 39)], #[3]⟩, true, some (36, true)⟩,
  ⟨some 41, .binOp .eql 3 (.tmp 38) (.tmp 40) 3, false, some (36, true)⟩,
  ⟨some 42, .pick (.tmp 36) (.tmp 41) (.const (.bool false)), false, none⟩,
  ⟨some 6, .assign (.tmp 42), false, none⟩]) <|
 .seq (.keep [6]) <|
 .ret
theorem c3 : Try.f3.body.map (fun c => ((compile Try.prog kp3 [] kp3 c).map (·.1), fits Try.f3.ntmps c)) = some (some s3, true) := by kernel_rfl
theorem r3 : Try.f3.results.toList = [.tmp 6] := by kernel_rfl
-- marionette/atom.Do
abbrev kp11 : List Nat := [6, 7]
def s11 : SC :=
 .seq (.ops [⟨some 6, .assign (.const (.int .u64 0)), false, none⟩,
  ⟨some 7, .assign (.const (.bool false)), false, none⟩]) <|
 .seq (.keep [0, 1, 2]) <|
 .seq (.ops [⟨some 16, .move (.tmp 0), false, none⟩,
  ⟨some 17, .call ⟨.value (.func 14), #[(.tmp 16)], #[3]⟩, true, none⟩,
  ⟨some 8, .assign (.tmp 17), false, none⟩]) <|
 .seq (.keep [0, 1, 2, 8]) <|
 .seq (.seq (.ops [⟨some 18, .move (.tmp 8), false, none⟩,
  ⟨some 19, .binOp .eql 3 (.tmp 18) (.const (.int .i64 0)) 3, false, none⟩]) <|
 .seq (.keep [0, 1, 2, 8, 19]) <|
 .cond (.tmp 19) (.seq (.ops [⟨some 6, .assign (.const (.int .u64 0)), false, none⟩,
  ⟨some 7, .assign (.const (.bool false)), false, none⟩]) <|
 .seq (.keep [6, 7]) <|
 .ret) <|
 .skip) <|
 .seq (.keep [0, 1, 2, 8]) <|
 .seq (.ops [⟨some 20, .move (.tmp 8), false, none⟩,
  ⟨some 21, .binOp .mul 3 (.const (.int .i64 8)) (.tmp 20) 3, false, none⟩,
  ⟨some 22, .binOp .sub 3 (.const (.int .i64 64)) (.tmp 21) 3, false, none⟩,
  ⟨some 23, .binOp .shr 22 (.const (.int .u64 18446744073709551615)) (.tmp 22) 3, false, none⟩,
  ⟨some 9, .assign (.tmp 23), false, none⟩]) <|
 .seq (.keep [0, 1, 2, 8, 9]) <|
 .seq (.ops [⟨some 24, .move (.tmp 1), false, none⟩,
  ⟨some 25, .move (.tmp 9), false, none⟩,
  ⟨some 26, .binOp .and 22 (.tmp 24) (.tmp 25) 22, false, none⟩,
  ⟨some 27, .move (.tmp 2), false, none⟩,
  ⟨some 28, .move (.tmp 9), false, none⟩,
  ⟨some 29, .binOp .and 22 (.tmp 27) (.tmp 28) 22, false, none⟩,
  ⟨some 10, .assign (.tmp 26), false, none⟩,
  ⟨some 11, .assign (.tmp 29), false, none⟩]) <|
 .seq (.keep [0, 8, 9, 10, 11]) <|
 .seq (.ops [⟨some 30, .move (.tmp 10), false, none⟩,
  ⟨some 31, .move (.tmp 8), false, none⟩,
  ⟨some 32, .binOp .mul 3 (.const (.int .i64 8)) (.tmp 31) 3, false, none⟩,
  ⟨some 33, .call ⟨.value (.func 36), #[(.tmp 30), (.tmp 32)], #[22, 3]⟩, true, none⟩,
  ⟨some 34, .convert 22 2 (.tmp 33), false, none⟩,
  ⟨some 35, .move (.tmp 11), false, none⟩,
  ⟨some 36, .move (.tmp 8), false, none⟩,
  ⟨some 37, .binOp .mul 3 (.const (.int .i64 8)) (.tmp 36) 3, false, none⟩,
  ⟨some 38, .call ⟨.value (.func 36), #[(.tmp 35), (.tmp 37)], #[22, 3]⟩, true, none⟩,
  ⟨some 39, .convert 22 2 (.tmp 38), false, none⟩,
  ⟨some 12, .assign (.tmp 34), false, none⟩,
  ⟨some 13, .assign (.tmp 39), false, none⟩]) <|
 .seq (.keep [0, 9, 10, 11, 12, 13]) <|
 .seq (.ops [⟨some 40, .move (.tmp 10), false, none⟩,
  ⟨some 41, .move (.tmp 10), false, none⟩,
  ⟨some 14, .assign (.tmp 40), false, none⟩,
  ⟨some 15, .assign (.tmp 41), false, none⟩]) <|
 .seq (.keep [0, 9, 10, 11, 12, 13, 14, 15]) <|
 .seq (.seq (.ops [⟨some 42, .move (.tmp 13), false, none⟩,
  ⟨some 43, .move (.tmp 12), false, none⟩,
  ⟨some 44, .binOp .lss 2 (.tmp 42) (.tmp 43) 2, false, none⟩]) <|
 .seq (.keep [0, 9, 10, 11, 12, 13, 14, 15, 44]) <|
 .cond (.tmp 44) (.ops [⟨some 45, .move (.tmp 11), false, none⟩,
  ⟨some 14, .assign (.tmp 45), false, none⟩]) <|
 .skip) <|
 .seq (.keep [0, 9, 10, 11, 12, 13, 14, 15]) <|
 .seq (.seq (.ops [⟨some 46, .move (.tmp 13), false, none⟩,
  ⟨some 47, .move (.tmp 12), false, none⟩,
  ⟨some 48, .binOp .gtr 2 (.tmp 46) (.tmp 47) 2, false, none⟩]) <|
 .seq (.keep [0, 9, 10, 11, 14, 15, 48]) <|
 .cond (.tmp 48) (.ops [⟨some 49, .move (.tmp 11), false, none⟩,
  ⟨some 15, .assign (.tmp 49), false, none⟩]) <|
 .skip) <|
 .seq (.keep [0, 9, 10, 11, 14, 15]) <|
 .seq (.seq (.ops [⟨some 50, .move (.tmp 0), false, none⟩,
  ⟨some 51, .call ⟨.value (.func 37), #[(.tmp 50)], #[3]⟩, true, none⟩]) <|
 .seq (.keep [9, 10, 11, 14, 15, 51]) <|
 .block 0 <| .seq (.ops [⟨some 53, .binOp .eql 3 (.tmp 51) (.const (.int .i64 65)) 3, false, none⟩,
  ⟨some 52, .assign (.tmp 53), false, none⟩]) <|
 .seq (.keep [9, 10, 11, 14, 15, 51, 52]) <|
 .cond (.tmp 52) (.seq (.ops [⟨some 54, .move (.tmp 11), false, none⟩,
  ⟨some 6, .assign (.tmp 54), false, none⟩,
  ⟨some 7, .assign (.const (.bool true)), false, none⟩]) <|
 .seq (.keep [6, 7]) <|
 .ret) <|
 .seq (.ops [⟨some 56, .binOp .eql 3 (.tmp 51) (.const (.int .i64 66)) 3, false, none⟩,
  ⟨some 55, .assign (.tmp 56), false, none⟩]) <|
 .seq (.keep [9, 10, 11, 14, 15, 51, 55]) <|
 .cond (.tmp 55) (.seq (.ops [⟨some 57, .move (.tmp 10), false, none⟩,
  ⟨some 58, .move (.tmp 11), false, none⟩,
  ⟨some 59, .binOp .add 22 (.tmp 57) (.tmp 58) 22, false, none⟩,
  ⟨some 60, .move (.tmp 9), false, none⟩,
  ⟨some 61, .binOp .and 22 (.tmp 59) (.tmp 60) 22, false, none⟩,
  ⟨some 6, .assign (.tmp 61), false, none⟩,
  ⟨some 7, .assign (.const (.bool true)), false, none⟩]) <|
 .seq (.keep [6, 7]) <|
 .ret) <|
 .seq (.ops [⟨some 63, .binOp .eql 3 (.tmp 51) (.const (.int .i64 67)) 3, false, none⟩,
  ⟨some 62, .assign (.tmp 63), false, none⟩]) <|
 .seq (.keep [10, 11, 14, 15, 51, 62]) <|
 .cond (.tmp 62) (.seq (.ops [⟨some 64, .move (.tmp 10), false, none⟩,
  ⟨some 65, .move (.tmp 11), false, none⟩,
  ⟨some 66, .binOp .xor 22 (.tmp 64) (.tmp 65) 22, false, none⟩,
  ⟨some 6, .assign (.tmp 66), false, none⟩,
  ⟨some 7, .assign (.const (.bool true)), false, none⟩]) <|
 .seq (.keep [6, 7]) <|
 .ret) <|
 .seq (.ops [⟨some 68, .binOp .eql 3 (.tmp 51) (.const (.int .i64 68)) 3, false, none⟩,
  ⟨some 67, .assign (.tmp 68), false, none⟩]) <|
 .seq (.keep [10, 11, 14, 15, 51, 67]) <|
 .cond (.tmp 67) (.seq (.ops [⟨some 69, .move (.tmp 10), false, none⟩,
  ⟨some 70, .move (.tmp 11), false, none⟩,
  ⟨some 71, .binOp .and 22 (.tmp 69) (.tmp 70) 22, false, none⟩,
  ⟨some 6, .assign (.tmp 71), false, none⟩,
  ⟨some 7, .assign (.const (.bool true)), false, none⟩]) <|
 .seq (.keep [6, 7]) <|
 .ret) <|
 .seq (.ops [⟨some 73, .binOp .eql 3 (.tmp 51) (.const (.int .i64 69)) 3, false, none⟩,
  ⟨some 72, .assign (.tmp 73), false, none⟩]) <|
 .seq (.keep [10, 11, 14, 15, 51, 72]) <|
 .cond (.tmp 72) (.seq (.ops [⟨some 74, .move (.tmp 10), false, none⟩,
  ⟨some 75, .move (.tmp 11), false, none⟩,
  ⟨some 76, .binOp .or 22 (.tmp 74) (.tmp 75) 22, false, none⟩,
  ⟨some 6, .assign (.tmp 76), false, none⟩,
  ⟨some 7, .assign (.const (.bool true)), false, none⟩]) <|
 .seq (.keep [6, 7]) <|
 .ret) <|
 .seq (.ops [⟨some 78, .binOp .eql 3 (.tmp 51) (.const (.int .i64 70)) 3, false, none⟩,
  ⟨some 77, .assign (.tmp 78), false, none⟩]) <|
 .seq (.keep [10, 11, 14, 15, 51, 77]) <|
 .cond (.tmp 77) (.seq (.ops [⟨some 79, .move (.tmp 14), false, none⟩,
  ⟨some 6, .assign (.tmp 79), false, none⟩,
  ⟨some 7, .assign (.const (.bool true)), false, none⟩]) <|
 .seq (.keep [6, 7]) <|
 .ret) <|
 .seq (.ops [⟨some 81, .binOp .eql 3 (.tmp 51) (.const (.int .i64 71)) 3, false, none⟩,
  ⟨some 80, .assign (.tmp 81), false, none⟩]) <|
 .seq (.keep [10, 11, 15, 51, 80]) <|
 .cond (.tmp 80) (.seq (.ops [⟨some 82, .move (.tmp 15), false, none⟩,
  ⟨some 6, .assign (.tmp 82), false, none⟩,
  ⟨some 7, .assign (.const (.bool true)), false, none⟩]) <|
 .seq (.keep [6, 7]) <|
 .ret) <|
 .seq (.ops [⟨some 84, .binOp .eql 3 (.tmp 51) (.const (.int .i64 72)) 3, false, none⟩,
  ⟨some 83, .assign (.tmp 84), false, none⟩]) <|
 .seq (.keep [10, 11, 51, 83]) <|
 .cond (.tmp 83) (.seq (.ops [⟨some 85, .move (.tmp 10), false, none⟩,
  ⟨some 86, .move (.tmp 11), false, none⟩,
  ⟨some 87, .call ⟨.builtin .min, #[(.tmp 85), (.tmp 86)], #[22, 22]⟩, false, none⟩,
  ⟨some 6, .assign (.tmp 87), false, none⟩,
  ⟨some 7, .assign (.const (.bool true)), false, none⟩]) <|
 .seq (.keep [6, 7]) <|
 .ret) <|
 .seq (.ops [⟨some 89, .binOp .eql 3 (.tmp 51) (.const (.int .i64 73)) 3, false, none⟩,
  ⟨some 88, .assign (.tmp 89), false, none⟩]) <|
 .seq (.keep [10, 11, 88]) <|
 .cond (.tmp 88) (.seq (.ops [⟨some 90, .move (.tmp 10), false, none⟩,
  ⟨some 91, .move (.tmp 11), false, none⟩,
  ⟨some 92, .call ⟨.builtin .max, #[(.tmp 90), (.tmp 91)], #[22, 22]⟩, false, none⟩,
  ⟨some 6, .assign (.tmp 92), false, none⟩,
  ⟨some 7, .assign (.const (.bool true)), false, none⟩]) <|
 .seq (.keep [6, 7]) <|
 .ret) <|
 .skip) <|
 .seq (.keep []) <|
 .seq (.ops [⟨some 6, .assign (.const (.int .u64 0)), false, none⟩,
  ⟨some 7, .assign (.const (.bool false)), false, none⟩]) <|
 .seq (.keep [6, 7]) <|
 .ret
theorem c11 : Try.f11.body.map (fun c => ((compile Try.prog kp11 [] kp11 c).map (·.1), fits Try.f11.ntmps c)) = some (some s11, true) := by kernel_rfl
theorem r11 : Try.f11.results.toList = [.tmp 6, .tmp 7] := by kernel_rfl
-- marionette/marionetteref09.Amo
abbrev kp12 : List Nat := [6, 7]
def s12 : SC :=
 .seq (.ops [⟨some 6, .assign (.const (.int .u64 0)), false, none⟩,
  ⟨some 7, .assign (.const (.bool false)), false, none⟩]) <|
 .seq (.keep [0, 1, 2]) <|
 .seq (.ops [⟨some 14, .move (.tmp 0), false, none⟩,
  ⟨some 15, .call ⟨.value (.func 15), #[(.tmp 14)], #[3]⟩, true, none⟩,
  ⟨some 8, .assign (.tmp 15), false, none⟩]) <|
 .seq (.keep [0, 1, 2, 8]) <|
 .seq (.seq (.ops [⟨some 16, .move (.tmp 8), false, none⟩,
  ⟨some 17, .binOp .eql 3 (.tmp 16) (.const (.int .i64 0)) 3, false, none⟩]) <|
 .seq (.keep [0, 1, 2, 8, 17]) <|
 .cond (.tmp 17) (.seq (.ops [⟨some 6, .assign (.const (.int .u64 0)), false, none⟩,
  ⟨some 7, .assign (.const (.bool false)), false, none⟩]) <|
 .seq (.keep [6, 7]) <|
 .ret) <|
 .skip) <|
 .seq (.keep [0, 1, 2, 8]) <|
 .seq (.ops [⟨some 18, .move (.tmp 0), false, none⟩,
  ⟨some 19, .binOp .sub 3 (.tmp 18) (.const (.int .i64 63)) 3, false, none⟩,
  ⟨some 9, .assign (.tmp 19), false, none⟩]) <|
 .seq (.keep [0, 1, 2, 8, 9]) <|
 .seq (.seq (.ops [⟨some 20, .move (.tmp 8), false, none⟩,
  ⟨some 21, .binOp .eql 3 (.tmp 20) (.const (.int .i64 8)) 3, false, none⟩]) <|
 .seq (.keep [0, 1, 2, 8, 9, 21]) <|
 .cond (.tmp 21) (.ops [⟨some 22, .move (.tmp 0), false, none⟩,
  ⟨some 23, .binOp .sub 3 (.tmp 22) (.const (.int .i64 74)) 3, false, none⟩,
  ⟨some 9, .assign (.tmp 23), false, none⟩]) <|
 .skip) <|
 .seq (.keep [1, 2, 8, 9]) <|
 .seq (.ops [⟨some 24, .move (.tmp 1), false, none⟩,
  ⟨some 25, .move (.tmp 8), false, none⟩,
  ⟨some 26, .call ⟨.value (.func 38), #[(.const (.slice none 0 0)), (.tmp 24), (.tmp 25)], #[50, 22, 3]⟩, true, none⟩,
  ⟨some 27, .move (.tmp 8), false, none⟩,
  ⟨some 28, .call ⟨.value (.func 29), #[(.tmp 26), (.tmp 27)], #[50, 3]⟩, true, none⟩,
  ⟨some 10, .assign (.tmp 28), false, none⟩]) <|
 .seq (.keep [2, 8, 9, 10]) <|
 .seq (.ops [⟨some 29, .move (.tmp 2), false, none⟩,
  ⟨some 30, .move (.tmp 8), false, none⟩,
  ⟨some 31, .call ⟨.value (.func 38), #[(.const (.slice none 0 0)), (.tmp 29), (.tmp 30)], #[50, 22, 3]⟩, true, none⟩,
  ⟨some 32, .move (.tmp 8), false, none⟩,
  ⟨some 33, .call ⟨.value (.func 29), #[(.tmp 31), (.tmp 32)], #[50, 3]⟩, true, none⟩,
  ⟨some 11, .assign (.tmp 33), false, none⟩]) <|
 .seq (.keep [8, 9, 10, 11]) <|
 .seq (.ops [⟨some 34, .move (.tmp 10), false, none⟩,
  ⟨some 35, .move (.tmp 8), false, none⟩,
  ⟨some 36, .binOp .mul 3 (.const (.int .i64 8)) (.tmp 35) 3, false, none⟩,
  ⟨some 37, .call ⟨.value (.func 32), #[(.tmp 34), (.tmp 36)], #[22, 3]⟩, true, none⟩,
  ⟨some 38, .move (.tmp 11), false, none⟩,
  ⟨some 39, .move (.tmp 8), false, none⟩,
  ⟨some 40, .binOp .mul 3 (.const (.int .i64 8)) (.tmp 39) 3, false, none⟩,
  ⟨some 41, .call ⟨.value (.func 32), #[(.tmp 38), (.tmp 40)], #[22, 3]⟩, true, none⟩,
  ⟨some 42, .call ⟨.value (.func 39), #[(.tmp 37), (.tmp 41)], #[22, 22]⟩, true, none⟩,
  ⟨some 12, .assign (.tmp 42), false, none⟩]) <|
 .seq (.keep [8, 9, 10, 11, 12]) <|
 .seq (.ops [⟨some 43, .move (.tmp 11), false, none⟩,
  ⟨some 13, .assign (.tmp 43), false, none⟩]) <|
 .seq (.keep [8, 9, 10, 11, 12, 13]) <|
 .seq (.seq (.ops [⟨some 44, .move (.tmp 9), false, none⟩]) <|
 .seq (.keep [8, 10, 11, 12, 13, 44]) <|
 .block 0 <| .seq (.ops [⟨some 46, .binOp .eql 3 (.tmp 44) (.const (.int .i64 2)) 3, false, none⟩,
  ⟨some 45, .assign (.tmp 46), false, none⟩]) <|
 .seq (.keep [8, 10, 11, 12, 13, 44, 45]) <|
 .cond (.tmp 45) (.skip) <|
 .seq (.ops [⟨some 48, .binOp .eql 3 (.tmp 44) (.const (.int .i64 3)) 3, false, none⟩,
  ⟨some 47, .assign (.tmp 48), false, none⟩]) <|
 .seq (.keep [8, 10, 11, 12, 13, 44, 47]) <|
 .cond (.tmp 47) (.ops [⟨some 49, .move (.tmp 10), false, none⟩,
  ⟨some 50, .move (.tmp 11), false, none⟩,
  ⟨some 51, .binOp .add 22 (.tmp 49) (.tmp 50) 22, false, none⟩,
  ⟨some 13, .assign (.tmp 51), false, none⟩]) <|
 .seq (.ops [⟨some 53, .binOp .eql 3 (.tmp 44) (.const (.int .i64 4)) 3, false, none⟩,
  ⟨some 52, .assign (.tmp 53), false, none⟩]) <|
 .seq (.keep [8, 10, 11, 12, 13, 44, 52]) <|
 .cond (.tmp 52) (.ops [⟨some 54, .move (.tmp 10), false, none⟩,
  ⟨some 55, .move (.tmp 11), false, none⟩,
  ⟨some 56, .binOp .xor 22 (.tmp 54) (.tmp 55) 22, false, none⟩,
  ⟨some 13, .assign (.tmp 56), false, none⟩]) <|
 .seq (.ops [⟨some 58, .binOp .eql 3 (.tmp 44) (.const (.int .i64 5)) 3, false, none⟩,
  ⟨some 57, .assign (.tmp 58), false, none⟩]) <|
 .seq (.keep [8, 10, 11, 12, 13, 44, 57]) <|
 .cond (.tmp 57) (.ops [⟨some 59, .move (.tmp 10), false, none⟩,
  ⟨some 60, .move (.tmp 11), false, none⟩,
  ⟨some 61, .binOp .and 22 (.tmp 59) (.tmp 60) 22, false, none⟩,
  ⟨some 13, .assign (.tmp 61), false, none⟩]) <|
 .seq (.ops [⟨some 63, .binOp .eql 3 (.tmp 44) (.const (.int .i64 6)) 3, false, none⟩,
  ⟨some 62, .assign (.tmp 63), false, none⟩]) <|
 .seq (.keep [8, 10, 11, 12, 13, 44, 62]) <|
 .cond (.tmp 62) (.ops [⟨some 64, .move (.tmp 10), false, none⟩,
  ⟨some 65, .move (.tmp 11), false, none⟩,
  ⟨some 66, .binOp .or 22 (.tmp 64) (.tmp 65) 22, false, none⟩,
  ⟨some 13, .assign (.tmp 66), false, none⟩]) <|
 .seq (.ops [⟨some 68, .binOp .eql 3 (.tmp 44) (.const (.int .i64 7)) 3, false, none⟩,
  ⟨some 67, .assign (.tmp 68), false, none⟩]) <|
 .seq (.keep [8, 10, 11, 12, 13, 44, 67]) <|
 .cond (.tmp 67) (.seq (.ops [⟨some 69, .move (.tmp 12), false, none⟩]) <|
 .seq (.keep [8, 10, 13, 69]) <|
 .cond (.tmp 69) (.ops [⟨some 70, .move (.tmp 10), false, none⟩,
  ⟨some 13, .assign (.tmp 70), false, none⟩]) <|
 .skip) <|
 .seq (.ops [⟨some 72, .binOp .eql 3 (.tmp 44) (.const (.int .i64 8)) 3, false, none⟩,
  ⟨some 71, .assign (.tmp 72), false, none⟩]) <|
 .seq (.keep [8, 10, 11, 12, 13, 44, 71]) <|
 .cond (.tmp 71) (.seq (.ops [⟨some 73, .move (.tmp 12), false, none⟩,
  ⟨some 74, .unOp .not 4 (.tmp 73), false, none⟩]) <|
 .seq (.keep [8, 10, 13, 74]) <|
 .cond (.tmp 74) (.ops [⟨some 75, .move (.tmp 10), false, none⟩,
  ⟨some 13, .assign (.tmp 75), false, none⟩]) <|
 .skip) <|
 .seq (.ops [⟨some 77, .binOp .eql 3 (.tmp 44) (.const (.int .i64 9)) 3, false, none⟩,
  ⟨some 76, .assign (.tmp 77), false, none⟩]) <|
 .seq (.keep [8, 10, 11, 13, 44, 76]) <|
 .cond (.tmp 76) (.seq (.ops [⟨some 78, .move (.tmp 10), false, none⟩,
  ⟨some 79, .move (.tmp 11), false, none⟩,
  ⟨some 80, .binOp .lss 22 (.tmp 78) (.tmp 79) 22, false, none⟩]) <|
 .seq (.keep [8, 10, 13, 80]) <|
 .cond (.tmp 80) (.ops [⟨some 81, .move (.tmp 10), false, none⟩,
  ⟨some 13, .assign (.tmp 81), false, none⟩]) <|
 .skip) <|
 .seq (.ops [⟨some 83, .binOp .eql 3 (.tmp 44) (.const (.int .i64 10)) 3, false, none⟩,
  ⟨some 82, .assign (.tmp 83), false, none⟩]) <|
 .seq (.keep [8, 10, 11, 13, 82]) <|
 .cond (.tmp 82) (.seq (.ops [⟨some 84, .move (.tmp 10), false, none⟩,
  ⟨some 85, .move (.tmp 11), false, none⟩,
  ⟨some 86, .binOp .gtr 22 (.tmp 84) (.tmp 85) 22, false, none⟩]) <|
 .seq (.keep [8, 10, 13, 86]) <|
 .cond (.tmp 86) (.ops [⟨some 87, .move (.tmp 10), false, none⟩,
  ⟨some 13, .assign (.tmp 87), false, none⟩]) <|
 .skip) <|
 .seq (.ops [⟨some 6, .assign (.const (.int .u64 0)), false, none⟩,
  ⟨some 7, .assign (.const (.bool false)), false, none⟩]) <|
 .seq (.keep [6, 7]) <|
 .ret) <|
 .seq (.keep [8, 13]) <|
 .seq (.ops [⟨some 88, .move (.tmp 13), false, none⟩,
  ⟨some 89, .move (.tmp 8), false, none⟩,
  ⟨some 90, .call ⟨.value (.func 38), #[(.const (.slice none 0 0)), (.tmp 88), (.tmp 89)], #[50, 22, 3]⟩, true, none⟩,
  ⟨some 91, .move (.tmp 8), false, none⟩,
  ⟨some 92, .call ⟨.value (.func 29), #[(.tmp 90), (.tmp 91)], #[50, 3]⟩, true, none⟩,
  ⟨some 6, .assign (.tmp 92), false, none⟩,
  ⟨some 7, .assign (.const (.bool true)), false, none⟩]) <|
 .seq (.keep [6, 7]) <|
 .ret
theorem c12 : Try.f12.body.map (fun c => ((compile Try.prog kp12 [] kp12 c).map (·.1), fits Try.f12.ntmps c)) = some (some s12, true) := by kernel_rfl
theorem r12 : Try.f12.results.toList = [.tmp 6, .tmp 7] := by kernel_rfl
-- marionette/marionettelaw09.answers
abbrev kp13 : List Nat := [0]
def s13 : SC :=
 .seq (.ops [⟨some 0, .assign (.const (.bool false)), false, none⟩]) <|
 .seq (.keep []) <|
 .seq (.ops [⟨some 4, .call ⟨.value (.func 11), #[(.const (.int .i64 66)), (.const (.int .u64 3)), (.const (.int .u64 4))], #[3, 22, 22]⟩, true, none⟩,
  ⟨some 3, .move (.tmp 4), false, none⟩,
  ⟨some 5, .extract (.tmp 3) 0, false, none⟩,
  ⟨some 6, .extract (.tmp 3) 1, false, none⟩,
  ⟨some 1, .assign (.tmp 5), false, none⟩,
  ⟨some 2, .assign (.tmp 6), false, none⟩]) <|
 .seq (.keep [1, 2]) <|
 .seq (.ops [⟨some 7, .move (.tmp 2), false, none⟩,
  ⟨some 8, .move (.tmp 7), false, none⟩,
  ⟨some 9, .move (.tmp 1), false, some (8, true)⟩,
  ⟨some 10, .binOp .eql 22 (.tmp 9) (.const (.int .u64 7)) 22, false, some (8, true)⟩,
  ⟨some 11, .pick (.tmp 8) (.tmp 10) (.const (.bool false)), false, none⟩,
  ⟨some 12, .move (.tmp 11), false, none⟩,
  ⟨some 13, .call ⟨.value (.func 14), #[(.const (.int .i64 74))], #[3]⟩, true, some (12, true)⟩,
  ⟨some 14, .binOp .eql 3 (.tmp 13) (.const (.int .i64 8)) 3, false, some (12, true)⟩,
  ⟨some 15, .pick (.tmp 12) (.tmp 14) (.const (.bool false)), false, none⟩,
  ⟨some 0, .assign (.tmp 15), false, none⟩]) <|
 .seq (.keep [0]) <|
 .ret
theorem c13 : Try.f13.body.map (fun c => ((compile Try.prog kp13 [] kp13 c).map (·.1), fits Try.f13.ntmps c)) = some (some s13, true) := by kernel_rfl
theorem r13 : Try.f13.results.toList = [.tmp 0] := by kernel_rfl
-- marionette/atom.Width
abbrev kp14 : List Nat := [2]
def s14 : SC :=
 .seq (.ops [⟨some 2, .assign (.const (.int .i64 0)), false, none⟩]) <|
 .seq (.keep [0]) <|
 .seq (.block 0 <| .seq (.ops [⟨some 4, .move (.tmp 0), false, none⟩,
  ⟨some 5, .binOp .geq 3 (.tmp 4) (.const (.int .i64 63)) 3, false, none⟩,
  ⟨some 6, .move (.tmp 5), false, none⟩,
  ⟨some 7, .move (.tmp 0), false, some (6, true)⟩,
  ⟨some 8, .binOp .leq 3 (.tmp 7) (.const (.int .i64 73)) 3, false, some (6, true)⟩,
  ⟨some 9, .pick (.tmp 6) (.tmp 8) (.const (.bool false)), false, none⟩,
  ⟨some 3, .assign (.tmp 9), false, none⟩]) <|
 .seq (.keep [0, 3]) <|
 .cond (.tmp 3) (.seq (.ops [⟨some 2, .assign (.const (.int .i64 4)), false, none⟩]) <|
 .seq (.keep [2]) <|
 .ret) <|
 .seq (.ops [⟨some 11, .move (.tmp 0), false, none⟩,
  ⟨some 12, .binOp .geq 3 (.tmp 11) (.const (.int .i64 74)) 3, false, none⟩,
  ⟨some 13, .move (.tmp 12), false, none⟩,
  ⟨some 14, .move (.tmp 0), false, some (13, true)⟩,
  ⟨some 15, .binOp .leq 3 (.tmp 14) (.const (.int .i64 84)) 3, false, some (13, true)⟩,
  ⟨some 16, .pick (.tmp 13) (.tmp 15) (.const (.bool false)), false, none⟩,
  ⟨some 10, .assign (.tmp 16), false, none⟩]) <|
 .seq (.keep [10]) <|
 .cond (.tmp 10) (.seq (.ops [⟨some 2, .assign (.const (.int .i64 8)), false, none⟩]) <|
 .seq (.keep [2]) <|
 .ret) <|
 .skip) <|
 .seq (.keep []) <|
 .seq (.ops [⟨some 2, .assign (.const (.int .i64 0)), false, none⟩]) <|
 .seq (.keep [2]) <|
 .ret
theorem c14 : Try.f14.body.map (fun c => ((compile Try.prog kp14 [] kp14 c).map (·.1), fits Try.f14.ntmps c)) = some (some s14, true) := by kernel_rfl
theorem r14 : Try.f14.results.toList = [.tmp 2] := by kernel_rfl
-- marionette/marionetteref09.Width
abbrev kp15 : List Nat := [2]
def s15 : SC :=
 .seq (.ops [⟨some 2, .assign (.const (.int .i64 0)), false, none⟩]) <|
 .seq (.keep [0]) <|
 .seq (.seq (.ops [⟨some 3, .move (.tmp 0), false, none⟩,
  ⟨some 4, .binOp .geq 3 (.tmp 3) (.const (.int .i64 63)) 3, false, none⟩,
  ⟨some 5, .move (.tmp 4), false, none⟩,
  ⟨some 6, .move (.tmp 0), false, some (5, true)⟩,
  ⟨some 7, .binOp .leq 3 (.tmp 6) (.const (.int .i64 73)) 3, false, some (5, true)⟩,
  ⟨some 8, .pick (.tmp 5) (.tmp 7) (.const (.bool false)), false, none⟩]) <|
 .seq (.keep [0, 8]) <|
 .cond (.tmp 8) (.seq (.ops [⟨some 2, .assign (.const (.int .i64 4)), false, none⟩]) <|
 .seq (.keep [2]) <|
 .ret) <|
 .skip) <|
 .seq (.keep [0]) <|
 .seq (.seq (.ops [⟨some 9, .move (.tmp 0), false, none⟩,
  ⟨some 10, .binOp .geq 3 (.tmp 9) (.const (.int .i64 74)) 3, false, none⟩,
  ⟨some 11, .move (.tmp 10), false, none⟩,
  ⟨some 12, .move (.tmp 0), false, some (11, true)⟩,
  ⟨some 13, .binOp .leq 3 (.tmp 12) (.const (.int .i64 84)) 3, false, some (11, true)⟩,
  ⟨some 14, .pick (.tmp 11) (.tmp 13) (.const (.bool false)), false, none⟩]) <|
 .seq (.keep [14]) <|
 .cond (.tmp 14) (.seq (.ops [⟨some 2, .assign (.const (.int .i64 8)), false, none⟩]) <|
 .seq (.keep [2]) <|
 .ret) <|
 .skip) <|
 .seq (.keep []) <|
 .seq (.ops [⟨some 2, .assign (.const (.int .i64 0)), false, none⟩]) <|
 .seq (.keep [2]) <|
 .ret
theorem c15 : Try.f15.body.map (fun c => ((compile Try.prog kp15 [] kp15 c).map (·.1), fits Try.f15.ntmps c)) = some (some s15, true) := by kernel_rfl
theorem r15 : Try.f15.results.toList = [.tmp 2] := by kernel_rfl
-- marionette/marionetteref01.Get
abbrev kp29 : List Nat := [4]
def s29 : SC :=
 .seq (.ops [⟨some 4, .assign (.const (.int .u64 0)), false, none⟩]) <|
 .seq (.keep [0, 1]) <|
 .seq (.ops [⟨some 5, .assign (.const (.int .u64 0)), false, none⟩]) <|
 .seq (.keep [0, 1, 5]) <|
 .seq (.seq (.ops [⟨some 7, .move (.tmp 1), false, none⟩,
  ⟨some 8, .binOp .lss 3 (.tmp 7) (.const (.int .i64 1)) 3, false, none⟩,
  ⟨some 9, .move (.tmp 8), false, none⟩,
  ⟨some 10, .move (.tmp 1), false, some (9, false)⟩,
  ⟨some 11, .binOp .gtr 3 (.tmp 10) (.const (.int .i64 8)) 3, false, some (9, false)⟩,
  ⟨some 12, .pick (.tmp 9) (.const (.bool true)) (.tmp 11), false, none⟩]) <|
 .seq (.keep [0, 1, 5, 12]) <|
 .cond (.tmp 12) (.seq (.ops [⟨some 4, .assign (.const (.int .u64 0)), false, none⟩]) <|
 .seq (.keep [4]) <|
 .ret) <|
 .skip) <|
 .seq (.keep [0, 1, 5]) <|
 .seq (.seq (.ops [⟨some 6, .assign (.const (.int .i64 0)), false, none⟩]) <|
 .seq (.keep [0, 1, 5, 6]) <|
 .block 0 <| .loop <| .seq (.seq (.seq (.ops [⟨some 13, .move (.tmp 6), false, none⟩,
  ⟨some 14, .move (.tmp 1), false, none⟩,
  ⟨some 15, .binOp .lss 3 (.tmp 13) (.tmp 14) 3, false, none⟩,
  ⟨some 16, .move (.tmp 15), false, none⟩,
  ⟨some 17, .move (.tmp 6), false, some (16, true)⟩,
  ⟨some 18, .move (.tmp 0), false, some (16, true)⟩,
  ⟨some 19, .call ⟨.builtin .len, #[(.tmp 18)], #[50]⟩, false, some (16, true)⟩,
  ⟨some 20, .binOp .lss 3 (.tmp 17) (.tmp 19) 3, false, some (16, true)⟩,
  ⟨some 21, .pick (.tmp 16) (.tmp 20) (.const (.bool false)), false, none⟩]) <|
 .seq (.keep [0, 1, 5, 6, 21]) <|
 .cond (.tmp 21) (.skip) <|
 .exit 0) <|
 .seq (.keep [0, 1, 5, 6]) <|
 .seq (.block 1 <| .ops [⟨some 24, .move (.tmp 5), false, none⟩,
  ⟨some 25, .move (.tmp 0), false, none⟩,
  ⟨some 26, .move (.tmp 6), false, none⟩,
  ⟨some 27, .indexAddr 50 (.tmp 25) (.tmp 26), false, none⟩,
  ⟨some 28, .load 5 (.tmp 27), false, none⟩,
  ⟨some 29, .convert 5 22 (.tmp 28), false, none⟩,
  ⟨some 30, .move (.tmp 6), false, none⟩,
  ⟨some 31, .binOp .mul 3 (.const (.int .i64 8)) (.tmp 30) 3, false, none⟩,
  ⟨some 32, .convert 3 45 (.tmp 31), false, none⟩,
  ⟨some 33, .binOp .shl 22 (.tmp 29) (.tmp 32) 45, false, none⟩,
  ⟨some 34, .binOp .add 22 (.tmp 24) (.tmp 33) 22, false, none⟩,
  ⟨some 5, .assign (.tmp 34), false, none⟩]) <|
 .seq (.keep [0, 1, 5, 6]) <|
 .ops [⟨some 22, .move (.tmp 6), false, none⟩,
  ⟨some 23, .binOp .add 3 (.tmp 22) (.const (.int .i64 1)) 3, false, none⟩,
  ⟨some 6, .assign (.tmp 23), false, none⟩]) <|
 .keep [0, 1, 5, 6]) <|
 .seq (.keep [5]) <|
 .seq (.ops [⟨some 35, .move (.tmp 5), false, none⟩,
  ⟨some 4, .assign (.tmp 35), false, none⟩]) <|
 .seq (.keep [4]) <|
 .ret
theorem c29 : Try.f29.body.map (fun c => ((compile Try.prog kp29 [] kp29 c).map (·.1), fits Try.f29.ntmps c)) = some (some s29, true) := by kernel_rfl
theorem r29 : Try.f29.results.toList = [.tmp 4] := by kernel_rfl
-- marionette/marionetteref01.Sext
abbrev kp32 : List Nat := [4]
def s32 : SC :=
 .seq (.ops [⟨some 4, .assign (.const (.int .u64 0)), false, none⟩]) <|
 .seq (.keep [0, 1]) <|
 .seq (.seq (.ops [⟨some 8, .move (.tmp 1), false, none⟩,
  ⟨some 9, .binOp .lss 3 (.tmp 8) (.const (.int .i64 1)) 3, false, none⟩,
  ⟨some 10, .move (.tmp 9), false, none⟩,
  ⟨some 11, .move (.tmp 1), false, some (10, false)⟩,
  ⟨some 12, .binOp .gtr 3 (.tmp 11) (.const (.int .i64 64)) 3, false, some (10, false)⟩,
  ⟨some 13, .pick (.tmp 10) (.const (.bool true)) (.tmp 12), false, none⟩]) <|
 .seq (.keep [0, 1, 13]) <|
 .cond (.tmp 13) (.seq (.ops [⟨some 14, .move (.tmp 0), false, none⟩,
  ⟨some 4, .assign (.tmp 14), false, none⟩]) <|
 .seq (.keep [4]) <|
 .ret) <|
 .skip) <|
 .seq (.keep [0, 1]) <|
 .seq (.ops [⟨some 5, .assign (.const (.int .u64 0)), false, none⟩]) <|
 .seq (.keep [0, 1, 5]) <|
 .seq (.seq (.ops [⟨some 6, .assign (.const (.int .i64 0)), false, none⟩]) <|
 .seq (.keep [0, 1, 5, 6]) <|
 .block 0 <| .loop <| .seq (.seq (.seq (.ops [⟨some 15, .move (.tmp 6), false, none⟩,
  ⟨some 16, .binOp .lss 3 (.tmp 15) (.const (.int .i64 64)) 3, false, none⟩]) <|
 .seq (.keep [0, 1, 5, 6, 16]) <|
 .cond (.tmp 16) (.skip) <|
 .exit 0) <|
 .seq (.keep [0, 1, 5, 6]) <|
 .seq (.block 1 <| .seq (.ops [⟨some 19, .move (.tmp 6), false, none⟩,
  ⟨some 7, .assign (.tmp 19), false, none⟩]) <|
 .seq (.keep [0, 1, 5, 6, 7]) <|
 .seq (.seq (.ops [⟨some 20, .move (.tmp 7), false, none⟩,
  ⟨some 21, .move (.tmp 1), false, none⟩,
  ⟨some 22, .binOp .sub 3 (.tmp 21) (.const (.int .i64 1)) 3, false, none⟩,
  ⟨some 23, .binOp .gtr 3 (.tmp 20) (.tmp 22) 3, false, none⟩]) <|
 .seq (.keep [0, 1, 5, 6, 7, 23]) <|
 .cond (.tmp 23) (.ops [⟨some 24, .move (.tmp 1), false, none⟩,
  ⟨some 25, .binOp .sub 3 (.tmp 24) (.const (.int .i64 1)) 3, false, none⟩,
  ⟨some 7, .assign (.tmp 25), false, none⟩]) <|
 .skip) <|
 .seq (.keep [0, 1, 5, 6, 7]) <|
 .ops [⟨some 26, .move (.tmp 5), false, none⟩,
  ⟨some 27, .move (.tmp 0), false, none⟩,
  ⟨some 28, .move (.tmp 7), false, none⟩,
  ⟨some 29, .call ⟨.value (.func 64), #[(.tmp 27), (.tmp 28)], #[22, 3]⟩, true, none⟩,
  ⟨some 30, .move (.tmp 6), false, none⟩,
  ⟨some 31, .convert 3 45 (.tmp 30), false, none⟩,
  ⟨some 32, .binOp .shl 22 (.tmp 29) (.tmp 31) 45, false, none⟩,
  ⟨some 33, .binOp .or 22 (.tmp 26) (.tmp 32) 22, false, none⟩,
  ⟨some 5, .assign (.tmp 33), false, none⟩]) <|
 .seq (.keep [0, 1, 5, 6]) <|
 .ops [⟨some 17, .move (.tmp 6), false, none⟩,
  ⟨some 18, .binOp .add 3 (.tmp 17) (.const (.int .i64 1)) 3, false, none⟩,
  ⟨some 6, .assign (.tmp 18), false, none⟩]) <|
 .keep [0, 1, 5, 6]) <|
 .seq (.keep [5]) <|
 .seq (.ops [⟨some 34, .move (.tmp 5), false, none⟩,
  ⟨some 4, .assign (.tmp 34), false, none⟩]) <|
 .seq (.keep [4]) <|
 .ret
theorem c32 : Try.f32.body.map (fun c => ((compile Try.prog kp32 [] kp32 c).map (·.1), fits Try.f32.ntmps c)) = some (some s32, true) := by kernel_rfl
theorem r32 : Try.f32.results.toList = [.tmp 4] := by kernel_rfl
-- marionette/word.Sext
abbrev kp36 : List Nat := [4]
def s36 : SC :=
 .seq (.ops [⟨some 4, .assign (.const (.int .u64 0)), false, none⟩]) <|
 .seq (.keep [0, 1]) <|
 .seq (.seq (.ops [⟨some 5, .move (.tmp 1), false, none⟩,
  ⟨some 6, .binOp .lss 3 (.tmp 5) (.const (.int .i64 1)) 3, false, none⟩,
  ⟨some 7, .move (.tmp 6), false, none⟩,
  ⟨some 8, .move (.tmp 1), false, some (7, false)⟩,
  ⟨some 9, .binOp .gtr 3 (.tmp 8) (.const (.int .i64 64)) 3, false, some (7, false)⟩,
  ⟨some 10, .pick (.tmp 7) (.const (.bool true)) (.tmp 9), false, none⟩]) <|
 .seq (.keep [0, 1, 10]) <|
 .cond (.tmp 10) (.seq (.ops [⟨some 11, .move (.tmp 0), false, none⟩,
  ⟨some 4, .assign (.tmp 11), false, none⟩]) <|
 .seq (.keep [4]) <|
 .ret) <|
 .skip) <|
 .seq (.keep [0, 1]) <|
 .seq (.ops [⟨some 12, .move (.tmp 0), false, none⟩,
  ⟨some 13, .move (.tmp 1), false, none⟩,
  ⟨some 14, .binOp .sub 3 (.const (.int .i64 64)) (.tmp 13) 3, false, none⟩,
  ⟨some 15, .binOp .shl 22 (.tmp 12) (.tmp 14) 3, false, none⟩,
  ⟨some 16, .convert 22 2 (.tmp 15), false, none⟩,
  ⟨some 17, .move (.tmp 1), false, none⟩,
  ⟨some 18, .binOp .sub 3 (.const (.int .i64 64)) (.tmp 17) 3, false, none⟩,
  ⟨some 19, .binOp .shr 2 (.tmp 16) (.tmp 18) 3, false, none⟩,
  ⟨some 20, .convert 2 22 (.tmp 19), false, none⟩,
  ⟨some 4, .assign (.tmp 20), false, none⟩]) <|
 .seq (.keep [4]) <|
 .ret
theorem c36 : Try.f36.body.map (fun c => ((compile Try.prog kp36 [] kp36 c).map (·.1), fits Try.f36.ntmps c)) = some (some s36, true) := by kernel_rfl
theorem r36 : Try.f36.results.toList = [.tmp 4] := by kernel_rfl
-- marionette/atom.base
abbrev kp37 : List Nat := [2]
def s37 : SC :=
 .seq (.ops [⟨some 2, .assign (.const (.int .i64 0)), false, none⟩]) <|
 .seq (.keep [0]) <|
 .seq (.seq (.ops [⟨some 3, .move (.tmp 0), false, none⟩,
  ⟨some 4, .binOp .geq 3 (.tmp 3) (.const (.int .i64 74)) 3, false, none⟩]) <|
 .seq (.keep [0, 4]) <|
 .cond (.tmp 4) (.seq (.ops [⟨some 5, .move (.tmp 0), false, none⟩,
  ⟨some 6, .binOp .sub 3 (.tmp 5) (.const (.int .i64 74)) 3, false, none⟩,
  ⟨some 7, .binOp .add 3 (.tmp 6) (.const (.int .i64 63)) 3, false, none⟩,
  ⟨some 2, .assign (.tmp 7), false, none⟩]) <|
 .seq (.keep [2]) <|
 .ret) <|
 .skip) <|
 .seq (.keep [0]) <|
 .seq (.ops [⟨some 8, .move (.tmp 0), false, none⟩,
  ⟨some 2, .assign (.tmp 8), false, none⟩]) <|
 .seq (.keep [2]) <|
 .ret
theorem c37 : Try.f37.body.map (fun c => ((compile Try.prog kp37 [] kp37 c).map (·.1), fits Try.f37.ntmps c)) = some (some s37, true) := by kernel_rfl
theorem r37 : Try.f37.results.toList = [.tmp 2] := by kernel_rfl
-- marionette/marionetteref01.Put
abbrev kp38 : List Nat := [6]
def s38 : SC :=
 .seq (.ops [⟨some 6, .assign (.const (.slice none 0 0)), false, none⟩]) <|
 .seq (.keep [0, 1, 2]) <|
 .seq (.ops [⟨some 9, .buildSlice 50 0 #[], true, none⟩,
  ⟨some 10, .move (.tmp 0), false, none⟩,
  ⟨some 11, .call ⟨.builtin .append, #[(.tmp 9), (.tmp 10)], #[50, 50]⟩, true, none⟩,
  ⟨some 7, .assign (.tmp 11), false, none⟩]) <|
 .seq (.keep [1, 2, 7]) <|
 .seq (.seq (.ops [⟨some 12, .move (.tmp 2), false, none⟩,
  ⟨some 13, .binOp .lss 3 (.tmp 12) (.const (.int .i64 1)) 3, false, none⟩,
  ⟨some 14, .move (.tmp 13), false, none⟩,
  ⟨some 15, .move (.tmp 2), false, some (14, false)⟩,
  ⟨some 16, .binOp .gtr 3 (.tmp 15) (.const (.int .i64 8)) 3, false, some (14, false)⟩,
  ⟨some 17, .pick (.tmp 14) (.const (.bool true)) (.tmp 16), false, none⟩]) <|
 .seq (.keep [1, 2, 7, 17]) <|
 .cond (.tmp 17) (.seq (.ops [⟨some 18, .move (.tmp 7), false, none⟩,
  ⟨some 6, .assign (.tmp 18), false, none⟩]) <|
 .seq (.keep [6]) <|
 .ret) <|
 .skip) <|
 .seq (.keep [1, 2, 7]) <|
 .seq (.seq (.ops [⟨some 8, .assign (.const (.int .i64 0)), false, none⟩]) <|
 .seq (.keep [1, 2, 7, 8]) <|
 .block 0 <| .loop <| .seq (.seq (.seq (.ops [⟨some 19, .move (.tmp 8), false, none⟩,
  ⟨some 20, .move (.tmp 2), false, none⟩,
  ⟨some 21, .binOp .lss 3 (.tmp 19) (.tmp 20) 3, false, none⟩]) <|
 .seq (.keep [1, 2, 7, 8, 21]) <|
 .cond (.tmp 21) (.skip) <|
 .exit 0) <|
 .seq (.keep [1, 2, 7, 8]) <|
 .seq (.block 1 <| .ops [⟨some 24, .move (.tmp 7), false, none⟩,
  ⟨some 25, .move (.tmp 1), false, none⟩,
  ⟨some 26, .move (.tmp 8), false, none⟩,
  ⟨some 27, .binOp .mul 3 (.const (.int .i64 8)) (.tmp 26) 3, false, none⟩,
  ⟨some 28, .convert 3 45 (.tmp 27), false, none⟩,
  ⟨some 29, .binOp .shr 22 (.tmp 25) (.tmp 28) 45, false, none⟩,
  ⟨some 30, .convert 22 5 (.tmp 29), false, none⟩,
  ⟨some 31, .buildSlice 50 1 #[(0, (.tmp 30))], true, none⟩,
  ⟨some 32, .call ⟨.builtin .append, #[(.tmp 24), (.tmp 31)], #[50, 50]⟩, true, none⟩,
  ⟨some 7, .assign (.tmp 32), false, none⟩]) <|
 .seq (.keep [1, 2, 7, 8]) <|
 .ops [⟨some 22, .move (.tmp 8), false, none⟩,
  ⟨some 23, .binOp .add 3 (.tmp 22) (.const (.int .i64 1)) 3, false, none⟩,
  ⟨some 8, .assign (.tmp 23), false, none⟩]) <|
 .keep [1, 2, 7, 8]) <|
 .seq (.keep [7]) <|
 .seq (.ops [⟨some 33, .move (.tmp 7), false, none⟩,
  ⟨some 6, .assign (.tmp 33), false, none⟩]) <|
 .seq (.keep [6]) <|
 .ret
theorem c38 : Try.f38.body.map (fun c => ((compile Try.prog kp38 [] kp38 c).map (·.1), fits Try.f38.ntmps c)) = some (some s38, true) := by kernel_rfl
theorem r38 : Try.f38.results.toList = [.tmp 6] := by kernel_rfl
-- marionette/marionetteref01.Less
abbrev kp39 : List Nat := [4]
def s39 : SC :=
 .seq (.ops [⟨some 4, .assign (.const (.bool false)), false, none⟩]) <|
 .seq (.keep [0, 1]) <|
 .seq (.seq (.ops [⟨some 5, .move (.tmp 0), false, none⟩,
  ⟨some 6, .call ⟨.value (.func 69), #[(.tmp 5)], #[22]⟩, true, none⟩,
  ⟨some 7, .move (.tmp 1), false, none⟩,
  ⟨some 8, .call ⟨.value (.func 69), #[(.tmp 7)], #[22]⟩, true, none⟩,
  ⟨some 9, .binOp .neq 4 (.tmp 6) (.tmp 8) 4, false, none⟩]) <|
 .seq (.keep [0, 1, 9]) <|
 .cond (.tmp 9) (.seq (.ops [⟨some 10, .move (.tmp 0), false, none⟩,
  ⟨some 11, .call ⟨.value (.func 69), #[(.tmp 10)], #[22]⟩, true, none⟩,
  ⟨some 4, .assign (.tmp 11), false, none⟩]) <|
 .seq (.keep [4]) <|
 .ret) <|
 .skip) <|
 .seq (.keep [0, 1]) <|
 .seq (.ops [⟨some 12, .move (.tmp 0), false, none⟩,
  ⟨some 13, .move (.tmp 1), false, none⟩,
  ⟨some 14, .binOp .lss 22 (.tmp 12) (.tmp 13) 22, false, none⟩,
  ⟨some 4, .assign (.tmp 14), false, none⟩]) <|
 .seq (.keep [4]) <|
 .ret
theorem c39 : Try.f39.body.map (fun c => ((compile Try.prog kp39 [] kp39 c).map (·.1), fits Try.f39.ntmps c)) = some (some s39, true) := by kernel_rfl
theorem r39 : Try.f39.results.toList = [.tmp 4] := by kernel_rfl
-- marionette/marionetteref01.bit
abbrev kp64 : List Nat := [4]
def s64 : SC :=
 .seq (.ops [⟨some 4, .assign (.const (.int .u64 0)), false, none⟩]) <|
 .seq (.keep [0, 1]) <|
 .seq (.ops [⟨some 5, .move (.tmp 0), false, none⟩,
  ⟨some 6, .move (.tmp 1), false, none⟩,
  ⟨some 7, .convert 3 45 (.tmp 6), false, none⟩,
  ⟨some 8, .binOp .shr 22 (.tmp 5) (.tmp 7) 45, false, none⟩,
  ⟨some 9, .binOp .rem 22 (.tmp 8) (.const (.int .u64 2)) 22, false, none⟩,
  ⟨some 4, .assign (.tmp 9), false, none⟩]) <|
 .seq (.keep [4]) <|
 .ret
theorem c64 : Try.f64.body.map (fun c => ((compile Try.prog kp64 [] kp64 c).map (·.1), fits Try.f64.ntmps c)) = some (some s64, true) := by kernel_rfl
theorem r64 : Try.f64.results.toList = [.tmp 4] := by kernel_rfl
-- marionette/marionetteref01.Minus
abbrev kp69 : List Nat := [2]
def s69 : SC :=
 .seq (.ops [⟨some 2, .assign (.const (.bool false)), false, none⟩]) <|
 .seq (.keep [0]) <|
 .seq (.ops [⟨some 3, .move (.tmp 0), false, none⟩,
  ⟨some 4, .call ⟨.value (.func 64), #[(.tmp 3), (.const (.int .i64 63))], #[22, 3]⟩, true, none⟩,
  ⟨some 5, .binOp .eql 22 (.tmp 4) (.const (.int .u64 1)) 22, false, none⟩,
  ⟨some 2, .assign (.tmp 5), false, none⟩]) <|
 .seq (.keep [2]) <|
 .ret
theorem c69 : Try.f69.body.map (fun c => ((compile Try.prog kp69 [] kp69 c).map (·.1), fits Try.f69.ntmps c)) = some (some s69, true) := by kernel_rfl
theorem r69 : Try.f69.results.toList = [.tmp 2] := by kernel_rfl
end Go.SX.G
