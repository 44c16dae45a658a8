/- The compiled texts of the functions that are walked here, each checked against the loaded program; facts on its types. Printed by a program of this session. -/
import Derived.Test.YteoiokeiddlchaaGreatGenA
import Derived.Test.YteoiokeiddlchaaGreatProg
set_option linter.unusedVariables false
namespace Go.SX.G
open Go Go.SX Go.Proofs
-- marionette/alu.Do
abbrev kp58 : List Nat := [6, 7]
def s58 : SC :=
 .seq (.ops [⟨some 6, .assign (.const (.int .u64 0)), false, none⟩,
  ⟨some 7, .assign (.const (.bool false)), false, none⟩]) <|
 .seq (.keep [0, 1, 2]) <|
 .seq (.seq (.ops [⟨some 17, .move (.tmp 0), false, none⟩,
  ⟨some 18, .move (.tmp 1), false, none⟩,
  ⟨some 19, .move (.tmp 2), false, none⟩,
  ⟨some 20, .call ⟨.value (.func 81), #[(.tmp 17), (.tmp 18), (.tmp 19)], #[3, 22, 22]⟩, true, none⟩,
  ⟨some 16, .move (.tmp 20), false, none⟩,
  ⟨some 21, .extract (.tmp 16) 0, false, none⟩,
  ⟨some 22, .extract (.tmp 16) 1, false, none⟩,
  ⟨some 8, .assign (.tmp 21), false, none⟩,
  ⟨some 9, .assign (.tmp 22), false, none⟩]) <|
 .seq (.keep [0, 1, 2, 8, 9]) <|
 .seq (.ops [⟨some 23, .move (.tmp 9), false, none⟩]) <|
 .seq (.keep [0, 1, 2, 8, 23]) <|
 .cond (.tmp 23) (.seq (.ops [⟨some 24, .move (.tmp 8), false, none⟩,
  ⟨some 6, .assign (.tmp 24), false, none⟩,
  ⟨some 7, .assign (.const (.bool true)), false, none⟩]) <|
 .seq (.keep [6, 7]) <|
 .ret) <|
 .skip) <|
 .seq (.keep [0, 1, 2]) <|
 .seq (.seq (.ops [⟨some 26, .move (.tmp 0), false, none⟩,
  ⟨some 27, .move (.tmp 1), false, none⟩,
  ⟨some 28, .move (.tmp 2), false, none⟩,
  ⟨some 29, .call ⟨.value (.func 82), #[(.tmp 26), (.tmp 27), (.tmp 28)], #[3, 22, 22]⟩, true, none⟩,
  ⟨some 25, .move (.tmp 29), false, none⟩,
  ⟨some 30, .extract (.tmp 25) 0, false, none⟩,
  ⟨some 31, .extract (.tmp 25) 1, false, none⟩,
  ⟨some 10, .assign (.tmp 30), false, none⟩,
  ⟨some 11, .assign (.tmp 31), false, none⟩]) <|
 .seq (.keep [0, 1, 2, 10, 11]) <|
 .seq (.ops [⟨some 32, .move (.tmp 11), false, none⟩]) <|
 .seq (.keep [0, 1, 2, 10, 32]) <|
 .cond (.tmp 32) (.seq (.ops [⟨some 33, .move (.tmp 10), false, none⟩,
  ⟨some 6, .assign (.tmp 33), false, none⟩,
  ⟨some 7, .assign (.const (.bool true)), false, none⟩]) <|
 .seq (.keep [6, 7]) <|
 .ret) <|
 .skip) <|
 .seq (.keep [0, 1, 2]) <|
 .seq (.seq (.ops [⟨some 35, .move (.tmp 0), false, none⟩,
  ⟨some 36, .move (.tmp 1), false, none⟩,
  ⟨some 37, .move (.tmp 2), false, none⟩,
  ⟨some 38, .call ⟨.value (.func 83), #[(.tmp 35), (.tmp 36), (.tmp 37)], #[3, 22, 22]⟩, true, none⟩,
  ⟨some 34, .move (.tmp 38), false, none⟩,
  ⟨some 39, .extract (.tmp 34) 0, false, none⟩,
  ⟨some 40, .extract (.tmp 34) 1, false, none⟩,
  ⟨some 12, .assign (.tmp 39), false, none⟩,
  ⟨some 13, .assign (.tmp 40), false, none⟩]) <|
 .seq (.keep [0, 1, 2, 12, 13]) <|
 .seq (.ops [⟨some 41, .move (.tmp 13), false, none⟩]) <|
 .seq (.keep [0, 1, 2, 12, 41]) <|
 .cond (.tmp 41) (.seq (.ops [⟨some 42, .move (.tmp 12), false, none⟩,
  ⟨some 6, .assign (.tmp 42), false, none⟩,
  ⟨some 7, .assign (.const (.bool true)), false, none⟩]) <|
 .seq (.keep [6, 7]) <|
 .ret) <|
 .skip) <|
 .seq (.keep [0, 1, 2]) <|
 .seq (.seq (.ops [⟨some 44, .move (.tmp 0), false, none⟩,
  ⟨some 45, .move (.tmp 1), false, none⟩,
  ⟨some 46, .move (.tmp 2), false, none⟩,
  ⟨some 47, .call ⟨.value (.func 84), #[(.tmp 44), (.tmp 45), (.tmp 46)], #[3, 22, 22]⟩, true, none⟩,
  ⟨some 43, .move (.tmp 47), false, none⟩,
  ⟨some 48, .extract (.tmp 43) 0, false, none⟩,
  ⟨some 49, .extract (.tmp 43) 1, false, none⟩,
  ⟨some 14, .assign (.tmp 48), false, none⟩,
  ⟨some 15, .assign (.tmp 49), false, none⟩]) <|
 .seq (.keep [0, 1, 2, 14, 15]) <|
 .seq (.ops [⟨some 50, .move (.tmp 15), false, none⟩]) <|
 .seq (.keep [0, 1, 2, 14, 50]) <|
 .cond (.tmp 50) (.seq (.ops [⟨some 51, .move (.tmp 14), false, none⟩,
  ⟨some 6, .assign (.tmp 51), false, none⟩,
  ⟨some 7, .assign (.const (.bool true)), false, none⟩]) <|
 .seq (.keep [6, 7]) <|
 .ret) <|
 .skip) <|
 .seq (.keep [0, 1, 2]) <|
 .seq (.ops [⟨some 52, .move (.tmp 0), false, none⟩,
  ⟨some 53, .move (.tmp 1), false, none⟩,
  ⟨some 54, .move (.tmp 2), false, none⟩,
  ⟨some 55, .call ⟨.value (.func 85), #[(.tmp 52), (.tmp 53), (.tmp 54)], #[3, 22, 22]⟩, true, none⟩,
  ⟨some 56, .extract (.tmp 55) 0, false, none⟩,
  ⟨some 57, .extract (.tmp 55) 1, false, none⟩,
  ⟨some 6, .assign (.tmp 56), false, none⟩,
  ⟨some 7, .assign (.tmp 57), false, none⟩]) <|
 .seq (.keep [6, 7]) <|
 .ret
theorem c58 : Tryz.f58.body.map (fun c => ((compile Tryz.prog kp58 [] kp58 c).map (·.1), fits Tryz.f58.ntmps c)) = some (some s58, true) := by kernel_rfl
theorem r58 : Tryz.f58.results.toList = [.tmp 6, .tmp 7] := by kernel_rfl
-- marionette/hart.second
abbrev kp59 : List Nat := [4]
def s59 : SC :=
 .seq (.ops [⟨some 3, .box 63 (.tmp 1), true, none⟩,
  ⟨some 4, .assign (.const (.int .u64 0)), false, none⟩]) <|
 .seq (.keep [0, 3]) <|
 .seq (.block 0 <| .seq (.ops [⟨some 6, .fieldAddr 63 (.tmp 3) 0, false, none⟩,
  ⟨some 7, .load 3 (.tmp 6), false, none⟩,
  ⟨some 8, .binOp .eql 3 (.tmp 7) (.const (.int .i64 1)) 3, false, none⟩,
  ⟨some 9, .move (.tmp 8), false, none⟩,
  ⟨some 10, .fieldAddr 63 (.tmp 3) 0, false, some (9, false)⟩,
  ⟨some 11, .load 3 (.tmp 10), false, some (9, false)⟩,
  ⟨some 12, .binOp .geq 3 (.tmp 11) (.const (.int .i64 22)) 3, false, some (9, false)⟩,
  ⟨some 13, .move (.tmp 12), false, some (9, false)⟩,
  ⟨some 14, .fieldAddr 63 (.tmp 3) 0, false, some (13, true)⟩,
  ⟨some 15, .load 3 (.tmp 14), false, some (13, true)⟩,
  ⟨some 16, .binOp .leq 3 (.tmp 15) (.const (.int .i64 30)) 3, false, some (13, true)⟩,
  ⟨some 17, .pick (.tmp 13) (.tmp 16) (.const (.bool false)), false, some (9, false)⟩,
  ⟨some 18, .pick (.tmp 9) (.const (.bool true)) (.tmp 17), false, none⟩,
  ⟨some 19, .move (.tmp 18), false, none⟩,
  ⟨some 20, .fieldAddr 63 (.tmp 3) 0, false, some (19, false)⟩,
  ⟨some 21, .load 3 (.tmp 20), false, some (19, false)⟩,
  ⟨some 22, .binOp .geq 3 (.tmp 21) (.const (.int .i64 41)) 3, false, some (19, false)⟩,
  ⟨some 23, .move (.tmp 22), false, some (19, false)⟩,
  ⟨some 24, .fieldAddr 63 (.tmp 3) 0, false, some (23, true)⟩,
  ⟨some 25, .load 3 (.tmp 24), false, some (23, true)⟩,
  ⟨some 26, .binOp .leq 3 (.tmp 25) (.const (.int .i64 44)) 3, false, some (23, true)⟩,
  ⟨some 27, .pick (.tmp 23) (.tmp 26) (.const (.bool false)), false, some (19, false)⟩,
  ⟨some 28, .pick (.tmp 19) (.const (.bool true)) (.tmp 27), false, none⟩,
  ⟨some 5, .assign (.tmp 28), false, none⟩]) <|
 .seq (.keep [0, 3, 5]) <|
 .cond (.tmp 5) (.seq (.ops [⟨some 29, .fieldAddr 63 (.tmp 3) 4, false, none⟩,
  ⟨some 30, .load 3 (.tmp 29), false, none⟩,
  ⟨some 31, .convert 3 22 (.tmp 30), false, none⟩,
  ⟨some 4, .assign (.tmp 31), false, none⟩]) <|
 .seq (.keep [4]) <|
 .ret) <|
 .skip) <|
 .seq (.keep [0, 3]) <|
 .seq (.seq (.ops [⟨some 32, .move (.tmp 0), false, none⟩]) <|
 .seq (.ops [⟨some 33, .fieldAddr 63 (.tmp 3) 3, false, none⟩]) <|
 .seq (.ops [⟨some 34, .load 3 (.tmp 33), false, none⟩]) <|
 .seq (.ops [⟨some 35, .nilCheck (.tmp 32), false, none⟩]) <|
 .seq (.ops [⟨some 36, .fieldAddr 27 (.tmp 35) 1, false, none⟩]) <|
 .seq (.ops [⟨some 37, .indexAddr 23 (.tmp 36) (.tmp 34), false, none⟩]) <|
 .seq (.ops [⟨some 38, .load 22 (.tmp 37), false, none⟩]) <|
 .seq (.ops [⟨some 4, .assign (.tmp 38), false, none⟩]) <|
 .skip) <|
 .seq (.keep [4]) <|
 .ret
theorem c59 : Tryz.f59.body.map (fun c => ((compile Tryz.prog kp59 [] kp59 c).map (·.1), fits Tryz.f59.ntmps c)) = some (some s59, true) := by kernel_rfl
theorem r59 : Tryz.f59.results.toList = [.tmp 4] := by kernel_rfl
-- marionette/region.span
abbrev kp61 : List Nat := [4]
def s61 : SC :=
 .seq (.ops [⟨some 4, .assign (.const (.bool false)), false, none⟩]) <|
 .seq (.keep [0, 1]) <|
 .seq (.ops [⟨some 5, .move (.tmp 0), false, none⟩,
  ⟨some 6, .binOp .rem 22 (.tmp 5) (.const (.int .u64 4096)) 22, false, none⟩,
  ⟨some 7, .binOp .eql 22 (.tmp 6) (.const (.int .u64 0)) 22, false, none⟩,
  ⟨some 8, .move (.tmp 7), false, none⟩,
  ⟨some 9, .move (.tmp 1), false, some (8, true)⟩,
  ⟨some 10, .binOp .rem 22 (.tmp 9) (.const (.int .u64 4096)) 22, false, some (8, true)⟩,
  ⟨some 11, .binOp .eql 22 (.tmp 10) (.const (.int .u64 0)) 22, false, some (8, true)⟩,
  ⟨some 12, .pick (.tmp 8) (.tmp 11) (.const (.bool false)), false, none⟩,
  ⟨some 13, .move (.tmp 12), false, none⟩,
  ⟨some 14, .move (.tmp 0), false, some (13, true)⟩,
  ⟨some 15, .move (.tmp 1), false, some (13, true)⟩,
  ⟨some 16, .binOp .lss 22 (.tmp 14) (.tmp 15) 22, false, some (13, true)⟩,
  ⟨some 17, .pick (.tmp 13) (.tmp 16) (.const (.bool false)), false, none⟩,
  ⟨some 18, .move (.tmp 17), false, none⟩,
  ⟨some 19, .move (.tmp 1), false, some (18, true)⟩,
  ⟨some 20, .binOp .leq 22 (.tmp 19) (.const (.int .u64 274877906944)) 22, false, some (18, true)⟩,
  ⟨some 21, .pick (.tmp 18) (.tmp 20) (.const (.bool false)), false, none⟩,
  ⟨some 4, .assign (.tmp 21), false, none⟩]) <|
 .seq (.keep [4]) <|
 .ret
theorem c61 : Tryz.f61.body.map (fun c => ((compile Tryz.prog kp61 [] kp61 c).map (·.1), fits Tryz.f61.ntmps c)) = some (some s61, true) := by kernel_rfl
theorem r61 : Tryz.f61.results.toList = [.tmp 4] := by kernel_rfl
-- slices.ContainsFunc[[]marionette/api.Region,marionette/api.Region]
abbrev kp62 : List Nat := [4]
def s62 : SC :=
 .seq (.ops [⟨some 4, .assign (.const (.bool false)), false, none⟩]) <|
 .seq (.keep [0, 1]) <|
 .seq (.ops [⟨some 5, .move (.tmp 0), false, none⟩,
  ⟨some 6, .move (.tmp 1), false, none⟩,
  ⟨some 7, .call ⟨.value (.func 45), #[(.tmp 5), (.tmp 6)], #[82, 112]⟩, true, none⟩,
  ⟨some 8, .binOp .geq 3 (.tmp 7) (.const (.int .i64 0)) 3, false, none⟩,
  ⟨some 4, .assign (.tmp 8), false, none⟩]) <|
 .seq (.keep [4]) <|
 .ret
theorem c62 : Tryz.f62.body.map (fun c => ((compile Tryz.prog kp62 [] kp62 c).map (·.1), fits Tryz.f62.ntmps c)) = some (some s62, true) := by kernel_rfl
theorem r62 : Tryz.f62.results.toList = [.tmp 4] := by kernel_rfl
-- (*marionette/region.List).Free$1
abbrev kp63 : List Nat := [4]
def s63 : SC :=
 .seq (.ops [⟨some 3, .box 85 (.tmp 0), true, none⟩,
  ⟨some 4, .assign (.const (.bool false)), false, none⟩]) <|
 .seq (.keep [1, 2, 3]) <|
 .seq (.ops [⟨some 5, .fieldAddr 85 (.tmp 3) 0, false, none⟩,
  ⟨some 6, .load 22 (.tmp 5), false, none⟩,
  ⟨some 7, .load 22 (.tmp 1), false, none⟩,
  ⟨some 8, .binOp .lss 22 (.tmp 6) (.tmp 7) 22, false, none⟩,
  ⟨some 9, .move (.tmp 8), false, none⟩,
  ⟨some 10, .fieldAddr 85 (.tmp 3) 1, false, some (9, true)⟩,
  ⟨some 11, .load 22 (.tmp 10), false, some (9, true)⟩,
  ⟨some 12, .load 22 (.tmp 2), false, some (9, true)⟩,
  ⟨some 13, .binOp .gtr 22 (.tmp 11) (.tmp 12) 22, false, some (9, true)⟩,
  ⟨some 14, .pick (.tmp 9) (.tmp 13) (.const (.bool false)), false, none⟩,
  ⟨some 4, .assign (.tmp 14), false, none⟩]) <|
 .seq (.keep [4]) <|
 .ret
theorem c63 : Tryz.f63.body.map (fun c => ((compile Tryz.prog kp63 [] kp63 c).map (·.1), fits Tryz.f63.ntmps c)) = some (some s63, true) := by kernel_rfl
theorem r63 : Tryz.f63.results.toList = [.tmp 4] := by kernel_rfl
-- slices.Clone[[]marionette/api.Region,marionette/api.Region]
abbrev kp64 : List Nat := [2]
def s64 : SC :=
 .seq (.ops [⟨some 2, .assign (.const (.slice none 0 0)), false, none⟩]) <|
 .seq (.keep [0]) <|
 .seq (.seq (.ops [⟨some 3, .move (.tmp 0), false, none⟩,
  ⟨some 4, .binOp .eql 82 (.tmp 3) (.const (.slice none 0 0)) 82, false, none⟩]) <|
 .seq (.keep [0, 4]) <|
 .cond (.tmp 4) (.seq (.ops [⟨some 2, .assign (.const (.slice none 0 0)), false, none⟩]) <|
 .seq (.keep [2]) <|
 .ret) <|
 .skip) <|
 .seq (.keep [0]) <|
 .seq (.ops [⟨some 5, .buildSlice 82 0 #[], true, none⟩,
  ⟨some 6, .move (.tmp 0), false, none⟩,
  ⟨some 7, .call ⟨.builtin .append, #[(.tmp 5), (.tmp 6)], #[82, 82]⟩, true, none⟩,
  ⟨some 2, .assign (.tmp 7), false, none⟩]) <|
 .seq (.keep [2]) <|
 .ret
theorem c64 : Tryz.f64.body.map (fun c => ((compile Tryz.prog kp64 [] kp64 c).map (·.1), fits Tryz.f64.ntmps c)) = some (some s64, true) := by kernel_rfl
theorem r64 : Tryz.f64.results.toList = [.tmp 2] := by kernel_rfl
-- marionette/region.prots
abbrev kp65 : List Nat := [2]
def s65 : SC :=
 .seq (.ops [⟨some 2, .assign (.const (.bool false)), false, none⟩]) <|
 .seq (.keep [0]) <|
 .seq (.ops [⟨some 3, .move (.tmp 0), false, none⟩,
  ⟨some 4, .binOp .geq 3 (.tmp 3) (.const (.int .i64 0)) 3, false, none⟩,
  ⟨some 5, .move (.tmp 4), false, none⟩,
  ⟨some 6, .move (.tmp 0), false, some (5, true)⟩,
  ⟨some 7, .binOp .leq 3 (.tmp 6) (.const (.int .i64 7)) 3, false, some (5, true)⟩,
  ⟨some 8, .pick (.tmp 5) (.tmp 7) (.const (.bool false)), false, none⟩,
  ⟨some 2, .assign (.tmp 8), false, none⟩]) <|
 .seq (.keep [2]) <|
 .ret
theorem c65 : Tryz.f65.body.map (fun c => ((compile Tryz.prog kp65 [] kp65 c).map (·.1), fits Tryz.f65.ntmps c)) = some (some s65, true) := by kernel_rfl
theorem r65 : Tryz.f65.results.toList = [.tmp 2] := by kernel_rfl
-- (*marionette/region.List).take
abbrev kp66 : List Nat := [4]
def s66 : SC :=
 .seq (.ops [⟨some 4, .assign (.const (.int .i64 0)), false, none⟩]) <|
 .seq (.keep [0, 1]) <|
 .seq (.ops [⟨some 5, .move (.tmp 1), false, none⟩,
  ⟨some 6, .call ⟨.value (.func 91), #[(.tmp 5)], #[82]⟩, true, none⟩,
  ⟨some 1, .assign (.tmp 6), false, none⟩]) <|
 .seq (.keep [0, 1]) <|
 .seq (.seq (.ops [⟨some 7, .move (.tmp 1), false, none⟩,
  ⟨some 8, .call ⟨.builtin .len, #[(.tmp 7)], #[82]⟩, false, none⟩,
  ⟨some 9, .binOp .gtr 3 (.tmp 8) (.const (.int .i64 256)) 3, false, none⟩]) <|
 .seq (.keep [0, 1, 9]) <|
 .cond (.tmp 9) (.seq (.ops [⟨some 4, .assign (.const (.int .i64 12)), false, none⟩]) <|
 .seq (.keep [4]) <|
 .ret) <|
 .skip) <|
 .seq (.keep [0, 1]) <|
 .seq (.ops [⟨some 10, .move (.tmp 0), false, none⟩,
  ⟨some 11, .move (.tmp 1), false, none⟩,
  ⟨some 12, .nilCheck (.tmp 10), false, none⟩,
  ⟨some 13, .fieldAddr 102 (.tmp 12) 0, false, none⟩,
  ⟨none, .store 82 (.tmp 13) (.tmp 11), true, none⟩]) <|
 .seq (.keep []) <|
 .seq (.ops [⟨some 4, .assign (.const (.int .i64 0)), false, none⟩]) <|
 .seq (.keep [4]) <|
 .ret
theorem c66 : Tryz.f66.body.map (fun c => ((compile Tryz.prog kp66 [] kp66 c).map (·.1), fits Tryz.f66.ntmps c)) = some (some s66, true) := by kernel_rfl
theorem r66 : Tryz.f66.results.toList = [.tmp 4] := by kernel_rfl
-- marionette/region.with
abbrev kp67 : List Nat := [4]
def s67 : SC :=
 .seq (.ops [⟨some 3, .box 85 (.tmp 1), true, none⟩,
  ⟨some 4, .assign (.const (.slice none 0 0)), false, none⟩]) <|
 .seq (.keep [0, 3]) <|
 .seq (.ops [⟨some 7, .move (.tmp 0), false, none⟩,
  ⟨some 8, .fieldAddr 85 (.tmp 3) 0, false, none⟩,
  ⟨some 9, .load 22 (.tmp 8), false, none⟩,
  ⟨some 10, .fieldAddr 85 (.tmp 3) 1, false, none⟩,
  ⟨some 11, .load 22 (.tmp 10), false, none⟩,
  ⟨some 12, .call ⟨.value (.func 92), #[(.tmp 7), (.tmp 9), (.tmp 11)], #[82, 22, 22]⟩, true, none⟩,
  ⟨some 5, .assign (.tmp 12), false, none⟩]) <|
 .seq (.keep [3, 5]) <|
 .seq (.ops [⟨some 13, .move (.tmp 5), false, none⟩,
  ⟨some 14, .makeFunc (.func 93) #[] #[(.tmp 3)], false, none⟩,
  ⟨some 15, .call ⟨.value (.func 45), #[(.tmp 13), (.tmp 14)], #[82, 112]⟩, true, none⟩,
  ⟨some 6, .assign (.tmp 15), false, none⟩]) <|
 .seq (.keep [3, 5, 6]) <|
 .seq (.seq (.ops [⟨some 16, .move (.tmp 6), false, none⟩,
  ⟨some 17, .binOp .lss 3 (.tmp 16) (.const (.int .i64 0)) 3, false, none⟩]) <|
 .seq (.keep [3, 5, 6, 17]) <|
 .cond (.tmp 17) (.ops [⟨some 18, .move (.tmp 5), false, none⟩,
  ⟨some 19, .call ⟨.builtin .len, #[(.tmp 18)], #[82]⟩, false, none⟩,
  ⟨some 6, .assign (.tmp 19), false, none⟩]) <|
 .skip) <|
 .seq (.keep [3, 5, 6]) <|
 .seq (.ops [⟨some 20, .move (.tmp 5), false, none⟩,
  ⟨some 21, .move (.tmp 6), false, none⟩,
  ⟨some 22, .load 85 (.tmp 3), false, none⟩,
  ⟨some 23, .buildSlice 82 1 #[(0, (.tmp 22))], true, none⟩,
  ⟨some 24, .call ⟨.value (.func 94), #[(.tmp 20), (.tmp 21), (.tmp 23)], #[82, 3, 82]⟩, true, none⟩,
  ⟨some 4, .assign (.tmp 24), false, none⟩]) <|
 .seq (.keep [4]) <|
 .ret
theorem c67 : Tryz.f67.body.map (fun c => ((compile Tryz.prog kp67 [] kp67 c).map (·.1), fits Tryz.f67.ntmps c)) = some (some s67, true) := by kernel_rfl
theorem r67 : Tryz.f67.results.toList = [.tmp 4] := by kernel_rfl
-- (*marionette/page.Store).Touch
abbrev kp68 : List Nat := []
def s68 : SC :=
 .seq (.ops [⟨some 7, .move (.tmp 2), false, none⟩,
  ⟨some 8, .call ⟨.builtin .min, #[(.tmp 7), (.const (.int .u64 274877906944))], #[22, 22]⟩, false, none⟩,
  ⟨some 2, .assign (.tmp 8), false, none⟩]) <|
 .seq (.keep [0, 1, 2]) <|
 .seq (.seq (.ops [⟨some 9, .move (.tmp 0), false, none⟩,
  ⟨some 10, .binOp .eql 70 (.tmp 9) (.const (.pointer none)) 70, false, none⟩,
  ⟨some 11, .move (.tmp 10), false, none⟩,
  ⟨some 12, .move (.tmp 2), false, some (11, false)⟩,
  ⟨some 13, .move (.tmp 1), false, some (11, false)⟩,
  ⟨some 14, .binOp .leq 22 (.tmp 12) (.tmp 13) 22, false, some (11, false)⟩,
  ⟨some 15, .pick (.tmp 11) (.const (.bool true)) (.tmp 14), false, none⟩]) <|
 .seq (.keep [0, 1, 2, 15]) <|
 .cond (.tmp 15) (.ret) <|
 .skip) <|
 .seq (.keep [0, 1, 2]) <|
 .seq (.seq (.ops [⟨some 16, .move (.tmp 1), false, none⟩,
  ⟨some 17, .move (.tmp 2), false, none⟩,
  ⟨some 18, .call ⟨.value (.func 95), #[(.tmp 16), (.tmp 17)], #[22, 22]⟩, true, none⟩]) <|
 .seq (.keep [0, 1, 2, 18]) <|
 .cond (.tmp 18) (.seq (.ops [⟨some 19, .move (.tmp 0), false, none⟩,
  ⟨some 20, .nilCheck (.tmp 19), false, none⟩,
  ⟨some 21, .fieldAddr 106 (.tmp 20) 2, false, none⟩,
  ⟨some 22, .load 22 (.tmp 21), false, none⟩,
  ⟨some 23, .binOp .add 22 (.tmp 22) (.const (.int .u64 1)) 22, false, none⟩,
  ⟨some 24, .nilCheck (.tmp 19), false, none⟩,
  ⟨some 25, .fieldAddr 106 (.tmp 24) 2, false, none⟩,
  ⟨none, .store 22 (.tmp 25) (.tmp 23), true, none⟩]) <|
 .seq (.keep [0]) <|
 .seq (.ops [⟨some 26, .move (.tmp 0), false, none⟩,
  ⟨some 27, .move (.tmp 0), false, none⟩,
  ⟨some 28, .nilCheck (.tmp 27), false, none⟩,
  ⟨some 29, .fieldAddr 106 (.tmp 28) 2, false, none⟩,
  ⟨some 30, .load 22 (.tmp 29), false, none⟩,
  ⟨some 31, .nilCheck (.tmp 26), false, none⟩,
  ⟨some 32, .fieldAddr 106 (.tmp 31) 3, false, none⟩,
  ⟨none, .store 22 (.tmp 32) (.tmp 30), true, none⟩]) <|
 .seq (.keep []) <|
 .ret) <|
 .skip) <|
 .seq (.keep [0, 1, 2]) <|
 .seq (.ops [⟨some 33, .move (.tmp 1), false, none⟩,
  ⟨some 34, .binOp .quo 22 (.tmp 33) (.const (.int .u64 4096)) 22, false, none⟩,
  ⟨some 6, .assign (.tmp 34), false, none⟩]) <|
 .seq (.keep [0, 2, 6]) <|
 .block 0 <| .loop <| .seq (.seq (.seq (.ops [⟨some 35, .move (.tmp 6), false, none⟩,
  ⟨some 36, .binOp .mul 22 (.tmp 35) (.const (.int .u64 4096)) 22, false, none⟩,
  ⟨some 37, .move (.tmp 2), false, none⟩,
  ⟨some 38, .binOp .lss 22 (.tmp 36) (.tmp 37) 22, false, none⟩]) <|
 .seq (.keep [0, 2, 6, 38]) <|
 .cond (.tmp 38) (.skip) <|
 .exit 0) <|
 .seq (.keep [0, 2, 6]) <|
 .seq (.block 1 <| .ops [⟨some 41, .move (.tmp 0), false, none⟩,
  ⟨some 42, .move (.tmp 6), false, none⟩,
  ⟨some 43, .call ⟨.value (.func 48), #[(.tmp 41), (.tmp 42)], #[70, 22]⟩, true, none⟩]) <|
 .seq (.keep [0, 2, 6]) <|
 .ops [⟨some 39, .move (.tmp 6), false, none⟩,
  ⟨some 40, .binOp .add 22 (.tmp 39) (.const (.int .u64 1)) 22, false, none⟩,
  ⟨some 6, .assign (.tmp 40), false, none⟩]) <|
 .keep [0, 2, 6]
theorem c68 : Tryz.f68.body.map (fun c => ((compile Tryz.prog kp68 [] kp68 c).map (·.1), fits Tryz.f68.ntmps c)) = some (some s68, true) := by kernel_rfl
theorem r68 : Tryz.f68.results.toList = [] := by kernel_rfl
-- (*marionette/mem.Space).half
abbrev kp69 : List Nat := [4, 5]
def s69 : SC :=
 .seq (.ops [⟨some 4, .assign (.const (.int .u32 0)), false, none⟩,
  ⟨some 5, .alloc 31, true, none⟩]) <|
 .seq (.keep [0, 1, 5]) <|
 .seq (.seq (.ops [⟨some 9, .move (.tmp 0), false, none⟩,
  ⟨some 10, .move (.tmp 1), false, none⟩,
  ⟨some 11, .call ⟨.value (.func 78), #[(.tmp 9), (.tmp 10), (.const (.int .i64 2)), (.const (.int .i64 4))], #[42, 22, 3, 3]⟩, true, none⟩,
  ⟨some 8, .move (.tmp 11), false, none⟩,
  ⟨some 12, .extract (.tmp 8) 0, false, none⟩,
  ⟨some 13, .extract (.tmp 8) 1, false, none⟩,
  ⟨some 6, .assign (.tmp 12), false, none⟩,
  ⟨some 7, .assign (.tmp 13), false, none⟩]) <|
 .seq (.keep [0, 1, 5, 6, 7]) <|
 .seq (.ops [⟨some 14, .move (.tmp 7), false, none⟩]) <|
 .seq (.keep [0, 1, 5, 6, 14]) <|
 .cond (.tmp 14) (.seq (.ops [⟨some 15, .move (.tmp 6), false, none⟩,
  ⟨some 16, .build 31 #[(0, (.const (.int .i64 3))), (1, (.tmp 15))], false, none⟩,
  ⟨some 4, .assign (.const (.int .u32 0)), false, none⟩,
  ⟨none, .store 31 (.tmp 5) (.tmp 16), true, none⟩]) <|
 .seq (.keep [4, 5]) <|
 .ret) <|
 .skip) <|
 .seq (.keep [0, 1, 5]) <|
 .seq (.ops [⟨some 17, .move (.tmp 0), false, none⟩,
  ⟨some 18, .nilCheck (.tmp 17), false, none⟩,
  ⟨some 19, .fieldAddr 73 (.tmp 18) 1, false, none⟩,
  ⟨some 20, .load 70 (.tmp 19), false, none⟩,
  ⟨some 21, .move (.tmp 1), false, none⟩,
  ⟨some 22, .call ⟨.value (.func 80), #[(.tmp 20), (.tmp 21), (.const (.int .i64 2))], #[70, 22, 3]⟩, true, none⟩,
  ⟨some 23, .call ⟨.value (.func 79), #[(.tmp 22), (.const (.int .i64 2))], #[48, 3]⟩, true, none⟩,
  ⟨some 24, .convert 22 121 (.tmp 23), false, none⟩,
  ⟨some 25, .build 31 #[], false, none⟩,
  ⟨some 4, .assign (.tmp 24), false, none⟩,
  ⟨none, .store 31 (.tmp 5) (.tmp 25), true, none⟩]) <|
 .seq (.keep [4, 5]) <|
 .ret
theorem c69 : Tryz.f69.body.map (fun c => ((compile Tryz.prog kp69 [] kp69 c).map (·.1), fits Tryz.f69.ntmps c)) = some (some s69, true) := by kernel_rfl
theorem r69 : Tryz.f69.results.toList = [.tmp 4, .cell 5 31] := by kernel_rfl
-- marionette/comp.Short
abbrev kp70 : List Nat := [2]
def s70 : SC :=
 .seq (.ops [⟨some 2, .assign (.const (.bool false)), false, none⟩]) <|
 .seq (.keep [0]) <|
 .seq (.ops [⟨some 3, .move (.tmp 0), false, none⟩,
  ⟨some 4, .binOp .and 145 (.tmp 3) (.const (.int .u16 3)) 145, false, none⟩,
  ⟨some 5, .binOp .neq 145 (.tmp 4) (.const (.int .u16 3)) 145, false, none⟩,
  ⟨some 2, .assign (.tmp 5), false, none⟩]) <|
 .seq (.keep [2]) <|
 .ret
theorem c70 : Tryz.f70.body.map (fun c => ((compile Tryz.prog kp70 [] kp70 c).map (·.1), fits Tryz.f70.ntmps c)) = some (some s70, true) := by kernel_rfl
theorem r70 : Tryz.f70.results.toList = [.tmp 2] := by kernel_rfl
-- marionette/comp.Expand
abbrev kp71 : List Nat := [2, 3]
def s71 : SC :=
 .seq (.ops [⟨some 2, .alloc 63, true, none⟩,
  ⟨some 3, .assign (.const (.bool false)), false, none⟩]) <|
 .seq (.keep [0, 2]) <|
 .seq (.ops [⟨some 4, .alloc 63, true, none⟩]) <|
 .seq (.keep [0, 2, 4]) <|
 .seq (.seq (.ops [⟨some 5, .move (.tmp 0), false, none⟩,
  ⟨some 6, .binOp .and 145 (.tmp 5) (.const (.int .u16 3)) 145, false, none⟩]) <|
 .seq (.keep [0, 2, 4, 6]) <|
 .block 0 <| .seq (.ops [⟨some 8, .binOp .eql 145 (.tmp 6) (.const (.int .u16 0)) 145, false, none⟩,
  ⟨some 7, .assign (.tmp 8), false, none⟩]) <|
 .seq (.keep [0, 2, 4, 6, 7]) <|
 .cond (.tmp 7) (.ops [⟨some 9, .move (.tmp 0), false, none⟩,
  ⟨some 10, .call ⟨.value (.func 96), #[(.tmp 9)], #[157]⟩, true, none⟩,
  ⟨none, .store 63 (.tmp 4) (.tmp 10), true, none⟩]) <|
 .seq (.ops [⟨some 12, .binOp .eql 145 (.tmp 6) (.const (.int .u16 1)) 145, false, none⟩,
  ⟨some 11, .assign (.tmp 12), false, none⟩]) <|
 .seq (.keep [0, 2, 4, 6, 11]) <|
 .cond (.tmp 11) (.ops [⟨some 13, .move (.tmp 0), false, none⟩,
  ⟨some 14, .call ⟨.value (.func 97), #[(.tmp 13)], #[157]⟩, true, none⟩,
  ⟨none, .store 63 (.tmp 4) (.tmp 14), true, none⟩]) <|
 .seq (.ops [⟨some 16, .binOp .eql 145 (.tmp 6) (.const (.int .u16 2)) 145, false, none⟩,
  ⟨some 15, .assign (.tmp 16), false, none⟩]) <|
 .seq (.keep [0, 2, 4, 15]) <|
 .cond (.tmp 15) (.ops [⟨some 17, .move (.tmp 0), false, none⟩,
  ⟨some 18, .call ⟨.value (.func 98), #[(.tmp 17)], #[157]⟩, true, none⟩,
  ⟨none, .store 63 (.tmp 4) (.tmp 18), true, none⟩]) <|
 .skip) <|
 .seq (.keep [2, 4]) <|
 .seq (.seq (.ops [⟨some 19, .fieldAddr 63 (.tmp 4) 0, false, none⟩,
  ⟨some 20, .load 3 (.tmp 19), false, none⟩,
  ⟨some 21, .binOp .eql 3 (.tmp 20) (.const (.int .i64 0)) 3, false, none⟩]) <|
 .seq (.keep [2, 4, 21]) <|
 .cond (.tmp 21) (.seq (.ops [⟨some 22, .build 63 #[], false, none⟩,
  ⟨none, .store 63 (.tmp 2) (.tmp 22), true, none⟩,
  ⟨some 3, .assign (.const (.bool false)), false, none⟩]) <|
 .seq (.keep [2, 3]) <|
 .ret) <|
 .skip) <|
 .seq (.keep [2, 4]) <|
 .seq (.ops [⟨some 23, .fieldAddr 63 (.tmp 4) 6, false, none⟩,
  ⟨none, .store 3 (.tmp 23) (.const (.int .i64 2)), true, none⟩]) <|
 .seq (.keep [2, 4]) <|
 .seq (.ops [⟨some 24, .load 63 (.tmp 4), false, none⟩,
  ⟨none, .store 63 (.tmp 2) (.tmp 24), true, none⟩,
  ⟨some 3, .assign (.const (.bool true)), false, none⟩]) <|
 .seq (.keep [2, 3]) <|
 .ret
theorem c71 : Tryz.f71.body.map (fun c => ((compile Tryz.prog kp71 [] kp71 c).map (·.1), fits Tryz.f71.ntmps c)) = some (some s71, true) := by kernel_rfl
theorem r71 : Tryz.f71.results.toList = [.cell 2 63, .tmp 3] := by kernel_rfl
-- (*marionette/page.Store).Stamp
abbrev kp73 : List Nat := [4]
def s73 : SC :=
 .seq (.ops [⟨some 4, .assign (.const (.int .u64 0)), false, none⟩]) <|
 .seq (.keep [0, 1]) <|
 .seq (.seq (.ops [⟨some 5, .move (.tmp 0), false, none⟩,
  ⟨some 6, .binOp .eql 70 (.tmp 5) (.const (.pointer none)) 70, false, none⟩]) <|
 .seq (.keep [0, 1, 6]) <|
 .cond (.tmp 6) (.seq (.ops [⟨some 4, .assign (.const (.int .u64 0)), false, none⟩]) <|
 .seq (.keep [4]) <|
 .ret) <|
 .skip) <|
 .seq (.keep [0, 1]) <|
 .seq (.seq (.ops [⟨some 7, .move (.tmp 0), false, none⟩]) <|
 .seq (.ops [⟨some 8, .nilCheck (.tmp 7), false, none⟩]) <|
 .seq (.ops [⟨some 9, .fieldAddr 106 (.tmp 8) 1, false, none⟩]) <|
 .seq (.ops [⟨some 10, .load 104 (.tmp 9), false, none⟩]) <|
 .seq (.ops [⟨some 11, .move (.tmp 1), false, none⟩]) <|
 .seq (.ops [⟨some 12, .lookup 104 (.tmp 10) (.tmp 11) false, false, none⟩]) <|
 .seq (.ops [⟨some 13, .move (.tmp 0), false, none⟩]) <|
 .seq (.ops [⟨some 14, .nilCheck (.tmp 13), false, none⟩]) <|
 .seq (.ops [⟨some 15, .fieldAddr 106 (.tmp 14) 3, false, none⟩]) <|
 .seq (.ops [⟨some 16, .load 22 (.tmp 15), false, none⟩]) <|
 .seq (.ops [⟨some 17, .call ⟨.builtin .max, #[(.tmp 12), (.tmp 16)], #[22, 22]⟩, false, none⟩]) <|
 .seq (.ops [⟨some 4, .assign (.tmp 17), false, none⟩]) <|
 .skip) <|
 .seq (.keep [4]) <|
 .ret
theorem c73 : Tryz.f73.body.map (fun c => ((compile Tryz.prog kp73 [] kp73 c).map (·.1), fits Tryz.f73.ntmps c)) = some (some s73, true) := by kernel_rfl
theorem r73 : Tryz.f73.results.toList = [.tmp 4] := by kernel_rfl
-- (*marionette/mem.Space).Probe
abbrev kp75 : List Nat := [6]
def s75 : SC :=
 .seq (.ops [⟨some 6, .alloc 31, true, none⟩]) <|
 .seq (.keep [0, 1, 2, 6]) <|
 .seq (.seq (.ops [⟨some 9, .move (.tmp 0), false, none⟩,
  ⟨some 10, .binOp .eql 42 (.tmp 9) (.const (.pointer none)) 42, false, none⟩,
  ⟨some 11, .move (.tmp 10), false, none⟩,
  ⟨some 12, .move (.tmp 2), false, some (11, false)⟩,
  ⟨some 13, .call ⟨.value (.func 77), #[(.tmp 12)], #[3]⟩, true, some (11, false)⟩,
  ⟨some 14, .unOp .not 4 (.tmp 13), false, some (11, false)⟩,
  ⟨some 15, .pick (.tmp 11) (.const (.bool true)) (.tmp 14), false, none⟩]) <|
 .seq (.keep [0, 1, 2, 6, 15]) <|
 .cond (.tmp 15) (.seq (.ops [⟨some 16, .move (.tmp 1), false, none⟩,
  ⟨some 17, .build 31 #[(0, (.const (.int .i64 2))), (1, (.tmp 16))], false, none⟩,
  ⟨none, .store 31 (.tmp 6) (.tmp 17), true, none⟩]) <|
 .seq (.keep [6]) <|
 .ret) <|
 .skip) <|
 .seq (.keep [0, 1, 2, 6]) <|
 .seq (.seq (.ops [⟨some 19, .move (.tmp 0), false, none⟩,
  ⟨some 20, .move (.tmp 1), false, none⟩,
  ⟨some 21, .move (.tmp 2), false, none⟩,
  ⟨some 22, .call ⟨.value (.func 78), #[(.tmp 19), (.tmp 20), (.tmp 21), (.const (.int .i64 2))], #[42, 22, 3, 3]⟩, true, none⟩,
  ⟨some 18, .move (.tmp 22), false, none⟩,
  ⟨some 23, .extract (.tmp 18) 0, false, none⟩,
  ⟨some 24, .extract (.tmp 18) 1, false, none⟩,
  ⟨some 7, .assign (.tmp 23), false, none⟩,
  ⟨some 8, .assign (.tmp 24), false, none⟩]) <|
 .seq (.keep [6, 7, 8]) <|
 .seq (.ops [⟨some 25, .move (.tmp 8), false, none⟩]) <|
 .seq (.keep [6, 7, 25]) <|
 .cond (.tmp 25) (.seq (.ops [⟨some 26, .move (.tmp 7), false, none⟩,
  ⟨some 27, .build 31 #[(0, (.const (.int .i64 2))), (1, (.tmp 26))], false, none⟩,
  ⟨none, .store 31 (.tmp 6) (.tmp 27), true, none⟩]) <|
 .seq (.keep [6]) <|
 .ret) <|
 .skip) <|
 .seq (.keep [6]) <|
 .seq (.ops [⟨some 28, .build 31 #[], false, none⟩,
  ⟨none, .store 31 (.tmp 6) (.tmp 28), true, none⟩]) <|
 .seq (.keep [6]) <|
 .ret
theorem c75 : Tryz.f75.body.map (fun c => ((compile Tryz.prog kp75 [] kp75 c).map (·.1), fits Tryz.f75.ntmps c)) = some (some s75, true) := by kernel_rfl
theorem r75 : Tryz.f75.results.toList = [.cell 6 31] := by kernel_rfl
-- marionette/word.Put
abbrev kp76 : List Nat := [6]
def s76 : SC :=
 .seq (.ops [⟨some 6, .assign (.const (.slice none 0 0)), false, none⟩]) <|
 .seq (.keep [0, 1, 2]) <|
 .seq (.ops [⟨some 8, .buildSlice 48 0 #[], true, none⟩,
  ⟨some 9, .move (.tmp 0), false, none⟩,
  ⟨some 10, .call ⟨.builtin .append, #[(.tmp 8), (.tmp 9)], #[48, 48]⟩, true, none⟩,
  ⟨some 7, .assign (.tmp 10), false, none⟩]) <|
 .seq (.keep [1, 2, 7]) <|
 .seq (.seq (.ops [⟨some 11, .move (.tmp 2), false, none⟩,
  ⟨some 12, .binOp .lss 3 (.tmp 11) (.const (.int .i64 1)) 3, false, none⟩,
  ⟨some 13, .move (.tmp 12), false, none⟩,
  ⟨some 14, .move (.tmp 2), false, some (13, false)⟩,
  ⟨some 15, .binOp .gtr 3 (.tmp 14) (.const (.int .i64 8)) 3, false, some (13, false)⟩,
  ⟨some 16, .pick (.tmp 13) (.const (.bool true)) (.tmp 15), false, none⟩]) <|
 .seq (.keep [1, 2, 7, 16]) <|
 .cond (.tmp 16) (.seq (.ops [⟨some 17, .move (.tmp 7), false, none⟩,
  ⟨some 6, .assign (.tmp 17), false, none⟩]) <|
 .seq (.keep [6]) <|
 .ret) <|
 .skip) <|
 .seq (.keep [1, 2, 7]) <|
 .seq (.seq (.ops [⟨some 18, .move (.tmp 2), false, none⟩,
  ⟨some 19, .move (.const (.int .i64 0)), false, none⟩]) <|
 .seq (.keep [1, 7, 18, 19]) <|
 .block 0 <| .loop <| .seq (.seq (.ops [⟨some 20, .binOp .lss 3 (.tmp 19) (.tmp 18) 3, false, none⟩]) <|
 .seq (.keep [1, 7, 18, 19, 20]) <|
 .seq (.cond (.tmp 20) (.skip) <|
 .exit 0) <|
 .seq (.keep [1, 7, 18, 19]) <|
 .seq (.block 1 <| .seq (.ops [⟨some 21, .move (.tmp 7), false, none⟩,
  ⟨some 22, .move (.tmp 1), false, none⟩,
  ⟨some 23, .convert 22 5 (.tmp 22), false, none⟩,
  ⟨some 24, .buildSlice 48 1 #[(0, (.tmp 23))], true, none⟩,
  ⟨some 25, .call ⟨.builtin .append, #[(.tmp 21), (.tmp 24)], #[48, 48]⟩, true, none⟩,
  ⟨some 7, .assign (.tmp 25), false, none⟩]) <|
 .seq (.keep [1, 7, 18, 19]) <|
 .ops [⟨some 26, .move (.tmp 1), false, none⟩,
  ⟨some 27, .binOp .shr 22 (.tmp 26) (.const (.int .u64 8)) 143, false, none⟩,
  ⟨some 1, .assign (.tmp 27), false, none⟩]) <|
 .seq (.keep [1, 7, 18, 19]) <|
 .ops [⟨some 28, .binOp .add 3 (.tmp 19) (.const (.int .i64 1)) 3, false, none⟩,
  ⟨some 19, .move (.tmp 28), false, none⟩]) <|
 .keep [1, 7, 18, 19]) <|
 .seq (.keep [7]) <|
 .seq (.ops [⟨some 29, .move (.tmp 7), false, none⟩,
  ⟨some 6, .assign (.tmp 29), false, none⟩]) <|
 .seq (.keep [6]) <|
 .ret
theorem c76 : Tryz.f76.body.map (fun c => ((compile Tryz.prog kp76 [] kp76 c).map (·.1), fits Tryz.f76.ntmps c)) = some (some s76, true) := by kernel_rfl
theorem r76 : Tryz.f76.results.toList = [.tmp 6] := by kernel_rfl
-- marionette/mem.size
abbrev kp77 : List Nat := [2]
def s77 : SC :=
 .seq (.ops [⟨some 2, .assign (.const (.bool false)), false, none⟩]) <|
 .seq (.keep [0]) <|
 .seq (.ops [⟨some 3, .move (.tmp 0), false, none⟩,
  ⟨some 4, .binOp .eql 3 (.tmp 3) (.const (.int .i64 1)) 3, false, none⟩,
  ⟨some 5, .move (.tmp 4), false, none⟩,
  ⟨some 6, .move (.tmp 0), false, some (5, false)⟩,
  ⟨some 7, .binOp .eql 3 (.tmp 6) (.const (.int .i64 2)) 3, false, some (5, false)⟩,
  ⟨some 8, .pick (.tmp 5) (.const (.bool true)) (.tmp 7), false, none⟩,
  ⟨some 9, .move (.tmp 8), false, none⟩,
  ⟨some 10, .move (.tmp 0), false, some (9, false)⟩,
  ⟨some 11, .binOp .eql 3 (.tmp 10) (.const (.int .i64 4)) 3, false, some (9, false)⟩,
  ⟨some 12, .pick (.tmp 9) (.const (.bool true)) (.tmp 11), false, none⟩,
  ⟨some 13, .move (.tmp 12), false, none⟩,
  ⟨some 14, .move (.tmp 0), false, some (13, false)⟩,
  ⟨some 15, .binOp .eql 3 (.tmp 14) (.const (.int .i64 8)) 3, false, some (13, false)⟩,
  ⟨some 16, .pick (.tmp 13) (.const (.bool true)) (.tmp 15), false, none⟩,
  ⟨some 2, .assign (.tmp 16), false, none⟩]) <|
 .seq (.keep [2]) <|
 .ret
theorem c77 : Tryz.f77.body.map (fun c => ((compile Tryz.prog kp77 [] kp77 c).map (·.1), fits Tryz.f77.ntmps c)) = some (some s77, true) := by kernel_rfl
theorem r77 : Tryz.f77.results.toList = [.tmp 2] := by kernel_rfl
-- (*marionette/mem.Space).first
abbrev kp78 : List Nat := [8, 9]
def s78 : SC :=
 .seq (.ops [⟨some 8, .assign (.const (.int .u64 0)), false, none⟩,
  ⟨some 9, .assign (.const (.bool false)), false, none⟩]) <|
 .seq (.keep [0, 1, 2, 3]) <|
 .seq (.seq (.ops [⟨some 13, .move (.tmp 2), false, none⟩,
  ⟨some 14, .convert 3 22 (.tmp 13), false, none⟩,
  ⟨some 15, .move (.const (.int .u64 0)), false, none⟩]) <|
 .seq (.keep [0, 1, 3, 14, 15]) <|
 .block 0 <| .loop <| .seq (.seq (.ops [⟨some 16, .binOp .lss 22 (.tmp 15) (.tmp 14) 22, false, none⟩]) <|
 .seq (.keep [0, 1, 3, 14, 15, 16]) <|
 .seq (.cond (.tmp 16) (.skip) <|
 .exit 0) <|
 .seq (.keep [0, 1, 3, 14, 15]) <|
 .seq (.block 1 <| .seq (.ops [⟨some 17, .move (.tmp 15), false, none⟩,
  ⟨some 10, .assign (.tmp 17), false, none⟩]) <|
 .seq (.keep [0, 1, 3, 10, 14, 15]) <|
 .seq (.ops [⟨some 19, .move (.tmp 0), false, none⟩,
  ⟨some 20, .nilCheck (.tmp 19), false, none⟩,
  ⟨some 21, .fieldAddr 73 (.tmp 20) 0, false, none⟩,
  ⟨some 22, .load 68 (.tmp 21), false, none⟩,
  ⟨some 23, .move (.tmp 1), false, none⟩,
  ⟨some 24, .move (.tmp 10), false, none⟩,
  ⟨some 25, .binOp .add 22 (.tmp 23) (.tmp 24) 22, false, none⟩,
  ⟨some 26, .call ⟨.value (.func 28), #[(.tmp 22), (.tmp 25)], #[68, 22]⟩, true, none⟩,
  ⟨some 18, .move (.tmp 26), false, none⟩,
  ⟨some 27, .extract (.tmp 18) 0, false, none⟩,
  ⟨some 28, .extract (.tmp 18) 1, false, none⟩,
  ⟨some 11, .alloc 85, true, none⟩,
  ⟨none, .store 85 (.tmp 11) (.tmp 27), true, none⟩,
  ⟨some 12, .assign (.tmp 28), false, none⟩]) <|
 .seq (.keep [0, 1, 3, 10, 11, 12, 14, 15]) <|
 .seq (.ops [⟨some 29, .move (.tmp 12), false, none⟩,
  ⟨some 30, .unOp .not 4 (.tmp 29), false, none⟩,
  ⟨some 31, .move (.tmp 30), false, none⟩,
  ⟨some 32, .fieldAddr 85 (.tmp 11) 2, false, some (31, false)⟩,
  ⟨some 33, .load 3 (.tmp 32), false, some (31, false)⟩,
  ⟨some 34, .move (.tmp 3), false, some (31, false)⟩,
  ⟨some 35, .binOp .and 3 (.tmp 33) (.tmp 34) 3, false, some (31, false)⟩,
  ⟨some 36, .move (.tmp 3), false, some (31, false)⟩,
  ⟨some 37, .binOp .neq 3 (.tmp 35) (.tmp 36) 3, false, some (31, false)⟩,
  ⟨some 38, .pick (.tmp 31) (.const (.bool true)) (.tmp 37), false, none⟩]) <|
 .seq (.keep [0, 1, 3, 10, 14, 15, 38]) <|
 .cond (.tmp 38) (.seq (.ops [⟨some 39, .move (.tmp 1), false, none⟩,
  ⟨some 40, .move (.tmp 10), false, none⟩,
  ⟨some 41, .binOp .add 22 (.tmp 39) (.tmp 40) 22, false, none⟩,
  ⟨some 8, .assign (.tmp 41), false, none⟩,
  ⟨some 9, .assign (.const (.bool true)), false, none⟩]) <|
 .seq (.keep [8, 9]) <|
 .ret) <|
 .skip) <|
 .seq (.keep [0, 1, 3, 14, 15]) <|
 .ops [⟨some 42, .binOp .add 22 (.tmp 15) (.const (.int .u64 1)) 22, false, none⟩,
  ⟨some 15, .move (.tmp 42), false, none⟩]) <|
 .keep [0, 1, 3, 14, 15]) <|
 .seq (.keep []) <|
 .seq (.ops [⟨some 8, .assign (.const (.int .u64 0)), false, none⟩,
  ⟨some 9, .assign (.const (.bool false)), false, none⟩]) <|
 .seq (.keep [8, 9]) <|
 .ret
theorem c78 : Tryz.f78.body.map (fun c => ((compile Tryz.prog kp78 [] kp78 c).map (·.1), fits Tryz.f78.ntmps c)) = some (some s78, true) := by kernel_rfl
theorem r78 : Tryz.f78.results.toList = [.tmp 8, .tmp 9] := by kernel_rfl
-- marionette/word.Get
abbrev kp79 : List Nat := [4]
def s79 : SC :=
 .seq (.ops [⟨some 4, .assign (.const (.int .u64 0)), false, none⟩]) <|
 .seq (.keep [0, 1]) <|
 .seq (.seq (.ops [⟨some 8, .move (.tmp 1), false, none⟩,
  ⟨some 9, .binOp .lss 3 (.tmp 8) (.const (.int .i64 1)) 3, false, none⟩,
  ⟨some 10, .move (.tmp 9), false, none⟩,
  ⟨some 11, .move (.tmp 1), false, some (10, false)⟩,
  ⟨some 12, .binOp .gtr 3 (.tmp 11) (.const (.int .i64 8)) 3, false, some (10, false)⟩,
  ⟨some 13, .pick (.tmp 10) (.const (.bool true)) (.tmp 12), false, none⟩]) <|
 .seq (.keep [0, 1, 13]) <|
 .cond (.tmp 13) (.seq (.ops [⟨some 4, .assign (.const (.int .u64 0)), false, none⟩]) <|
 .seq (.keep [4]) <|
 .ret) <|
 .skip) <|
 .seq (.keep [0, 1]) <|
 .seq (.ops [⟨some 5, .assign (.const (.int .u64 0)), false, none⟩]) <|
 .seq (.keep [0, 1, 5]) <|
 .seq (.seq (.ops [⟨some 14, .move (.tmp 0), false, none⟩,
  ⟨some 15, .move (.tmp 1), false, none⟩,
  ⟨some 16, .move (.tmp 0), false, none⟩,
  ⟨some 17, .call ⟨.builtin .len, #[(.tmp 16)], #[48]⟩, false, none⟩,
  ⟨some 18, .call ⟨.builtin .min, #[(.tmp 15), (.tmp 17)], #[3, 3]⟩, false, none⟩,
  ⟨some 19, .slice 48 (.tmp 14) none (some (.tmp 18)) none, false, none⟩,
  ⟨some 20, .call ⟨.builtin .len, #[(.tmp 19)], #[48]⟩, false, none⟩,
  ⟨some 21, .move (.const (.int .i64 0)), false, none⟩]) <|
 .seq (.keep [5, 19, 20, 21]) <|
 .block 0 <| .loop <| .seq (.seq (.ops [⟨some 22, .binOp .lss 3 (.tmp 21) (.tmp 20) 3, false, none⟩]) <|
 .seq (.keep [5, 19, 20, 21, 22]) <|
 .seq (.cond (.tmp 22) (.skip) <|
 .exit 0) <|
 .seq (.keep [5, 19, 20, 21]) <|
 .seq (.block 1 <| .seq (.ops [⟨some 23, .move (.tmp 21), false, none⟩,
  ⟨some 24, .indexAddr 48 (.tmp 19) (.tmp 21), false, none⟩,
  ⟨some 25, .load 5 (.tmp 24), false, none⟩,
  ⟨some 6, .assign (.tmp 23), false, none⟩,
  ⟨some 7, .assign (.tmp 25), false, none⟩]) <|
 .seq (.keep [5, 6, 7, 19, 20, 21]) <|
 .ops [⟨some 26, .move (.tmp 5), false, none⟩,
  ⟨some 27, .move (.tmp 7), false, none⟩,
  ⟨some 28, .convert 5 22 (.tmp 27), false, none⟩,
  ⟨some 29, .move (.tmp 6), false, none⟩,
  ⟨some 30, .binOp .mul 3 (.const (.int .i64 8)) (.tmp 29) 3, false, none⟩,
  ⟨some 31, .binOp .shl 22 (.tmp 28) (.tmp 30) 3, false, none⟩,
  ⟨some 32, .binOp .or 22 (.tmp 26) (.tmp 31) 22, false, none⟩,
  ⟨some 5, .assign (.tmp 32), false, none⟩]) <|
 .seq (.keep [5, 19, 20, 21]) <|
 .ops [⟨some 33, .binOp .add 3 (.tmp 21) (.const (.int .i64 1)) 3, false, none⟩,
  ⟨some 21, .move (.tmp 33), false, none⟩]) <|
 .keep [5, 19, 20, 21]) <|
 .seq (.keep [5]) <|
 .seq (.ops [⟨some 34, .move (.tmp 5), false, none⟩,
  ⟨some 4, .assign (.tmp 34), false, none⟩]) <|
 .seq (.keep [4]) <|
 .ret
theorem c79 : Tryz.f79.body.map (fun c => ((compile Tryz.prog kp79 [] kp79 c).map (·.1), fits Tryz.f79.ntmps c)) = some (some s79, true) := by kernel_rfl
theorem r79 : Tryz.f79.results.toList = [.tmp 4] := by kernel_rfl
-- (*marionette/page.Store).Read
abbrev kp80 : List Nat := [6]
def s80 : SC :=
 .seq (.ops [⟨some 6, .assign (.const (.slice none 0 0)), false, none⟩]) <|
 .seq (.keep [0, 1, 2]) <|
 .seq (.seq (.ops [⟨some 13, .move (.tmp 0), false, none⟩,
  ⟨some 14, .binOp .eql 70 (.tmp 13) (.const (.pointer none)) 70, false, none⟩,
  ⟨some 15, .move (.tmp 14), false, none⟩,
  ⟨some 16, .move (.tmp 2), false, some (15, false)⟩,
  ⟨some 17, .binOp .lss 3 (.tmp 16) (.const (.int .i64 1)) 3, false, some (15, false)⟩,
  ⟨some 18, .pick (.tmp 15) (.const (.bool true)) (.tmp 17), false, none⟩,
  ⟨some 19, .move (.tmp 18), false, none⟩,
  ⟨some 20, .move (.tmp 2), false, some (19, false)⟩,
  ⟨some 21, .binOp .gtr 3 (.tmp 20) (.const (.int .i64 4194304)) 3, false, some (19, false)⟩,
  ⟨some 22, .pick (.tmp 19) (.const (.bool true)) (.tmp 21), false, none⟩]) <|
 .seq (.keep [0, 1, 2, 22]) <|
 .cond (.tmp 22) (.seq (.ops [⟨some 6, .assign (.const (.slice none 0 0)), false, none⟩]) <|
 .seq (.keep [6]) <|
 .ret) <|
 .skip) <|
 .seq (.keep [0, 1, 2]) <|
 .seq (.ops [⟨some 23, .move (.tmp 2), false, none⟩,
  ⟨some 24, .makeSlice 48 (.tmp 23) (.tmp 23), true, none⟩,
  ⟨some 7, .assign (.tmp 24), false, none⟩]) <|
 .seq (.keep [0, 1, 7]) <|
 .seq (.seq (.ops [⟨some 25, .move (.tmp 7), false, none⟩,
  ⟨some 8, .assign (.tmp 25), false, none⟩]) <|
 .seq (.keep [0, 1, 7, 8]) <|
 .block 0 <| .loop <| .seq (.seq (.seq (.ops [⟨some 26, .move (.tmp 8), false, none⟩,
  ⟨some 27, .call ⟨.builtin .len, #[(.tmp 26)], #[48]⟩, false, none⟩,
  ⟨some 28, .binOp .gtr 3 (.tmp 27) (.const (.int .i64 0)) 3, false, none⟩,
  ⟨some 29, .move (.tmp 28), false, none⟩,
  ⟨some 30, .move (.tmp 1), false, some (29, true)⟩,
  ⟨some 31, .binOp .lss 22 (.tmp 30) (.const (.int .u64 274877906944)) 22, false, some (29, true)⟩,
  ⟨some 32, .pick (.tmp 29) (.tmp 31) (.const (.bool false)), false, none⟩]) <|
 .seq (.keep [0, 1, 7, 8, 32]) <|
 .cond (.tmp 32) (.skip) <|
 .exit 0) <|
 .seq (.keep [0, 1, 7, 8]) <|
 .block 1 <| .seq (.ops [⟨some 34, .move (.tmp 1), false, none⟩,
  ⟨some 35, .move (.tmp 8), false, none⟩,
  ⟨some 36, .call ⟨.builtin .len, #[(.tmp 35)], #[48]⟩, false, none⟩,
  ⟨some 37, .call ⟨.value (.func 47), #[(.tmp 34), (.tmp 36)], #[22, 3]⟩, true, none⟩,
  ⟨some 33, .move (.tmp 37), false, none⟩,
  ⟨some 38, .extract (.tmp 33) 0, false, none⟩,
  ⟨some 39, .extract (.tmp 33) 1, false, none⟩,
  ⟨some 9, .assign (.tmp 38), false, none⟩,
  ⟨some 10, .assign (.tmp 39), false, none⟩]) <|
 .seq (.keep [0, 1, 7, 8, 9, 10]) <|
 .seq (.seq (.ops [⟨some 41, .move (.tmp 0), false, none⟩,
  ⟨some 42, .nilCheck (.tmp 41), false, none⟩,
  ⟨some 43, .fieldAddr 106 (.tmp 42) 0, false, none⟩,
  ⟨some 44, .load 103 (.tmp 43), false, none⟩,
  ⟨some 45, .move (.tmp 1), false, none⟩,
  ⟨some 46, .binOp .quo 22 (.tmp 45) (.const (.int .u64 4096)) 22, false, none⟩,
  ⟨some 47, .lookup 103 (.tmp 44) (.tmp 46) true, false, none⟩,
  ⟨some 40, .move (.tmp 47), false, none⟩,
  ⟨some 48, .extract (.tmp 40) 0, false, none⟩,
  ⟨some 49, .extract (.tmp 40) 1, false, none⟩,
  ⟨some 11, .assign (.tmp 48), false, none⟩,
  ⟨some 12, .assign (.tmp 49), false, none⟩]) <|
 .seq (.keep [0, 1, 7, 8, 9, 10, 11, 12]) <|
 .seq (.ops [⟨some 50, .move (.tmp 12), false, none⟩]) <|
 .seq (.keep [0, 1, 7, 8, 9, 10, 11, 50]) <|
 .cond (.tmp 50) (.seq (.ops [⟨some 51, .move (.tmp 8), false, none⟩]) <|
 .seq (.ops [⟨some 52, .move (.tmp 10), false, none⟩]) <|
 .seq (.ops [⟨some 53, .slice 48 (.tmp 51) none (some (.tmp 52)) none, false, none⟩]) <|
 .seq (.ops [⟨some 54, .move (.tmp 11), false, none⟩]) <|
 .seq (.ops [⟨some 55, .nilCheck (.tmp 54), false, none⟩]) <|
 .seq (.ops [⟨some 56, .move (.tmp 9), false, none⟩]) <|
 .seq (.ops [⟨some 57, .slice 118 (.tmp 55) (some (.tmp 56)) none none, false, none⟩]) <|
 .seq (.ops [⟨some 58, .call ⟨.builtin .copy, #[(.tmp 53), (.tmp 57)], #[48, 48]⟩, true, none⟩]) <|
 .skip) <|
 .skip) <|
 .seq (.keep [0, 1, 7, 8, 10]) <|
 .seq (.ops [⟨some 59, .move (.tmp 8), false, none⟩,
  ⟨some 60, .move (.tmp 10), false, none⟩,
  ⟨some 61, .slice 48 (.tmp 59) (some (.tmp 60)) none none, false, none⟩,
  ⟨some 8, .assign (.tmp 61), false, none⟩]) <|
 .seq (.keep [0, 1, 7, 8, 10]) <|
 .ops [⟨some 62, .move (.tmp 1), false, none⟩,
  ⟨some 63, .move (.tmp 10), false, none⟩,
  ⟨some 64, .convert 3 22 (.tmp 63), false, none⟩,
  ⟨some 65, .binOp .add 22 (.tmp 62) (.tmp 64) 22, false, none⟩,
  ⟨some 1, .assign (.tmp 65), false, none⟩]) <|
 .keep [0, 1, 7, 8]) <|
 .seq (.keep [7]) <|
 .seq (.ops [⟨some 66, .move (.tmp 7), false, none⟩,
  ⟨some 6, .assign (.tmp 66), false, none⟩]) <|
 .seq (.keep [6]) <|
 .ret
theorem c80 : Tryz.f80.body.map (fun c => ((compile Tryz.prog kp80 [] kp80 c).map (·.1), fits Tryz.f80.ntmps c)) = some (some s80, true) := by kernel_rfl
theorem r80 : Tryz.f80.results.toList = [.tmp 6] := by kernel_rfl
-- marionette/alu.plain
abbrev kp81 : List Nat := [6, 7]
def s81 : SC :=
 .seq (.ops [⟨some 6, .assign (.const (.int .u64 0)), false, none⟩,
  ⟨some 7, .assign (.const (.bool false)), false, none⟩]) <|
 .seq (.keep [0, 1, 2]) <|
 .seq (.seq (.ops [⟨some 8, .move (.tmp 0), false, none⟩]) <|
 .seq (.keep [1, 2, 8]) <|
 .block 0 <| .seq (.ops [⟨some 10, .binOp .eql 3 (.tmp 8) (.const (.int .i64 1)) 3, false, none⟩,
  ⟨some 9, .assign (.tmp 10), false, none⟩]) <|
 .seq (.keep [1, 2, 8, 9]) <|
 .cond (.tmp 9) (.seq (.ops [⟨some 11, .move (.tmp 2), false, none⟩,
  ⟨some 6, .assign (.tmp 11), false, none⟩,
  ⟨some 7, .assign (.const (.bool true)), false, none⟩]) <|
 .seq (.keep [6, 7]) <|
 .ret) <|
 .seq (.seq (.ops [⟨some 13, .binOp .eql 3 (.tmp 8) (.const (.int .i64 22)) 3, false, none⟩,
  ⟨some 12, .assign (.tmp 13), false, none⟩]) <|
 .seq (.keep [1, 2, 8, 12]) <|
 .cond (.tmp 12) (.skip) <|
 .ops [⟨some 14, .binOp .eql 3 (.tmp 8) (.const (.int .i64 31)) 3, false, none⟩,
  ⟨some 12, .assign (.tmp 14), false, none⟩]) <|
 .seq (.keep [1, 2, 8, 12]) <|
 .cond (.tmp 12) (.seq (.ops [⟨some 15, .move (.tmp 1), false, none⟩,
  ⟨some 16, .move (.tmp 2), false, none⟩,
  ⟨some 17, .binOp .add 22 (.tmp 15) (.tmp 16) 22, false, none⟩,
  ⟨some 6, .assign (.tmp 17), false, none⟩,
  ⟨some 7, .assign (.const (.bool true)), false, none⟩]) <|
 .seq (.keep [6, 7]) <|
 .ret) <|
 .seq (.ops [⟨some 19, .binOp .eql 3 (.tmp 8) (.const (.int .i64 32)) 3, false, none⟩,
  ⟨some 18, .assign (.tmp 19), false, none⟩]) <|
 .seq (.keep [1, 2, 8, 18]) <|
 .cond (.tmp 18) (.seq (.ops [⟨some 20, .move (.tmp 1), false, none⟩,
  ⟨some 21, .move (.tmp 2), false, none⟩,
  ⟨some 22, .binOp .sub 22 (.tmp 20) (.tmp 21) 22, false, none⟩,
  ⟨some 6, .assign (.tmp 22), false, none⟩,
  ⟨some 7, .assign (.const (.bool true)), false, none⟩]) <|
 .seq (.keep [6, 7]) <|
 .ret) <|
 .seq (.seq (.ops [⟨some 24, .binOp .eql 3 (.tmp 8) (.const (.int .i64 25)) 3, false, none⟩,
  ⟨some 23, .assign (.tmp 24), false, none⟩]) <|
 .seq (.keep [1, 2, 8, 23]) <|
 .cond (.tmp 23) (.skip) <|
 .ops [⟨some 25, .binOp .eql 3 (.tmp 8) (.const (.int .i64 36)) 3, false, none⟩,
  ⟨some 23, .assign (.tmp 25), false, none⟩]) <|
 .seq (.keep [1, 2, 8, 23]) <|
 .cond (.tmp 23) (.seq (.ops [⟨some 26, .move (.tmp 1), false, none⟩,
  ⟨some 27, .move (.tmp 2), false, none⟩,
  ⟨some 28, .binOp .xor 22 (.tmp 26) (.tmp 27) 22, false, none⟩,
  ⟨some 6, .assign (.tmp 28), false, none⟩,
  ⟨some 7, .assign (.const (.bool true)), false, none⟩]) <|
 .seq (.keep [6, 7]) <|
 .ret) <|
 .seq (.seq (.ops [⟨some 30, .binOp .eql 3 (.tmp 8) (.const (.int .i64 26)) 3, false, none⟩,
  ⟨some 29, .assign (.tmp 30), false, none⟩]) <|
 .seq (.keep [1, 2, 8, 29]) <|
 .cond (.tmp 29) (.skip) <|
 .ops [⟨some 31, .binOp .eql 3 (.tmp 8) (.const (.int .i64 39)) 3, false, none⟩,
  ⟨some 29, .assign (.tmp 31), false, none⟩]) <|
 .seq (.keep [1, 2, 8, 29]) <|
 .cond (.tmp 29) (.seq (.ops [⟨some 32, .move (.tmp 1), false, none⟩,
  ⟨some 33, .move (.tmp 2), false, none⟩,
  ⟨some 34, .binOp .or 22 (.tmp 32) (.tmp 33) 22, false, none⟩,
  ⟨some 6, .assign (.tmp 34), false, none⟩,
  ⟨some 7, .assign (.const (.bool true)), false, none⟩]) <|
 .seq (.keep [6, 7]) <|
 .ret) <|
 .seq (.seq (.ops [⟨some 36, .binOp .eql 3 (.tmp 8) (.const (.int .i64 27)) 3, false, none⟩,
  ⟨some 35, .assign (.tmp 36), false, none⟩]) <|
 .seq (.keep [1, 2, 8, 35]) <|
 .cond (.tmp 35) (.skip) <|
 .ops [⟨some 37, .binOp .eql 3 (.tmp 8) (.const (.int .i64 40)) 3, false, none⟩,
  ⟨some 35, .assign (.tmp 37), false, none⟩]) <|
 .seq (.keep [1, 2, 8, 35]) <|
 .cond (.tmp 35) (.seq (.ops [⟨some 38, .move (.tmp 1), false, none⟩,
  ⟨some 39, .move (.tmp 2), false, none⟩,
  ⟨some 40, .binOp .and 22 (.tmp 38) (.tmp 39) 22, false, none⟩,
  ⟨some 6, .assign (.tmp 40), false, none⟩,
  ⟨some 7, .assign (.const (.bool true)), false, none⟩]) <|
 .seq (.keep [6, 7]) <|
 .ret) <|
 .seq (.seq (.ops [⟨some 42, .binOp .eql 3 (.tmp 8) (.const (.int .i64 23)) 3, false, none⟩,
  ⟨some 41, .assign (.tmp 42), false, none⟩]) <|
 .seq (.keep [1, 2, 8, 41]) <|
 .cond (.tmp 41) (.skip) <|
 .ops [⟨some 43, .binOp .eql 3 (.tmp 8) (.const (.int .i64 34)) 3, false, none⟩,
  ⟨some 41, .assign (.tmp 43), false, none⟩]) <|
 .seq (.keep [1, 2, 8, 41]) <|
 .cond (.tmp 41) (.seq (.ops [⟨some 44, .move (.tmp 1), false, none⟩,
  ⟨some 45, .move (.tmp 2), false, none⟩,
  ⟨some 46, .call ⟨.value (.func 74), #[(.tmp 44), (.tmp 45)], #[22, 22]⟩, true, none⟩,
  ⟨some 47, .call ⟨.value (.func 111), #[(.tmp 46)], #[4]⟩, true, none⟩,
  ⟨some 6, .assign (.tmp 47), false, none⟩,
  ⟨some 7, .assign (.const (.bool true)), false, none⟩]) <|
 .seq (.keep [6, 7]) <|
 .ret) <|
 .seq (.seq (.ops [⟨some 49, .binOp .eql 3 (.tmp 8) (.const (.int .i64 24)) 3, false, none⟩,
  ⟨some 48, .assign (.tmp 49), false, none⟩]) <|
 .seq (.keep [1, 2, 8, 48]) <|
 .cond (.tmp 48) (.skip) <|
 .ops [⟨some 50, .binOp .eql 3 (.tmp 8) (.const (.int .i64 35)) 3, false, none⟩,
  ⟨some 48, .assign (.tmp 50), false, none⟩]) <|
 .seq (.keep [1, 2, 48]) <|
 .cond (.tmp 48) (.seq (.ops [⟨some 51, .move (.tmp 1), false, none⟩,
  ⟨some 52, .move (.tmp 2), false, none⟩,
  ⟨some 53, .binOp .lss 22 (.tmp 51) (.tmp 52) 22, false, none⟩,
  ⟨some 54, .call ⟨.value (.func 111), #[(.tmp 53)], #[4]⟩, true, none⟩,
  ⟨some 6, .assign (.tmp 54), false, none⟩,
  ⟨some 7, .assign (.const (.bool true)), false, none⟩]) <|
 .seq (.keep [6, 7]) <|
 .ret) <|
 .skip) <|
 .seq (.keep []) <|
 .seq (.ops [⟨some 6, .assign (.const (.int .u64 0)), false, none⟩,
  ⟨some 7, .assign (.const (.bool false)), false, none⟩]) <|
 .seq (.keep [6, 7]) <|
 .ret
theorem c81 : Tryz.f81.body.map (fun c => ((compile Tryz.prog kp81 [] kp81 c).map (·.1), fits Tryz.f81.ntmps c)) = some (some s81, true) := by kernel_rfl
theorem r81 : Tryz.f81.results.toList = [.tmp 6, .tmp 7] := by kernel_rfl
-- marionette/region.joined
abbrev kp91 : List Nat := [2]
def s91 : SC :=
 .seq (.ops [⟨some 2, .assign (.const (.slice none 0 0)), false, none⟩]) <|
 .seq (.keep [0]) <|
 .seq (.ops [⟨some 3, .assign (.const (.slice none 0 0)), false, none⟩]) <|
 .seq (.keep [0, 3]) <|
 .seq (.seq (.ops [⟨some 7, .move (.tmp 0), false, none⟩,
  ⟨some 8, .call ⟨.builtin .len, #[(.tmp 7)], #[82]⟩, false, none⟩,
  ⟨some 9, .move (.const (.int .i64 0)), false, none⟩]) <|
 .seq (.keep [3, 7, 8, 9]) <|
 .block 0 <| .loop <| .seq (.seq (.ops [⟨some 10, .binOp .lss 3 (.tmp 9) (.tmp 8) 3, false, none⟩]) <|
 .seq (.keep [3, 7, 8, 9, 10]) <|
 .seq (.cond (.tmp 10) (.skip) <|
 .exit 0) <|
 .seq (.keep [3, 7, 8, 9]) <|
 .seq (.block 1 <| .seq (.ops [⟨some 11, .indexAddr 82 (.tmp 7) (.tmp 9), false, none⟩,
  ⟨some 12, .load 85 (.tmp 11), false, none⟩,
  ⟨some 5, .alloc 85, true, none⟩,
  ⟨none, .store 85 (.tmp 5) (.tmp 12), true, none⟩]) <|
 .seq (.keep [3, 5, 7, 8, 9]) <|
 .seq (.seq (.ops [⟨some 13, .move (.tmp 3), false, none⟩,
  ⟨some 14, .call ⟨.builtin .len, #[(.tmp 13)], #[82]⟩, false, none⟩,
  ⟨some 6, .assign (.tmp 14), false, none⟩]) <|
 .seq (.keep [3, 5, 6, 7, 8, 9]) <|
 .seq (.seq (.ops [⟨some 15, .move (.tmp 6), false, none⟩]) <|
 .seq (.ops [⟨some 16, .binOp .gtr 3 (.tmp 15) (.const (.int .i64 0)) 3, false, none⟩]) <|
 .seq (.ops [⟨some 17, .move (.tmp 16), false, none⟩]) <|
 .seq (.ops [⟨some 18, .move (.tmp 3), false, some (17, true)⟩]) <|
 .seq (.ops [⟨some 19, .move (.tmp 6), false, some (17, true)⟩]) <|
 .seq (.ops [⟨some 20, .binOp .sub 3 (.tmp 19) (.const (.int .i64 1)) 3, false, some (17, true)⟩]) <|
 .seq (.ops [⟨some 21, .indexAddr 82 (.tmp 18) (.tmp 20), false, some (17, true)⟩]) <|
 .seq (.ops [⟨some 22, .fieldAddr 85 (.tmp 21) 1, false, some (17, true)⟩]) <|
 .seq (.ops [⟨some 23, .load 22 (.tmp 22), false, some (17, true)⟩]) <|
 .seq (.ops [⟨some 24, .fieldAddr 85 (.tmp 5) 0, false, some (17, true)⟩]) <|
 .seq (.ops [⟨some 25, .load 22 (.tmp 24), false, some (17, true)⟩]) <|
 .seq (.ops [⟨some 26, .binOp .eql 22 (.tmp 23) (.tmp 25) 22, false, some (17, true)⟩]) <|
 .seq (.ops [⟨some 27, .pick (.tmp 17) (.tmp 26) (.const (.bool false)), false, none⟩]) <|
 .seq (.ops [⟨some 28, .move (.tmp 27), false, none⟩]) <|
 .seq (.ops [⟨some 29, .move (.tmp 3), false, some (28, true)⟩]) <|
 .seq (.ops [⟨some 30, .move (.tmp 6), false, some (28, true)⟩]) <|
 .seq (.ops [⟨some 31, .binOp .sub 3 (.tmp 30) (.const (.int .i64 1)) 3, false, some (28, true)⟩]) <|
 .seq (.ops [⟨some 32, .indexAddr 82 (.tmp 29) (.tmp 31), false, some (28, true)⟩]) <|
 .seq (.ops [⟨some 33, .fieldAddr 85 (.tmp 32) 2, false, some (28, true)⟩]) <|
 .seq (.ops [⟨some 34, .load 3 (.tmp 33), false, some (28, true)⟩]) <|
 .seq (.ops [⟨some 35, .fieldAddr 85 (.tmp 5) 2, false, some (28, true)⟩]) <|
 .seq (.ops [⟨some 36, .load 3 (.tmp 35), false, some (28, true)⟩]) <|
 .seq (.ops [⟨some 37, .binOp .eql 3 (.tmp 34) (.tmp 36) 3, false, some (28, true)⟩]) <|
 .seq (.ops [⟨some 38, .pick (.tmp 28) (.tmp 37) (.const (.bool false)), false, none⟩]) <|
 .skip) <|
 .seq (.keep [3, 5, 6, 7, 8, 9, 38]) <|
 .cond (.tmp 38) (.seq (.ops [⟨some 39, .move (.tmp 3), false, none⟩,
  ⟨some 40, .move (.tmp 6), false, none⟩,
  ⟨some 41, .binOp .sub 3 (.tmp 40) (.const (.int .i64 1)) 3, false, none⟩,
  ⟨some 42, .fieldAddr 85 (.tmp 5) 1, false, none⟩,
  ⟨some 43, .load 22 (.tmp 42), false, none⟩,
  ⟨some 44, .indexAddr 82 (.tmp 39) (.tmp 41), false, none⟩,
  ⟨some 45, .fieldAddr 85 (.tmp 44) 1, false, none⟩,
  ⟨none, .store 22 (.tmp 45) (.tmp 43), true, none⟩]) <|
 .seq (.keep [3, 7, 8, 9]) <|
 .exit 1) <|
 .skip) <|
 .seq (.keep [3, 5, 7, 8, 9]) <|
 .ops [⟨some 46, .move (.tmp 3), false, none⟩,
  ⟨some 47, .load 85 (.tmp 5), false, none⟩,
  ⟨some 48, .buildSlice 82 1 #[(0, (.tmp 47))], true, none⟩,
  ⟨some 49, .call ⟨.builtin .append, #[(.tmp 46), (.tmp 48)], #[82, 82]⟩, true, none⟩,
  ⟨some 3, .assign (.tmp 49), false, none⟩]) <|
 .seq (.keep [3, 7, 8, 9]) <|
 .ops [⟨some 50, .binOp .add 3 (.tmp 9) (.const (.int .i64 1)) 3, false, none⟩,
  ⟨some 9, .move (.tmp 50), false, none⟩]) <|
 .keep [3, 7, 8, 9]) <|
 .seq (.keep [3]) <|
 .seq (.ops [⟨some 51, .move (.tmp 3), false, none⟩,
  ⟨some 2, .assign (.tmp 51), false, none⟩]) <|
 .seq (.keep [2]) <|
 .ret
theorem c91 : Tryz.f91.body.map (fun c => ((compile Tryz.prog kp91 [] kp91 c).map (·.1), fits Tryz.f91.ntmps c)) = some (some s91, true) := by kernel_rfl
theorem r91 : Tryz.f91.results.toList = [.tmp 2] := by kernel_rfl
-- marionette/region.without
abbrev kp92 : List Nat := [6]
def s92 : SC :=
 .seq (.ops [⟨some 6, .assign (.const (.slice none 0 0)), false, none⟩]) <|
 .seq (.keep [0, 1, 2]) <|
 .seq (.ops [⟨some 7, .assign (.const (.slice none 0 0)), false, none⟩]) <|
 .seq (.keep [0, 1, 2, 7]) <|
 .seq (.seq (.ops [⟨some 10, .move (.tmp 0), false, none⟩,
  ⟨some 11, .call ⟨.builtin .len, #[(.tmp 10)], #[82]⟩, false, none⟩,
  ⟨some 12, .move (.const (.int .i64 0)), false, none⟩]) <|
 .seq (.keep [1, 2, 7, 10, 11, 12]) <|
 .block 0 <| .loop <| .seq (.seq (.ops [⟨some 13, .binOp .lss 3 (.tmp 12) (.tmp 11) 3, false, none⟩]) <|
 .seq (.keep [1, 2, 7, 10, 11, 12, 13]) <|
 .seq (.cond (.tmp 13) (.skip) <|
 .exit 0) <|
 .seq (.keep [1, 2, 7, 10, 11, 12]) <|
 .seq (.block 1 <| .seq (.ops [⟨some 14, .indexAddr 82 (.tmp 10) (.tmp 12), false, none⟩,
  ⟨some 15, .load 85 (.tmp 14), false, none⟩,
  ⟨some 9, .alloc 85, true, none⟩,
  ⟨none, .store 85 (.tmp 9) (.tmp 15), true, none⟩]) <|
 .seq (.keep [1, 2, 7, 9, 10, 11, 12]) <|
 .seq (.seq (.ops [⟨some 16, .fieldAddr 85 (.tmp 9) 1, false, none⟩,
  ⟨some 17, .load 22 (.tmp 16), false, none⟩,
  ⟨some 18, .move (.tmp 1), false, none⟩,
  ⟨some 19, .binOp .leq 22 (.tmp 17) (.tmp 18) 22, false, none⟩,
  ⟨some 20, .move (.tmp 19), false, none⟩,
  ⟨some 21, .fieldAddr 85 (.tmp 9) 0, false, some (20, false)⟩,
  ⟨some 22, .load 22 (.tmp 21), false, some (20, false)⟩,
  ⟨some 23, .move (.tmp 2), false, some (20, false)⟩,
  ⟨some 24, .binOp .geq 22 (.tmp 22) (.tmp 23) 22, false, some (20, false)⟩,
  ⟨some 25, .pick (.tmp 20) (.const (.bool true)) (.tmp 24), false, none⟩]) <|
 .seq (.keep [1, 2, 7, 9, 10, 11, 12, 25]) <|
 .cond (.tmp 25) (.seq (.ops [⟨some 26, .move (.tmp 7), false, none⟩,
  ⟨some 27, .load 85 (.tmp 9), false, none⟩,
  ⟨some 28, .buildSlice 82 1 #[(0, (.tmp 27))], true, none⟩,
  ⟨some 29, .call ⟨.builtin .append, #[(.tmp 26), (.tmp 28)], #[82, 82]⟩, true, none⟩,
  ⟨some 7, .assign (.tmp 29), false, none⟩]) <|
 .seq (.keep [1, 2, 7, 10, 11, 12]) <|
 .exit 1) <|
 .skip) <|
 .seq (.keep [1, 2, 7, 9, 10, 11, 12]) <|
 .seq (.seq (.ops [⟨some 30, .fieldAddr 85 (.tmp 9) 0, false, none⟩,
  ⟨some 31, .load 22 (.tmp 30), false, none⟩,
  ⟨some 32, .move (.tmp 1), false, none⟩,
  ⟨some 33, .binOp .lss 22 (.tmp 31) (.tmp 32) 22, false, none⟩]) <|
 .seq (.keep [1, 2, 7, 9, 10, 11, 12, 33]) <|
 .cond (.tmp 33) (.ops [⟨some 34, .move (.tmp 7), false, none⟩,
  ⟨some 35, .fieldAddr 85 (.tmp 9) 0, false, none⟩,
  ⟨some 36, .load 22 (.tmp 35), false, none⟩,
  ⟨some 37, .move (.tmp 1), false, none⟩,
  ⟨some 38, .fieldAddr 85 (.tmp 9) 2, false, none⟩,
  ⟨some 39, .load 3 (.tmp 38), false, none⟩,
  ⟨some 40, .build 85 #[(0, (.tmp 36)), (1, (.tmp 37)), (2, (.tmp 39))], false, none⟩,
  ⟨some 41, .buildSlice 82 1 #[(0, (.tmp 40))], true, none⟩,
  ⟨some 42, .call ⟨.builtin .append, #[(.tmp 34), (.tmp 41)], #[82, 82]⟩, true, none⟩,
  ⟨some 7, .assign (.tmp 42), false, none⟩]) <|
 .skip) <|
 .seq (.keep [1, 2, 7, 9, 10, 11, 12]) <|
 .seq (.ops [⟨some 43, .fieldAddr 85 (.tmp 9) 1, false, none⟩,
  ⟨some 44, .load 22 (.tmp 43), false, none⟩,
  ⟨some 45, .move (.tmp 2), false, none⟩,
  ⟨some 46, .binOp .gtr 22 (.tmp 44) (.tmp 45) 22, false, none⟩]) <|
 .seq (.keep [1, 2, 7, 9, 10, 11, 12, 46]) <|
 .cond (.tmp 46) (.ops [⟨some 47, .move (.tmp 7), false, none⟩,
  ⟨some 48, .move (.tmp 2), false, none⟩,
  ⟨some 49, .fieldAddr 85 (.tmp 9) 1, false, none⟩,
  ⟨some 50, .load 22 (.tmp 49), false, none⟩,
  ⟨some 51, .fieldAddr 85 (.tmp 9) 2, false, none⟩,
  ⟨some 52, .load 3 (.tmp 51), false, none⟩,
  ⟨some 53, .build 85 #[(0, (.tmp 48)), (1, (.tmp 50)), (2, (.tmp 52))], false, none⟩,
  ⟨some 54, .buildSlice 82 1 #[(0, (.tmp 53))], true, none⟩,
  ⟨some 55, .call ⟨.builtin .append, #[(.tmp 47), (.tmp 54)], #[82, 82]⟩, true, none⟩,
  ⟨some 7, .assign (.tmp 55), false, none⟩]) <|
 .skip) <|
 .seq (.keep [1, 2, 7, 10, 11, 12]) <|
 .ops [⟨some 56, .binOp .add 3 (.tmp 12) (.const (.int .i64 1)) 3, false, none⟩,
  ⟨some 12, .move (.tmp 56), false, none⟩]) <|
 .keep [1, 2, 7, 10, 11, 12]) <|
 .seq (.keep [7]) <|
 .seq (.ops [⟨some 57, .move (.tmp 7), false, none⟩,
  ⟨some 6, .assign (.tmp 57), false, none⟩]) <|
 .seq (.keep [6]) <|
 .ret
theorem c92 : Tryz.f92.body.map (fun c => ((compile Tryz.prog kp92 [] kp92 c).map (·.1), fits Tryz.f92.ntmps c)) = some (some s92, true) := by kernel_rfl
theorem r92 : Tryz.f92.results.toList = [.tmp 6] := by kernel_rfl
-- marionette/region.with$1
abbrev kp93 : List Nat := [3]
def s93 : SC :=
 .seq (.ops [⟨some 2, .box 85 (.tmp 0), true, none⟩,
  ⟨some 3, .assign (.const (.bool false)), false, none⟩]) <|
 .seq (.keep [1, 2]) <|
 .seq (.ops [⟨some 4, .fieldAddr 85 (.tmp 2) 0, false, none⟩,
  ⟨some 5, .load 22 (.tmp 4), false, none⟩,
  ⟨some 6, .fieldAddr 85 (.tmp 1) 0, false, none⟩,
  ⟨some 7, .load 22 (.tmp 6), false, none⟩,
  ⟨some 8, .binOp .gtr 22 (.tmp 5) (.tmp 7) 22, false, none⟩,
  ⟨some 3, .assign (.tmp 8), false, none⟩]) <|
 .seq (.keep [3]) <|
 .ret
theorem c93 : Tryz.f93.body.map (fun c => ((compile Tryz.prog kp93 [] kp93 c).map (·.1), fits Tryz.f93.ntmps c)) = some (some s93, true) := by kernel_rfl
theorem r93 : Tryz.f93.results.toList = [.tmp 3] := by kernel_rfl
-- slices.Insert[[]marionette/api.Region,marionette/api.Region]
abbrev kp94 : List Nat := [6]
def s94 : SC :=
 .seq (.ops [⟨some 6, .assign (.const (.slice none 0 0)), false, none⟩]) <|
 .seq (.keep [0, 1, 2]) <|
 .seq (.ops [⟨some 10, .move (.tmp 0), false, none⟩,
  ⟨some 11, .move (.tmp 1), false, none⟩,
  ⟨some 12, .slice 82 (.tmp 10) (some (.tmp 11)) none none, false, none⟩]) <|
 .seq (.keep [0, 1, 2]) <|
 .seq (.ops [⟨some 13, .move (.tmp 2), false, none⟩,
  ⟨some 14, .call ⟨.builtin .len, #[(.tmp 13)], #[82]⟩, false, none⟩,
  ⟨some 7, .assign (.tmp 14), false, none⟩]) <|
 .seq (.keep [0, 1, 2, 7]) <|
 .seq (.seq (.ops [⟨some 15, .move (.tmp 7), false, none⟩,
  ⟨some 16, .binOp .eql 3 (.tmp 15) (.const (.int .i64 0)) 3, false, none⟩]) <|
 .seq (.keep [0, 1, 2, 7, 16]) <|
 .cond (.tmp 16) (.seq (.ops [⟨some 17, .move (.tmp 0), false, none⟩,
  ⟨some 6, .assign (.tmp 17), false, none⟩]) <|
 .seq (.keep [6]) <|
 .ret) <|
 .skip) <|
 .seq (.keep [0, 1, 2, 7]) <|
 .seq (.ops [⟨some 18, .move (.tmp 0), false, none⟩,
  ⟨some 19, .call ⟨.builtin .len, #[(.tmp 18)], #[82]⟩, false, none⟩,
  ⟨some 8, .assign (.tmp 19), false, none⟩]) <|
 .seq (.keep [0, 1, 2, 7, 8]) <|
 .seq (.seq (.ops [⟨some 20, .move (.tmp 1), false, none⟩,
  ⟨some 21, .move (.tmp 8), false, none⟩,
  ⟨some 22, .binOp .eql 3 (.tmp 20) (.tmp 21) 3, false, none⟩]) <|
 .seq (.keep [0, 1, 2, 7, 8, 22]) <|
 .cond (.tmp 22) (.seq (.ops [⟨some 23, .move (.tmp 0), false, none⟩,
  ⟨some 24, .move (.tmp 2), false, none⟩,
  ⟨some 25, .call ⟨.builtin .append, #[(.tmp 23), (.tmp 24)], #[82, 82]⟩, true, none⟩,
  ⟨some 6, .assign (.tmp 25), false, none⟩]) <|
 .seq (.keep [6]) <|
 .ret) <|
 .skip) <|
 .seq (.keep [0, 1, 2, 7, 8]) <|
 .seq (.seq (.ops [⟨some 26, .move (.tmp 8), false, none⟩,
  ⟨some 27, .move (.tmp 7), false, none⟩,
  ⟨some 28, .binOp .add 3 (.tmp 26) (.tmp 27) 3, false, none⟩,
  ⟨some 29, .move (.tmp 0), false, none⟩,
  ⟨some 30, .call ⟨.builtin .cap, #[(.tmp 29)], #[82]⟩, false, none⟩,
  ⟨some 31, .binOp .gtr 3 (.tmp 28) (.tmp 30) 3, false, none⟩]) <|
 .seq (.keep [0, 1, 2, 7, 8, 31]) <|
 .cond (.tmp 31) (.seq (.ops [⟨some 32, .move (.tmp 0), false, none⟩,
  ⟨some 33, .move (.tmp 1), false, none⟩,
  ⟨some 34, .slice 82 (.tmp 32) none (some (.tmp 33)) none, false, none⟩,
  ⟨some 35, .move (.tmp 8), false, none⟩,
  ⟨some 36, .move (.tmp 7), false, none⟩,
  ⟨some 37, .binOp .add 3 (.tmp 35) (.tmp 36) 3, false, none⟩,
  ⟨some 38, .move (.tmp 1), false, none⟩,
  ⟨some 39, .binOp .sub 3 (.tmp 37) (.tmp 38) 3, false, none⟩,
  ⟨some 40, .call ⟨.builtin .append, #[(.tmp 34), (.tmp 39)], #[82, 3]⟩, true, none⟩,
  ⟨some 9, .assign (.tmp 40), false, none⟩]) <|
 .seq (.keep [0, 1, 2, 7, 9]) <|
 .seq (.ops [⟨some 41, .move (.tmp 9), false, none⟩,
  ⟨some 42, .move (.tmp 1), false, none⟩,
  ⟨some 43, .slice 82 (.tmp 41) (some (.tmp 42)) none none, false, none⟩,
  ⟨some 44, .move (.tmp 2), false, none⟩,
  ⟨some 45, .call ⟨.builtin .copy, #[(.tmp 43), (.tmp 44)], #[82, 82]⟩, true, none⟩]) <|
 .seq (.keep [0, 1, 7, 9]) <|
 .seq (.seq (.ops [⟨some 46, .move (.tmp 9), false, none⟩]) <|
 .seq (.ops [⟨some 47, .move (.tmp 1), false, none⟩]) <|
 .seq (.ops [⟨some 48, .move (.tmp 7), false, none⟩]) <|
 .seq (.ops [⟨some 49, .binOp .add 3 (.tmp 47) (.tmp 48) 3, false, none⟩]) <|
 .seq (.ops [⟨some 50, .slice 82 (.tmp 46) (some (.tmp 49)) none none, false, none⟩]) <|
 .seq (.ops [⟨some 51, .move (.tmp 0), false, none⟩]) <|
 .seq (.ops [⟨some 52, .move (.tmp 1), false, none⟩]) <|
 .seq (.ops [⟨some 53, .slice 82 (.tmp 51) (some (.tmp 52)) none none, false, none⟩]) <|
 .seq (.ops [⟨some 54, .call ⟨.builtin .copy, #[(.tmp 50), (.tmp 53)], #[82, 82]⟩, true, none⟩]) <|
 .skip) <|
 .seq (.keep [9]) <|
 .seq (.ops [⟨some 55, .move (.tmp 9), false, none⟩,
  ⟨some 6, .assign (.tmp 55), false, none⟩]) <|
 .seq (.keep [6]) <|
 .ret) <|
 .skip) <|
 .seq (.keep [0, 1, 2, 7, 8]) <|
 .seq (.ops [⟨some 56, .move (.tmp 0), false, none⟩,
  ⟨some 57, .move (.tmp 8), false, none⟩,
  ⟨some 58, .move (.tmp 7), false, none⟩,
  ⟨some 59, .binOp .add 3 (.tmp 57) (.tmp 58) 3, false, none⟩,
  ⟨some 60, .slice 82 (.tmp 56) none (some (.tmp 59)) none, false, none⟩,
  ⟨some 0, .assign (.tmp 60), false, none⟩]) <|
 .seq (.keep [0, 1, 2, 7, 8]) <|
 .seq (.seq (.ops [⟨some 61, .move (.tmp 2), false, none⟩,
  ⟨some 62, .move (.tmp 0), false, none⟩,
  ⟨some 63, .move (.tmp 1), false, none⟩,
  ⟨some 64, .move (.tmp 7), false, none⟩,
  ⟨some 65, .binOp .add 3 (.tmp 63) (.tmp 64) 3, false, none⟩,
  ⟨some 66, .slice 82 (.tmp 62) (some (.tmp 65)) none none, false, none⟩,
  ⟨some 67, .call ⟨.value (.func 119), #[(.tmp 61), (.tmp 66)], #[82, 82]⟩, true, none⟩,
  ⟨some 68, .unOp .not 4 (.tmp 67), false, none⟩]) <|
 .seq (.keep [0, 1, 2, 7, 8, 68]) <|
 .cond (.tmp 68) (.seq (.seq (.ops [⟨some 69, .move (.tmp 0), false, none⟩]) <|
 .seq (.ops [⟨some 70, .move (.tmp 1), false, none⟩]) <|
 .seq (.ops [⟨some 71, .move (.tmp 7), false, none⟩]) <|
 .seq (.ops [⟨some 72, .binOp .add 3 (.tmp 70) (.tmp 71) 3, false, none⟩]) <|
 .seq (.ops [⟨some 73, .slice 82 (.tmp 69) (some (.tmp 72)) none none, false, none⟩]) <|
 .seq (.ops [⟨some 74, .move (.tmp 0), false, none⟩]) <|
 .seq (.ops [⟨some 75, .move (.tmp 1), false, none⟩]) <|
 .seq (.ops [⟨some 76, .slice 82 (.tmp 74) (some (.tmp 75)) none none, false, none⟩]) <|
 .seq (.ops [⟨some 77, .call ⟨.builtin .copy, #[(.tmp 73), (.tmp 76)], #[82, 82]⟩, true, none⟩]) <|
 .skip) <|
 .seq (.keep [0, 1, 2]) <|
 .seq (.ops [⟨some 78, .move (.tmp 0), false, none⟩,
  ⟨some 79, .move (.tmp 1), false, none⟩,
  ⟨some 80, .slice 82 (.tmp 78) (some (.tmp 79)) none none, false, none⟩,
  ⟨some 81, .move (.tmp 2), false, none⟩,
  ⟨some 82, .call ⟨.builtin .copy, #[(.tmp 80), (.tmp 81)], #[82, 82]⟩, true, none⟩]) <|
 .seq (.keep [0]) <|
 .seq (.ops [⟨some 83, .move (.tmp 0), false, none⟩,
  ⟨some 6, .assign (.tmp 83), false, none⟩]) <|
 .seq (.keep [6]) <|
 .ret) <|
 .skip) <|
 .seq (.keep [0, 1, 2, 7, 8]) <|
 .seq (.ops [⟨some 84, .move (.tmp 0), false, none⟩,
  ⟨some 85, .move (.tmp 8), false, none⟩,
  ⟨some 86, .slice 82 (.tmp 84) (some (.tmp 85)) none none, false, none⟩,
  ⟨some 87, .move (.tmp 2), false, none⟩,
  ⟨some 88, .call ⟨.builtin .copy, #[(.tmp 86), (.tmp 87)], #[82, 82]⟩, true, none⟩]) <|
 .seq (.keep [0, 1, 7]) <|
 .seq (.ops [⟨some 89, .move (.tmp 0), false, none⟩,
  ⟨some 90, .move (.tmp 1), false, none⟩,
  ⟨some 91, .slice 82 (.tmp 89) (some (.tmp 90)) none none, false, none⟩,
  ⟨some 92, .move (.tmp 7), false, none⟩,
  ⟨some 93, .call ⟨.value (.func 120), #[(.tmp 91), (.tmp 92)], #[82, 3]⟩, true, none⟩]) <|
 .seq (.keep [0]) <|
 .seq (.ops [⟨some 94, .move (.tmp 0), false, none⟩,
  ⟨some 6, .assign (.tmp 94), false, none⟩]) <|
 .seq (.keep [6]) <|
 .ret
theorem c94 : Tryz.f94.body.map (fun c => ((compile Tryz.prog kp94 [] kp94 c).map (·.1), fits Tryz.f94.ntmps c)) = some (some s94, true) := by kernel_rfl
theorem r94 : Tryz.f94.results.toList = [.tmp 6] := by kernel_rfl
-- marionette/page.wide
abbrev kp95 : List Nat := [4]
def s95 : SC :=
 .seq (.ops [⟨some 4, .assign (.const (.bool false)), false, none⟩]) <|
 .seq (.keep [0, 1]) <|
 .seq (.ops [⟨some 5, .move (.tmp 1), false, none⟩,
  ⟨some 6, .binOp .add 22 (.tmp 5) (.const (.int .u64 4096)) 22, false, none⟩,
  ⟨some 7, .binOp .sub 22 (.tmp 6) (.const (.int .u64 1)) 22, false, none⟩,
  ⟨some 8, .binOp .quo 22 (.tmp 7) (.const (.int .u64 4096)) 22, false, none⟩,
  ⟨some 9, .move (.tmp 0), false, none⟩,
  ⟨some 10, .binOp .quo 22 (.tmp 9) (.const (.int .u64 4096)) 22, false, none⟩,
  ⟨some 11, .binOp .sub 22 (.tmp 8) (.tmp 10) 22, false, none⟩,
  ⟨some 12, .binOp .gtr 22 (.tmp 11) (.const (.int .u64 4096)) 22, false, none⟩,
  ⟨some 4, .assign (.tmp 12), false, none⟩]) <|
 .seq (.keep [4]) <|
 .ret
theorem c95 : Tryz.f95.body.map (fun c => ((compile Tryz.prog kp95 [] kp95 c).map (·.1), fits Tryz.f95.ntmps c)) = some (some s95, true) := by kernel_rfl
theorem r95 : Tryz.f95.results.toList = [.tmp 4] := by kernel_rfl
-- (marionette/comp.half).second
abbrev kp97 : List Nat := [2]
def s97 : SC :=
 .seq (.ops [⟨some 2, .alloc 63, true, none⟩]) <|
 .seq (.keep [0, 2]) <|
 .seq (.ops [⟨some 4, .move (.tmp 0), false, none⟩,
  ⟨some 5, .call ⟨.value (.func 125), #[(.tmp 4)], #[157]⟩, true, none⟩,
  ⟨some 3, .assign (.tmp 5), false, none⟩]) <|
 .seq (.keep [0, 2, 3]) <|
 .seq (.seq (.ops [⟨some 6, .move (.tmp 0), false, none⟩,
  ⟨some 7, .call ⟨.value (.func 122), #[(.tmp 6), (.const (.int .i64 13)), (.const (.int .i64 3)), (.const (.int .i64 0))], #[157, 3, 3, 3]⟩, true, none⟩]) <|
 .seq (.keep [0, 2, 3, 7]) <|
 .block 0 <| .seq (.ops [⟨some 9, .binOp .eql 3 (.tmp 7) (.const (.int .i64 0)) 3, false, none⟩,
  ⟨some 8, .assign (.tmp 9), false, none⟩]) <|
 .seq (.keep [0, 2, 3, 7, 8]) <|
 .cond (.tmp 8) (.seq (.ops [⟨some 10, .move (.tmp 3), false, none⟩,
  ⟨some 11, .move (.tmp 3), false, none⟩,
  ⟨some 12, .move (.tmp 0), false, none⟩,
  ⟨some 13, .call ⟨.value (.func 126), #[(.tmp 12)], #[157]⟩, true, none⟩,
  ⟨some 14, .build 63 #[(0, (.const (.int .i64 22))), (1, (.tmp 10)), (2, (.tmp 11)), (4, (.tmp 13))], false, none⟩,
  ⟨none, .store 63 (.tmp 2) (.tmp 14), true, none⟩]) <|
 .seq (.keep [2]) <|
 .ret) <|
 .seq (.ops [⟨some 16, .binOp .eql 3 (.tmp 7) (.const (.int .i64 1)) 3, false, none⟩,
  ⟨some 15, .assign (.tmp 16), false, none⟩]) <|
 .seq (.keep [0, 2, 3, 7, 15]) <|
 .cond (.tmp 15) (.seq (.seq (.ops [⟨some 17, .move (.tmp 3), false, none⟩,
  ⟨some 18, .binOp .gtr 3 (.tmp 17) (.const (.int .i64 0)) 3, false, none⟩]) <|
 .seq (.keep [0, 2, 3, 18]) <|
 .cond (.tmp 18) (.seq (.ops [⟨some 19, .move (.tmp 3), false, none⟩,
  ⟨some 20, .move (.tmp 3), false, none⟩,
  ⟨some 21, .move (.tmp 0), false, none⟩,
  ⟨some 22, .call ⟨.value (.func 126), #[(.tmp 21)], #[157]⟩, true, none⟩,
  ⟨some 23, .build 63 #[(0, (.const (.int .i64 41))), (1, (.tmp 19)), (2, (.tmp 20)), (4, (.tmp 22))], false, none⟩,
  ⟨none, .store 63 (.tmp 2) (.tmp 23), true, none⟩]) <|
 .seq (.keep [2]) <|
 .ret) <|
 .skip) <|
 .seq (.keep [2]) <|
 .seq (.ops [⟨some 24, .build 63 #[], false, none⟩,
  ⟨none, .store 63 (.tmp 2) (.tmp 24), true, none⟩]) <|
 .seq (.keep [2]) <|
 .ret) <|
 .seq (.ops [⟨some 26, .binOp .eql 3 (.tmp 7) (.const (.int .i64 2)) 3, false, none⟩,
  ⟨some 25, .assign (.tmp 26), false, none⟩]) <|
 .seq (.keep [0, 2, 3, 7, 25]) <|
 .cond (.tmp 25) (.seq (.ops [⟨some 27, .move (.tmp 3), false, none⟩,
  ⟨some 28, .move (.tmp 0), false, none⟩,
  ⟨some 29, .call ⟨.value (.func 126), #[(.tmp 28)], #[157]⟩, true, none⟩,
  ⟨some 30, .build 63 #[(0, (.const (.int .i64 22))), (1, (.tmp 27)), (4, (.tmp 29))], false, none⟩,
  ⟨none, .store 63 (.tmp 2) (.tmp 30), true, none⟩]) <|
 .seq (.keep [2]) <|
 .ret) <|
 .seq (.ops [⟨some 32, .binOp .eql 3 (.tmp 7) (.const (.int .i64 3)) 3, false, none⟩,
  ⟨some 31, .assign (.tmp 32), false, none⟩]) <|
 .seq (.keep [0, 2, 7, 31]) <|
 .cond (.tmp 31) (.seq (.ops [⟨some 33, .move (.tmp 0), false, none⟩,
  ⟨some 34, .call ⟨.value (.func 127), #[(.tmp 33)], #[157]⟩, true, none⟩,
  ⟨none, .store 63 (.tmp 2) (.tmp 34), true, none⟩]) <|
 .seq (.keep [2]) <|
 .ret) <|
 .seq (.ops [⟨some 36, .binOp .eql 3 (.tmp 7) (.const (.int .i64 4)) 3, false, none⟩,
  ⟨some 35, .assign (.tmp 36), false, none⟩]) <|
 .seq (.keep [0, 2, 7, 35]) <|
 .cond (.tmp 35) (.seq (.ops [⟨some 37, .move (.tmp 0), false, none⟩,
  ⟨some 38, .call ⟨.value (.func 128), #[(.tmp 37)], #[157]⟩, true, none⟩,
  ⟨none, .store 63 (.tmp 2) (.tmp 38), true, none⟩]) <|
 .seq (.keep [2]) <|
 .ret) <|
 .seq (.ops [⟨some 40, .binOp .eql 3 (.tmp 7) (.const (.int .i64 5)) 3, false, none⟩,
  ⟨some 39, .assign (.tmp 40), false, none⟩]) <|
 .seq (.keep [0, 2, 7, 39]) <|
 .cond (.tmp 39) (.seq (.ops [⟨some 41, .move (.tmp 0), false, none⟩,
  ⟨some 42, .call ⟨.value (.func 129), #[(.tmp 41)], #[157]⟩, true, none⟩,
  ⟨some 43, .build 63 #[(0, (.const (.int .i64 3))), (4, (.tmp 42))], false, none⟩,
  ⟨none, .store 63 (.tmp 2) (.tmp 43), true, none⟩]) <|
 .seq (.keep [2]) <|
 .ret) <|
 .seq (.ops [⟨some 45, .binOp .eql 3 (.tmp 7) (.const (.int .i64 6)) 3, false, none⟩,
  ⟨some 44, .assign (.tmp 45), false, none⟩]) <|
 .seq (.keep [0, 2, 44]) <|
 .cond (.tmp 44) (.seq (.ops [⟨some 46, .move (.tmp 0), false, none⟩,
  ⟨some 47, .call ⟨.value (.func 121), #[(.tmp 46), (.const (.int .i64 7))], #[157, 3]⟩, true, none⟩,
  ⟨some 48, .move (.tmp 0), false, none⟩,
  ⟨some 49, .call ⟨.value (.func 130), #[(.tmp 48)], #[157]⟩, true, none⟩,
  ⟨some 50, .build 63 #[(0, (.const (.int .i64 5))), (2, (.tmp 47)), (4, (.tmp 49))], false, none⟩,
  ⟨none, .store 63 (.tmp 2) (.tmp 50), true, none⟩]) <|
 .seq (.keep [2]) <|
 .ret) <|
 .skip) <|
 .seq (.keep [0, 2]) <|
 .seq (.ops [⟨some 51, .move (.tmp 0), false, none⟩,
  ⟨some 52, .call ⟨.value (.func 121), #[(.tmp 51), (.const (.int .i64 7))], #[157, 3]⟩, true, none⟩,
  ⟨some 53, .move (.tmp 0), false, none⟩,
  ⟨some 54, .call ⟨.value (.func 130), #[(.tmp 53)], #[157]⟩, true, none⟩,
  ⟨some 55, .build 63 #[(0, (.const (.int .i64 6))), (2, (.tmp 52)), (4, (.tmp 54))], false, none⟩,
  ⟨none, .store 63 (.tmp 2) (.tmp 55), true, none⟩]) <|
 .seq (.keep [2]) <|
 .ret
theorem c97 : Tryz.f97.body.map (fun c => ((compile Tryz.prog kp97 [] kp97 c).map (·.1), fits Tryz.f97.ntmps c)) = some (some s97, true) := by kernel_rfl
theorem r97 : Tryz.f97.results.toList = [.cell 2 63] := by kernel_rfl
-- (marionette/comp.half).bits
abbrev kp122 : List Nat := [8]
def s122 : SC :=
 .seq (.ops [⟨some 8, .assign (.const (.int .i64 0)), false, none⟩]) <|
 .seq (.keep [0, 1, 2, 3]) <|
 .seq (.seq (.ops [⟨some 9, .move (.tmp 0), false, none⟩]) <|
 .seq (.ops [⟨some 10, .move (.tmp 1), false, none⟩]) <|
 .seq (.ops [⟨some 11, .binOp .shr 157 (.tmp 9) (.tmp 10) 3, false, none⟩]) <|
 .seq (.ops [⟨some 12, .convert 157 3 (.tmp 11), false, none⟩]) <|
 .seq (.ops [⟨some 13, .move (.tmp 2), false, none⟩]) <|
 .seq (.ops [⟨some 14, .binOp .shl 3 (.const (.int .i64 1)) (.tmp 13) 3, false, none⟩]) <|
 .seq (.ops [⟨some 15, .binOp .sub 3 (.tmp 14) (.const (.int .i64 1)) 3, false, none⟩]) <|
 .seq (.ops [⟨some 16, .binOp .and 3 (.tmp 12) (.tmp 15) 3, false, none⟩]) <|
 .seq (.ops [⟨some 17, .move (.tmp 3), false, none⟩]) <|
 .seq (.ops [⟨some 18, .binOp .shl 3 (.tmp 16) (.tmp 17) 3, false, none⟩]) <|
 .seq (.ops [⟨some 8, .assign (.tmp 18), false, none⟩]) <|
 .skip) <|
 .seq (.keep [8]) <|
 .ret
theorem c122 : Tryz.f122.body.map (fun c => ((compile Tryz.prog kp122 [] kp122 c).map (·.1), fits Tryz.f122.ntmps c)) = some (some s122, true) := by kernel_rfl
theorem r122 : Tryz.f122.results.toList = [.tmp 8] := by kernel_rfl
-- (marionette/comp.half).rd
abbrev kp125 : List Nat := [2]
def s125 : SC :=
 .seq (.ops [⟨some 2, .assign (.const (.int .i64 0)), false, none⟩]) <|
 .seq (.keep [0]) <|
 .seq (.ops [⟨some 3, .move (.tmp 0), false, none⟩,
  ⟨some 4, .call ⟨.value (.func 122), #[(.tmp 3), (.const (.int .i64 7)), (.const (.int .i64 5)), (.const (.int .i64 0))], #[157, 3, 3, 3]⟩, true, none⟩,
  ⟨some 2, .assign (.tmp 4), false, none⟩]) <|
 .seq (.keep [2]) <|
 .ret
theorem c125 : Tryz.f125.body.map (fun c => ((compile Tryz.prog kp125 [] kp125 c).map (·.1), fits Tryz.f125.ntmps c)) = some (some s125, true) := by kernel_rfl
theorem r125 : Tryz.f125.results.toList = [.tmp 2] := by kernel_rfl
-- (marionette/comp.half).short
abbrev kp126 : List Nat := [2]
def s126 : SC :=
 .seq (.ops [⟨some 2, .assign (.const (.int .i64 0)), false, none⟩]) <|
 .seq (.keep [0]) <|
 .seq (.ops [⟨some 3, .move (.tmp 0), false, none⟩,
  ⟨some 4, .call ⟨.value (.func 131), #[(.tmp 3)], #[157]⟩, true, none⟩,
  ⟨some 5, .call ⟨.value (.func 145), #[(.tmp 4), (.const (.int .i64 6))], #[3, 3]⟩, true, none⟩,
  ⟨some 2, .assign (.tmp 5), false, none⟩]) <|
 .seq (.keep [2]) <|
 .ret
theorem c126 : Tryz.f126.body.map (fun c => ((compile Tryz.prog kp126 [] kp126 c).map (·.1), fits Tryz.f126.ntmps c)) = some (some s126, true) := by kernel_rfl
theorem r126 : Tryz.f126.results.toList = [.tmp 2] := by kernel_rfl
-- (marionette/comp.half).six
abbrev kp131 : List Nat := [2]
def s131 : SC :=
 .seq (.ops [⟨some 2, .assign (.const (.int .i64 0)), false, none⟩]) <|
 .seq (.keep [0]) <|
 .seq (.ops [⟨some 3, .move (.tmp 0), false, none⟩,
  ⟨some 4, .call ⟨.value (.func 122), #[(.tmp 3), (.const (.int .i64 12)), (.const (.int .i64 1)), (.const (.int .i64 5))], #[157, 3, 3, 3]⟩, true, none⟩,
  ⟨some 5, .move (.tmp 0), false, none⟩,
  ⟨some 6, .call ⟨.value (.func 122), #[(.tmp 5), (.const (.int .i64 2)), (.const (.int .i64 5)), (.const (.int .i64 0))], #[157, 3, 3, 3]⟩, true, none⟩,
  ⟨some 7, .binOp .or 3 (.tmp 4) (.tmp 6) 3, false, none⟩,
  ⟨some 2, .assign (.tmp 7), false, none⟩]) <|
 .seq (.keep [2]) <|
 .ret
theorem c131 : Tryz.f131.body.map (fun c => ((compile Tryz.prog kp131 [] kp131 c).map (·.1), fits Tryz.f131.ntmps c)) = some (some s131, true) := by kernel_rfl
theorem r131 : Tryz.f131.results.toList = [.tmp 2] := by kernel_rfl
-- marionette/comp.signed
abbrev kp145 : List Nat := [4]
def s145 : SC :=
 .seq (.ops [⟨some 4, .assign (.const (.int .i64 0)), false, none⟩]) <|
 .seq (.keep [0, 1]) <|
 .seq (.ops [⟨some 5, .move (.tmp 0), false, none⟩,
  ⟨some 6, .convert 3 22 (.tmp 5), false, none⟩,
  ⟨some 7, .move (.tmp 1), false, none⟩,
  ⟨some 8, .call ⟨.value (.func 57), #[(.tmp 6), (.tmp 7)], #[22, 3]⟩, true, none⟩,
  ⟨some 9, .convert 22 2 (.tmp 8), false, none⟩,
  ⟨some 4, .assign (.tmp 9), false, none⟩]) <|
 .seq (.keep [4]) <|
 .ret
theorem c145 : Tryz.f145.body.map (fun c => ((compile Tryz.prog kp145 [] kp145 c).map (·.1), fits Tryz.f145.ntmps c)) = some (some s145, true) := by kernel_rfl
theorem r145 : Tryz.f145.results.toList = [.tmp 4] := by kernel_rfl
end Go.SX.G
