/- The compiled texts of the functions that are walked here, each checked against the loaded program; facts on its types. Printed by a program of this session. -/
import Derived.Test.YtajfhnphhdoobaaGreatGenA
import Derived.Test.YtajfhnphhdoobaaGreatSxSimp
import Derived.Test.YtajfhnphhdoobaaGreatProg
set_option linter.unusedVariables false
set_option linter.unusedSimpArgs false
namespace Go.SX.G
open Go Go.SX Go.Proofs
def s147 : SC :=
 .seq (.ops [⟨some 4, .assign (.const (.int .u64 0)), false, none⟩]) <|
 .seq (.keep [0, 1]) <|
 .seq (.seq (.ops [⟨some 8, .move (.tmp 1), false, none⟩,
  ⟨some 9, .binOp .lss 3 (.tmp 8) (.const (.int .i64 1)) 3, false, none⟩,
  ⟨some 10, .move (.tmp 9), false, none⟩,
  ⟨some 11, .move (.tmp 1), false, some (10, false)⟩,
  ⟨some 12, .binOp .gtr 3 (.tmp 11) (.const (.int .i64 8)) 3, false, some (10, false)⟩,
  ⟨some 13, .pick (.tmp 10) (.const (.bool true)) (.tmp 12), false, none⟩]) <|
 .seq (.keep [0, 1, 13]) <|
 .cond (.tmp 13) (.seq (.ops [⟨some 4, .assign (.const (.int .u64 0)), false, none⟩]) <|
 .seq (.keep [4]) <|
 .ret) <|
 .skip) <|
 .seq (.keep [0, 1]) <|
 .seq (.ops [⟨some 5, .assign (.const (.int .u64 0)), false, none⟩]) <|
 .seq (.keep [0, 1, 5]) <|
 .seq (.seq (.ops [⟨some 14, .move (.tmp 0), false, none⟩,
  ⟨some 15, .move (.tmp 1), false, none⟩,
  ⟨some 16, .move (.tmp 0), false, none⟩,
  ⟨some 17, .call ⟨.builtin .len, #[(.tmp 16)], #[22]⟩, false, none⟩,
  ⟨some 18, .call ⟨.builtin .min, #[(.tmp 15), (.tmp 17)], #[3, 3]⟩, false, none⟩,
  ⟨some 19, .slice 22 (.tmp 14) none (some (.tmp 18)) none, false, none⟩,
  ⟨some 20, .call ⟨.builtin .len, #[(.tmp 19)], #[22]⟩, false, none⟩,
  ⟨some 21, .move (.const (.int .i64 0)), false, none⟩]) <|
 .seq (.keep [5, 19, 20, 21]) <|
 .block 0 <| .loop <| .seq (.seq (.ops [⟨some 22, .binOp .lss 3 (.tmp 21) (.tmp 20) 3, false, none⟩]) <|
 .seq (.keep [5, 19, 20, 21, 22]) <|
 .seq (.cond (.tmp 22) (.skip) <|
 .exit 0) <|
 .seq (.keep [5, 19, 20, 21]) <|
 .seq (.block 1 <| .seq (.ops [⟨some 23, .move (.tmp 21), false, none⟩,
  ⟨some 24, .indexAddr 22 (.tmp 19) (.tmp 21), false, none⟩,
  ⟨some 25, .load 5 (.tmp 24), false, none⟩,
  ⟨some 6, .assign (.tmp 23), false, none⟩,
  ⟨some 7, .assign (.tmp 25), false, none⟩]) <|
 .seq (.keep [5, 6, 7, 19, 20, 21]) <|
 .ops [⟨some 26, .move (.tmp 5), false, none⟩,
  ⟨some 27, .move (.tmp 7), false, none⟩,
  ⟨some 28, .convert 5 29 (.tmp 27), false, none⟩,
  ⟨some 29, .move (.tmp 6), false, none⟩,
  ⟨some 30, .binOp .mul 3 (.const (.int .i64 8)) (.tmp 29) 3, false, none⟩,
  ⟨some 31, .binOp .shl 29 (.tmp 28) (.tmp 30) 3, false, none⟩,
  ⟨some 32, .binOp .or 29 (.tmp 26) (.tmp 31) 29, false, none⟩,
  ⟨some 5, .assign (.tmp 32), false, none⟩]) <|
 .seq (.keep [5, 19, 20, 21]) <|
 .ops [⟨some 33, .binOp .add 3 (.tmp 21) (.const (.int .i64 1)) 3, false, none⟩,
  ⟨some 21, .move (.tmp 33), false, none⟩]) <|
 .keep [5, 19, 20, 21]) <|
 .seq (.keep [5]) <|
 .seq (.ops [⟨some 34, .move (.tmp 5), false, none⟩,
  ⟨some 4, .assign (.tmp 34), false, none⟩]) <|
 .seq (.keep [4]) <|
 .ret
theorem c147 : Tryz.f147.body.map (fun c => ((compile Tryz.prog kp147 [] kp147 c).map (·.1), fits Tryz.f147.ntmps c)) = some (some s147, true) := by kernel_rfl
theorem r147 : Tryz.f147.results.toList = [.tmp 4] := by kernel_rfl
attribute [go_sem] s147
abbrev kp148 : List Nat := [2]
def s148 : SC :=
 .seq (.ops [⟨some 2, .alloc 47, true, none⟩]) <|
 .seq (.keep [0, 2]) <|
 .seq (.ops [⟨some 6, .move (.tmp 0), false, none⟩,
  ⟨some 7, .call ⟨.value (.func 184), #[(.tmp 6), (.const (.int .i64 7))], #[189, 3]⟩, true, none⟩,
  ⟨some 8, .move (.tmp 0), false, none⟩,
  ⟨some 9, .call ⟨.value (.func 184), #[(.tmp 8), (.const (.int .i64 2))], #[189, 3]⟩, true, none⟩,
  ⟨some 3, .assign (.tmp 7), false, none⟩,
  ⟨some 4, .assign (.tmp 9), false, none⟩]) <|
 .seq (.keep [0, 2, 3, 4]) <|
 .seq (.seq (.ops [⟨some 10, .move (.tmp 0), false, none⟩,
  ⟨some 11, .call ⟨.value (.func 185), #[(.tmp 10), (.const (.int .i64 13)), (.const (.int .i64 3)), (.const (.int .i64 0))], #[189, 3, 3, 3]⟩, true, none⟩]) <|
 .seq (.keep [0, 2, 3, 4, 11]) <|
 .block 0 <| .seq (.ops [⟨some 13, .binOp .eql 3 (.tmp 11) (.const (.int .i64 0)) 3, false, none⟩,
  ⟨some 12, .assign (.tmp 13), false, none⟩]) <|
 .seq (.keep [0, 2, 3, 4, 11, 12]) <|
 .cond (.tmp 12) (.seq (.ops [⟨some 14, .move (.tmp 0), false, none⟩,
  ⟨some 15, .call ⟨.value (.func 185), #[(.tmp 14), (.const (.int .i64 7)), (.const (.int .i64 4)), (.const (.int .i64 6))], #[189, 3, 3, 3]⟩, true, none⟩,
  ⟨some 16, .move (.tmp 0), false, none⟩,
  ⟨some 17, .call ⟨.value (.func 185), #[(.tmp 16), (.const (.int .i64 11)), (.const (.int .i64 2)), (.const (.int .i64 4))], #[189, 3, 3, 3]⟩, true, none⟩,
  ⟨some 18, .binOp .or 3 (.tmp 15) (.tmp 17) 3, false, none⟩,
  ⟨some 19, .move (.tmp 0), false, none⟩,
  ⟨some 20, .call ⟨.value (.func 185), #[(.tmp 19), (.const (.int .i64 5)), (.const (.int .i64 1)), (.const (.int .i64 3))], #[189, 3, 3, 3]⟩, true, none⟩,
  ⟨some 21, .binOp .or 3 (.tmp 18) (.tmp 20) 3, false, none⟩,
  ⟨some 22, .move (.tmp 0), false, none⟩,
  ⟨some 23, .call ⟨.value (.func 185), #[(.tmp 22), (.const (.int .i64 6)), (.const (.int .i64 1)), (.const (.int .i64 2))], #[189, 3, 3, 3]⟩, true, none⟩,
  ⟨some 24, .binOp .or 3 (.tmp 21) (.tmp 23) 3, false, none⟩,
  ⟨some 5, .assign (.tmp 24), false, none⟩]) <|
 .seq (.keep [2, 4, 5]) <|
 .seq (.ops [⟨some 25, .move (.tmp 5), false, none⟩,
  ⟨some 26, .binOp .gtr 3 (.tmp 25) (.const (.int .i64 0)) 3, false, none⟩]) <|
 .seq (.keep [2, 4, 5, 26]) <|
 .cond (.tmp 26) (.seq (.ops [⟨some 27, .move (.tmp 4), false, none⟩,
  ⟨some 28, .move (.tmp 5), false, none⟩,
  ⟨some 29, .build 47 #[(0, (.const (.int .i64 22))), (1, (.tmp 27)), (2, (.const (.int .i64 2))), (4, (.tmp 28))], false, none⟩,
  ⟨none, .store 47 (.tmp 2) (.tmp 29), true, none⟩]) <|
 .seq (.keep [2]) <|
 .ret) <|
 .skip) <|
 .seq (.ops [⟨some 31, .binOp .eql 3 (.tmp 11) (.const (.int .i64 2)) 3, false, none⟩,
  ⟨some 30, .assign (.tmp 31), false, none⟩]) <|
 .seq (.keep [0, 2, 3, 4, 11, 30]) <|
 .cond (.tmp 30) (.seq (.ops [⟨some 32, .move (.tmp 4), false, none⟩,
  ⟨some 33, .move (.tmp 3), false, none⟩,
  ⟨some 34, .move (.tmp 0), false, none⟩,
  ⟨some 35, .call ⟨.value (.func 186), #[(.tmp 34)], #[189]⟩, true, none⟩,
  ⟨some 36, .build 47 #[(0, (.const (.int .i64 13))), (1, (.tmp 32)), (2, (.tmp 33)), (4, (.tmp 35))], false, none⟩,
  ⟨none, .store 47 (.tmp 2) (.tmp 36), true, none⟩]) <|
 .seq (.keep [2]) <|
 .ret) <|
 .seq (.ops [⟨some 38, .binOp .eql 3 (.tmp 11) (.const (.int .i64 3)) 3, false, none⟩,
  ⟨some 37, .assign (.tmp 38), false, none⟩]) <|
 .seq (.keep [0, 2, 3, 4, 11, 37]) <|
 .cond (.tmp 37) (.seq (.ops [⟨some 39, .move (.tmp 4), false, none⟩,
  ⟨some 40, .move (.tmp 3), false, none⟩,
  ⟨some 41, .move (.tmp 0), false, none⟩,
  ⟨some 42, .call ⟨.value (.func 187), #[(.tmp 41)], #[189]⟩, true, none⟩,
  ⟨some 43, .build 47 #[(0, (.const (.int .i64 14))), (1, (.tmp 39)), (2, (.tmp 40)), (4, (.tmp 42))], false, none⟩,
  ⟨none, .store 47 (.tmp 2) (.tmp 43), true, none⟩]) <|
 .seq (.keep [2]) <|
 .ret) <|
 .seq (.ops [⟨some 45, .binOp .eql 3 (.tmp 11) (.const (.int .i64 6)) 3, false, none⟩,
  ⟨some 44, .assign (.tmp 45), false, none⟩]) <|
 .seq (.keep [0, 2, 3, 4, 11, 44]) <|
 .cond (.tmp 44) (.seq (.ops [⟨some 46, .move (.tmp 3), false, none⟩,
  ⟨some 47, .move (.tmp 4), false, none⟩,
  ⟨some 48, .move (.tmp 0), false, none⟩,
  ⟨some 49, .call ⟨.value (.func 186), #[(.tmp 48)], #[189]⟩, true, none⟩,
  ⟨some 50, .build 47 #[(0, (.const (.int .i64 20))), (2, (.tmp 46)), (3, (.tmp 47)), (4, (.tmp 49))], false, none⟩,
  ⟨none, .store 47 (.tmp 2) (.tmp 50), true, none⟩]) <|
 .seq (.keep [2]) <|
 .ret) <|
 .seq (.ops [⟨some 52, .binOp .eql 3 (.tmp 11) (.const (.int .i64 7)) 3, false, none⟩,
  ⟨some 51, .assign (.tmp 52), false, none⟩]) <|
 .seq (.keep [0, 2, 3, 4, 51]) <|
 .cond (.tmp 51) (.seq (.ops [⟨some 53, .move (.tmp 3), false, none⟩,
  ⟨some 54, .move (.tmp 4), false, none⟩,
  ⟨some 55, .move (.tmp 0), false, none⟩,
  ⟨some 56, .call ⟨.value (.func 187), #[(.tmp 55)], #[189]⟩, true, none⟩,
  ⟨some 57, .build 47 #[(0, (.const (.int .i64 21))), (2, (.tmp 53)), (3, (.tmp 54)), (4, (.tmp 56))], false, none⟩,
  ⟨none, .store 47 (.tmp 2) (.tmp 57), true, none⟩]) <|
 .seq (.keep [2]) <|
 .ret) <|
 .skip) <|
 .seq (.keep [2]) <|
 .seq (.ops [⟨some 58, .build 47 #[], false, none⟩,
  ⟨none, .store 47 (.tmp 2) (.tmp 58), true, none⟩]) <|
 .seq (.keep [2]) <|
 .ret
theorem c148 : Tryz.f148.body.map (fun c => ((compile Tryz.prog kp148 [] kp148 c).map (·.1), fits Tryz.f148.ntmps c)) = some (some s148, true) := by kernel_rfl
theorem r148 : Tryz.f148.results.toList = [.cell 2 47] := by kernel_rfl
attribute [go_sem] s148
abbrev kp149 : List Nat := [2]
def s149 : SC :=
 .seq (.ops [⟨some 2, .alloc 47, true, none⟩]) <|
 .seq (.keep [0, 2]) <|
 .seq (.ops [⟨some 4, .move (.tmp 0), false, none⟩,
  ⟨some 5, .call ⟨.value (.func 188), #[(.tmp 4)], #[189]⟩, true, none⟩,
  ⟨some 3, .assign (.tmp 5), false, none⟩]) <|
 .seq (.keep [0, 2, 3]) <|
 .seq (.seq (.ops [⟨some 6, .move (.tmp 0), false, none⟩,
  ⟨some 7, .call ⟨.value (.func 185), #[(.tmp 6), (.const (.int .i64 13)), (.const (.int .i64 3)), (.const (.int .i64 0))], #[189, 3, 3, 3]⟩, true, none⟩]) <|
 .seq (.keep [0, 2, 3, 7]) <|
 .block 0 <| .seq (.ops [⟨some 9, .binOp .eql 3 (.tmp 7) (.const (.int .i64 0)) 3, false, none⟩,
  ⟨some 8, .assign (.tmp 9), false, none⟩]) <|
 .seq (.keep [0, 2, 3, 7, 8]) <|
 .cond (.tmp 8) (.seq (.ops [⟨some 10, .move (.tmp 3), false, none⟩,
  ⟨some 11, .move (.tmp 3), false, none⟩,
  ⟨some 12, .move (.tmp 0), false, none⟩,
  ⟨some 13, .call ⟨.value (.func 189), #[(.tmp 12)], #[189]⟩, true, none⟩,
  ⟨some 14, .build 47 #[(0, (.const (.int .i64 22))), (1, (.tmp 10)), (2, (.tmp 11)), (4, (.tmp 13))], false, none⟩,
  ⟨none, .store 47 (.tmp 2) (.tmp 14), true, none⟩]) <|
 .seq (.keep [2]) <|
 .ret) <|
 .seq (.ops [⟨some 16, .binOp .eql 3 (.tmp 7) (.const (.int .i64 1)) 3, false, none⟩,
  ⟨some 15, .assign (.tmp 16), false, none⟩]) <|
 .seq (.keep [0, 2, 3, 7, 15]) <|
 .cond (.tmp 15) (.seq (.seq (.ops [⟨some 17, .move (.tmp 3), false, none⟩,
  ⟨some 18, .binOp .gtr 3 (.tmp 17) (.const (.int .i64 0)) 3, false, none⟩]) <|
 .seq (.keep [0, 2, 3, 18]) <|
 .cond (.tmp 18) (.seq (.ops [⟨some 19, .move (.tmp 3), false, none⟩,
  ⟨some 20, .move (.tmp 3), false, none⟩,
  ⟨some 21, .move (.tmp 0), false, none⟩,
  ⟨some 22, .call ⟨.value (.func 189), #[(.tmp 21)], #[189]⟩, true, none⟩,
  ⟨some 23, .build 47 #[(0, (.const (.int .i64 41))), (1, (.tmp 19)), (2, (.tmp 20)), (4, (.tmp 22))], false, none⟩,
  ⟨none, .store 47 (.tmp 2) (.tmp 23), true, none⟩]) <|
 .seq (.keep [2]) <|
 .ret) <|
 .skip) <|
 .seq (.keep [2]) <|
 .seq (.ops [⟨some 24, .build 47 #[], false, none⟩,
  ⟨none, .store 47 (.tmp 2) (.tmp 24), true, none⟩]) <|
 .seq (.keep [2]) <|
 .ret) <|
 .seq (.ops [⟨some 26, .binOp .eql 3 (.tmp 7) (.const (.int .i64 2)) 3, false, none⟩,
  ⟨some 25, .assign (.tmp 26), false, none⟩]) <|
 .seq (.keep [0, 2, 3, 7, 25]) <|
 .cond (.tmp 25) (.seq (.ops [⟨some 27, .move (.tmp 3), false, none⟩,
  ⟨some 28, .move (.tmp 0), false, none⟩,
  ⟨some 29, .call ⟨.value (.func 189), #[(.tmp 28)], #[189]⟩, true, none⟩,
  ⟨some 30, .build 47 #[(0, (.const (.int .i64 22))), (1, (.tmp 27)), (4, (.tmp 29))], false, none⟩,
  ⟨none, .store 47 (.tmp 2) (.tmp 30), true, none⟩]) <|
 .seq (.keep [2]) <|
 .ret) <|
 .seq (.ops [⟨some 32, .binOp .eql 3 (.tmp 7) (.const (.int .i64 3)) 3, false, none⟩,
  ⟨some 31, .assign (.tmp 32), false, none⟩]) <|
 .seq (.keep [0, 2, 7, 31]) <|
 .cond (.tmp 31) (.seq (.ops [⟨some 33, .move (.tmp 0), false, none⟩,
  ⟨some 34, .call ⟨.value (.func 190), #[(.tmp 33)], #[189]⟩, true, none⟩,
  ⟨none, .store 47 (.tmp 2) (.tmp 34), true, none⟩]) <|
 .seq (.keep [2]) <|
 .ret) <|
 .seq (.ops [⟨some 36, .binOp .eql 3 (.tmp 7) (.const (.int .i64 4)) 3, false, none⟩,
  ⟨some 35, .assign (.tmp 36), false, none⟩]) <|
 .seq (.keep [0, 2, 7, 35]) <|
 .cond (.tmp 35) (.seq (.ops [⟨some 37, .move (.tmp 0), false, none⟩,
  ⟨some 38, .call ⟨.value (.func 191), #[(.tmp 37)], #[189]⟩, true, none⟩,
  ⟨none, .store 47 (.tmp 2) (.tmp 38), true, none⟩]) <|
 .seq (.keep [2]) <|
 .ret) <|
 .seq (.ops [⟨some 40, .binOp .eql 3 (.tmp 7) (.const (.int .i64 5)) 3, false, none⟩,
  ⟨some 39, .assign (.tmp 40), false, none⟩]) <|
 .seq (.keep [0, 2, 7, 39]) <|
 .cond (.tmp 39) (.seq (.ops [⟨some 41, .move (.tmp 0), false, none⟩,
  ⟨some 42, .call ⟨.value (.func 192), #[(.tmp 41)], #[189]⟩, true, none⟩,
  ⟨some 43, .build 47 #[(0, (.const (.int .i64 3))), (4, (.tmp 42))], false, none⟩,
  ⟨none, .store 47 (.tmp 2) (.tmp 43), true, none⟩]) <|
 .seq (.keep [2]) <|
 .ret) <|
 .seq (.ops [⟨some 45, .binOp .eql 3 (.tmp 7) (.const (.int .i64 6)) 3, false, none⟩,
  ⟨some 44, .assign (.tmp 45), false, none⟩]) <|
 .seq (.keep [0, 2, 44]) <|
 .cond (.tmp 44) (.seq (.ops [⟨some 46, .move (.tmp 0), false, none⟩,
  ⟨some 47, .call ⟨.value (.func 184), #[(.tmp 46), (.const (.int .i64 7))], #[189, 3]⟩, true, none⟩,
  ⟨some 48, .move (.tmp 0), false, none⟩,
  ⟨some 49, .call ⟨.value (.func 193), #[(.tmp 48)], #[189]⟩, true, none⟩,
  ⟨some 50, .build 47 #[(0, (.const (.int .i64 5))), (2, (.tmp 47)), (4, (.tmp 49))], false, none⟩,
  ⟨none, .store 47 (.tmp 2) (.tmp 50), true, none⟩]) <|
 .seq (.keep [2]) <|
 .ret) <|
 .skip) <|
 .seq (.keep [0, 2]) <|
 .seq (.ops [⟨some 51, .move (.tmp 0), false, none⟩,
  ⟨some 52, .call ⟨.value (.func 184), #[(.tmp 51), (.const (.int .i64 7))], #[189, 3]⟩, true, none⟩,
  ⟨some 53, .move (.tmp 0), false, none⟩,
  ⟨some 54, .call ⟨.value (.func 193), #[(.tmp 53)], #[189]⟩, true, none⟩,
  ⟨some 55, .build 47 #[(0, (.const (.int .i64 6))), (2, (.tmp 52)), (4, (.tmp 54))], false, none⟩,
  ⟨none, .store 47 (.tmp 2) (.tmp 55), true, none⟩]) <|
 .seq (.keep [2]) <|
 .ret
theorem c149 : Tryz.f149.body.map (fun c => ((compile Tryz.prog kp149 [] kp149 c).map (·.1), fits Tryz.f149.ntmps c)) = some (some s149, true) := by kernel_rfl
theorem r149 : Tryz.f149.results.toList = [.cell 2 47] := by kernel_rfl
attribute [go_sem] s149
abbrev kp150 : List Nat := [2]
def s150 : SC :=
 .seq (.ops [⟨some 2, .alloc 47, true, none⟩]) <|
 .seq (.keep [0, 2]) <|
 .seq (.ops [⟨some 4, .move (.tmp 0), false, none⟩,
  ⟨some 5, .call ⟨.value (.func 188), #[(.tmp 4)], #[189]⟩, true, none⟩,
  ⟨some 3, .assign (.tmp 5), false, none⟩]) <|
 .seq (.keep [0, 2, 3]) <|
 .seq (.seq (.ops [⟨some 6, .move (.tmp 0), false, none⟩,
  ⟨some 7, .call ⟨.value (.func 185), #[(.tmp 6), (.const (.int .i64 13)), (.const (.int .i64 3)), (.const (.int .i64 0))], #[189, 3, 3, 3]⟩, true, none⟩]) <|
 .seq (.keep [0, 2, 3, 7]) <|
 .block 0 <| .seq (.ops [⟨some 9, .binOp .eql 3 (.tmp 7) (.const (.int .i64 0)) 3, false, none⟩,
  ⟨some 8, .assign (.tmp 9), false, none⟩]) <|
 .seq (.keep [0, 2, 3, 7, 8]) <|
 .cond (.tmp 8) (.seq (.ops [⟨some 10, .move (.tmp 3), false, none⟩,
  ⟨some 11, .move (.tmp 3), false, none⟩,
  ⟨some 12, .move (.tmp 0), false, none⟩,
  ⟨some 13, .call ⟨.value (.func 194), #[(.tmp 12)], #[189]⟩, true, none⟩,
  ⟨some 14, .build 47 #[(0, (.const (.int .i64 28))), (1, (.tmp 10)), (2, (.tmp 11)), (4, (.tmp 13))], false, none⟩,
  ⟨none, .store 47 (.tmp 2) (.tmp 14), true, none⟩]) <|
 .seq (.keep [2]) <|
 .ret) <|
 .seq (.ops [⟨some 16, .binOp .eql 3 (.tmp 7) (.const (.int .i64 2)) 3, false, none⟩,
  ⟨some 15, .assign (.tmp 16), false, none⟩]) <|
 .seq (.keep [0, 2, 3, 7, 15]) <|
 .cond (.tmp 15) (.seq (.ops [⟨some 17, .move (.tmp 3), false, none⟩,
  ⟨some 18, .binOp .gtr 3 (.tmp 17) (.const (.int .i64 0)) 3, false, none⟩]) <|
 .seq (.keep [0, 2, 3, 18]) <|
 .cond (.tmp 18) (.seq (.ops [⟨some 19, .move (.tmp 3), false, none⟩,
  ⟨some 20, .move (.tmp 0), false, none⟩,
  ⟨some 21, .call ⟨.value (.func 185), #[(.tmp 20), (.const (.int .i64 2)), (.const (.int .i64 2)), (.const (.int .i64 6))], #[189, 3, 3, 3]⟩, true, none⟩,
  ⟨some 22, .move (.tmp 0), false, none⟩,
  ⟨some 23, .call ⟨.value (.func 185), #[(.tmp 22), (.const (.int .i64 12)), (.const (.int .i64 1)), (.const (.int .i64 5))], #[189, 3, 3, 3]⟩, true, none⟩,
  ⟨some 24, .binOp .or 3 (.tmp 21) (.tmp 23) 3, false, none⟩,
  ⟨some 25, .move (.tmp 0), false, none⟩,
  ⟨some 26, .call ⟨.value (.func 185), #[(.tmp 25), (.const (.int .i64 4)), (.const (.int .i64 3)), (.const (.int .i64 2))], #[189, 3, 3, 3]⟩, true, none⟩,
  ⟨some 27, .binOp .or 3 (.tmp 24) (.tmp 26) 3, false, none⟩,
  ⟨some 28, .build 47 #[(0, (.const (.int .i64 13))), (1, (.tmp 19)), (2, (.const (.int .i64 2))), (4, (.tmp 27))], false, none⟩,
  ⟨none, .store 47 (.tmp 2) (.tmp 28), true, none⟩]) <|
 .seq (.keep [2]) <|
 .ret) <|
 .skip) <|
 .seq (.ops [⟨some 30, .binOp .eql 3 (.tmp 7) (.const (.int .i64 3)) 3, false, none⟩,
  ⟨some 29, .assign (.tmp 30), false, none⟩]) <|
 .seq (.keep [0, 2, 3, 7, 29]) <|
 .cond (.tmp 29) (.seq (.ops [⟨some 31, .move (.tmp 3), false, none⟩,
  ⟨some 32, .binOp .gtr 3 (.tmp 31) (.const (.int .i64 0)) 3, false, none⟩]) <|
 .seq (.keep [0, 2, 3, 32]) <|
 .cond (.tmp 32) (.seq (.ops [⟨some 33, .move (.tmp 3), false, none⟩,
  ⟨some 34, .move (.tmp 0), false, none⟩,
  ⟨some 35, .call ⟨.value (.func 185), #[(.tmp 34), (.const (.int .i64 2)), (.const (.int .i64 3)), (.const (.int .i64 6))], #[189, 3, 3, 3]⟩, true, none⟩,
  ⟨some 36, .move (.tmp 0), false, none⟩,
  ⟨some 37, .call ⟨.value (.func 185), #[(.tmp 36), (.const (.int .i64 12)), (.const (.int .i64 1)), (.const (.int .i64 5))], #[189, 3, 3, 3]⟩, true, none⟩,
  ⟨some 38, .binOp .or 3 (.tmp 35) (.tmp 37) 3, false, none⟩,
  ⟨some 39, .move (.tmp 0), false, none⟩,
  ⟨some 40, .call ⟨.value (.func 185), #[(.tmp 39), (.const (.int .i64 5)), (.const (.int .i64 2)), (.const (.int .i64 3))], #[189, 3, 3, 3]⟩, true, none⟩,
  ⟨some 41, .binOp .or 3 (.tmp 38) (.tmp 40) 3, false, none⟩,
  ⟨some 42, .build 47 #[(0, (.const (.int .i64 14))), (1, (.tmp 33)), (2, (.const (.int .i64 2))), (4, (.tmp 41))], false, none⟩,
  ⟨none, .store 47 (.tmp 2) (.tmp 42), true, none⟩]) <|
 .seq (.keep [2]) <|
 .ret) <|
 .skip) <|
 .seq (.ops [⟨some 44, .binOp .eql 3 (.tmp 7) (.const (.int .i64 4)) 3, false, none⟩,
  ⟨some 43, .assign (.tmp 44), false, none⟩]) <|
 .seq (.keep [0, 2, 7, 43]) <|
 .cond (.tmp 43) (.seq (.ops [⟨some 45, .move (.tmp 0), false, none⟩,
  ⟨some 46, .call ⟨.value (.func 195), #[(.tmp 45)], #[189]⟩, true, none⟩,
  ⟨none, .store 47 (.tmp 2) (.tmp 46), true, none⟩]) <|
 .seq (.keep [2]) <|
 .ret) <|
 .seq (.ops [⟨some 48, .binOp .eql 3 (.tmp 7) (.const (.int .i64 6)) 3, false, none⟩,
  ⟨some 47, .assign (.tmp 48), false, none⟩]) <|
 .seq (.keep [0, 2, 7, 47]) <|
 .cond (.tmp 47) (.seq (.ops [⟨some 49, .move (.tmp 0), false, none⟩,
  ⟨some 50, .call ⟨.value (.func 196), #[(.tmp 49)], #[189]⟩, true, none⟩,
  ⟨some 51, .move (.tmp 0), false, none⟩,
  ⟨some 52, .call ⟨.value (.func 185), #[(.tmp 51), (.const (.int .i64 7)), (.const (.int .i64 2)), (.const (.int .i64 6))], #[189, 3, 3, 3]⟩, true, none⟩,
  ⟨some 53, .move (.tmp 0), false, none⟩,
  ⟨some 54, .call ⟨.value (.func 185), #[(.tmp 53), (.const (.int .i64 9)), (.const (.int .i64 4)), (.const (.int .i64 2))], #[189, 3, 3, 3]⟩, true, none⟩,
  ⟨some 55, .binOp .or 3 (.tmp 52) (.tmp 54) 3, false, none⟩,
  ⟨some 56, .build 47 #[(0, (.const (.int .i64 20))), (2, (.const (.int .i64 2))), (3, (.tmp 50)), (4, (.tmp 55))], false, none⟩,
  ⟨none, .store 47 (.tmp 2) (.tmp 56), true, none⟩]) <|
 .seq (.keep [2]) <|
 .ret) <|
 .seq (.ops [⟨some 58, .binOp .eql 3 (.tmp 7) (.const (.int .i64 7)) 3, false, none⟩,
  ⟨some 57, .assign (.tmp 58), false, none⟩]) <|
 .seq (.keep [0, 2, 57]) <|
 .cond (.tmp 57) (.seq (.ops [⟨some 59, .move (.tmp 0), false, none⟩,
  ⟨some 60, .call ⟨.value (.func 196), #[(.tmp 59)], #[189]⟩, true, none⟩,
  ⟨some 61, .move (.tmp 0), false, none⟩,
  ⟨some 62, .call ⟨.value (.func 185), #[(.tmp 61), (.const (.int .i64 7)), (.const (.int .i64 3)), (.const (.int .i64 6))], #[189, 3, 3, 3]⟩, true, none⟩,
  ⟨some 63, .move (.tmp 0), false, none⟩,
  ⟨some 64, .call ⟨.value (.func 185), #[(.tmp 63), (.const (.int .i64 10)), (.const (.int .i64 3)), (.const (.int .i64 3))], #[189, 3, 3, 3]⟩, true, none⟩,
  ⟨some 65, .binOp .or 3 (.tmp 62) (.tmp 64) 3, false, none⟩,
  ⟨some 66, .build 47 #[(0, (.const (.int .i64 21))), (2, (.const (.int .i64 2))), (3, (.tmp 60)), (4, (.tmp 65))], false, none⟩,
  ⟨none, .store 47 (.tmp 2) (.tmp 66), true, none⟩]) <|
 .seq (.keep [2]) <|
 .ret) <|
 .skip) <|
 .seq (.keep [2]) <|
 .seq (.ops [⟨some 67, .build 47 #[], false, none⟩,
  ⟨none, .store 47 (.tmp 2) (.tmp 67), true, none⟩]) <|
 .seq (.keep [2]) <|
 .ret
theorem c150 : Tryz.f150.body.map (fun c => ((compile Tryz.prog kp150 [] kp150 c).map (·.1), fits Tryz.f150.ntmps c)) = some (some s150, true) := by kernel_rfl
theorem r150 : Tryz.f150.results.toList = [.cell 2 47] := by kernel_rfl
attribute [go_sem] s150
abbrev kp151 : List Nat := [6]
def s151 : SC :=
 .seq (.ops [⟨some 6, .assign (.const (.int .i64 0)), false, none⟩]) <|
 .seq (.keep [0, 1, 2]) <|
 .seq (.seq (.ops [⟨some 7, .move (.tmp 0), false, none⟩]) <|
 .seq (.ops [⟨some 8, .move (.tmp 1), false, none⟩]) <|
 .seq (.ops [⟨some 9, .binOp .shr 37 (.tmp 7) (.tmp 8) 3, false, none⟩]) <|
 .seq (.ops [⟨some 10, .convert 37 3 (.tmp 9), false, none⟩]) <|
 .seq (.ops [⟨some 11, .move (.tmp 2), false, none⟩]) <|
 .seq (.ops [⟨some 12, .binOp .shl 3 (.const (.int .i64 1)) (.tmp 11) 3, false, none⟩]) <|
 .seq (.ops [⟨some 13, .binOp .sub 3 (.tmp 12) (.const (.int .i64 1)) 3, false, none⟩]) <|
 .seq (.ops [⟨some 14, .binOp .and 3 (.tmp 10) (.tmp 13) 3, false, none⟩]) <|
 .seq (.ops [⟨some 6, .assign (.tmp 14), false, none⟩]) <|
 .skip) <|
 .seq (.keep [6]) <|
 .ret
theorem c151 : Tryz.f151.body.map (fun c => ((compile Tryz.prog kp151 [] kp151 c).map (·.1), fits Tryz.f151.ntmps c)) = some (some s151, true) := by kernel_rfl
theorem r151 : Tryz.f151.results.toList = [.tmp 6] := by kernel_rfl
attribute [go_sem] s151
abbrev kp152 : List Nat := [2]
def s152 : SC :=
 .seq (.ops [⟨some 2, .assign (.const (.int .i64 0)), false, none⟩]) <|
 .seq (.keep [0]) <|
 .seq (.ops [⟨some 3, .move (.tmp 0), false, none⟩,
  ⟨some 4, .call ⟨.value (.func 151), #[(.tmp 3), (.const (.int .i64 12)), (.const (.int .i64 20))], #[37, 3, 3]⟩, true, none⟩,
  ⟨some 5, .binOp .shl 3 (.tmp 4) (.const (.int .u64 12)) 44, false, none⟩,
  ⟨some 6, .call ⟨.value (.func 197), #[(.tmp 5), (.const (.int .i64 32))], #[3, 3]⟩, true, none⟩,
  ⟨some 2, .assign (.tmp 6), false, none⟩]) <|
 .seq (.keep [2]) <|
 .ret
theorem c152 : Tryz.f152.body.map (fun c => ((compile Tryz.prog kp152 [] kp152 c).map (·.1), fits Tryz.f152.ntmps c)) = some (some s152, true) := by kernel_rfl
theorem r152 : Tryz.f152.results.toList = [.tmp 2] := by kernel_rfl
attribute [go_sem] s152
abbrev kp153 : List Nat := [2]
def s153 : SC :=
 .seq (.ops [⟨some 2, .assign (.const (.int .i64 0)), false, none⟩]) <|
 .seq (.keep [0]) <|
 .seq (.ops [⟨some 3, .move (.tmp 0), false, none⟩,
  ⟨some 4, .call ⟨.value (.func 151), #[(.tmp 3), (.const (.int .i64 31)), (.const (.int .i64 1))], #[37, 3, 3]⟩, true, none⟩,
  ⟨some 5, .binOp .shl 3 (.tmp 4) (.const (.int .u64 20)) 44, false, none⟩,
  ⟨some 6, .move (.tmp 0), false, none⟩,
  ⟨some 7, .call ⟨.value (.func 151), #[(.tmp 6), (.const (.int .i64 12)), (.const (.int .i64 8))], #[37, 3, 3]⟩, true, none⟩,
  ⟨some 8, .binOp .shl 3 (.tmp 7) (.const (.int .u64 12)) 44, false, none⟩,
  ⟨some 9, .binOp .or 3 (.tmp 5) (.tmp 8) 3, false, none⟩,
  ⟨some 10, .move (.tmp 0), false, none⟩,
  ⟨some 11, .call ⟨.value (.func 151), #[(.tmp 10), (.const (.int .i64 20)), (.const (.int .i64 1))], #[37, 3, 3]⟩, true, none⟩,
  ⟨some 12, .binOp .shl 3 (.tmp 11) (.const (.int .u64 11)) 44, false, none⟩,
  ⟨some 13, .binOp .or 3 (.tmp 9) (.tmp 12) 3, false, none⟩,
  ⟨some 14, .move (.tmp 0), false, none⟩,
  ⟨some 15, .call ⟨.value (.func 151), #[(.tmp 14), (.const (.int .i64 21)), (.const (.int .i64 10))], #[37, 3, 3]⟩, true, none⟩,
  ⟨some 16, .binOp .shl 3 (.tmp 15) (.const (.int .u64 1)) 44, false, none⟩,
  ⟨some 17, .binOp .or 3 (.tmp 13) (.tmp 16) 3, false, none⟩,
  ⟨some 18, .call ⟨.value (.func 197), #[(.tmp 17), (.const (.int .i64 21))], #[3, 3]⟩, true, none⟩,
  ⟨some 2, .assign (.tmp 18), false, none⟩]) <|
 .seq (.keep [2]) <|
 .ret
theorem c153 : Tryz.f153.body.map (fun c => ((compile Tryz.prog kp153 [] kp153 c).map (·.1), fits Tryz.f153.ntmps c)) = some (some s153, true) := by kernel_rfl
theorem r153 : Tryz.f153.results.toList = [.tmp 2] := by kernel_rfl
attribute [go_sem] s153
abbrev kp154 : List Nat := [2]
def s154 : SC :=
 .seq (.ops [⟨some 2, .assign (.const (.int .i64 0)), false, none⟩]) <|
 .seq (.keep [0]) <|
 .seq (.ops [⟨some 3, .build 198 #[(0, (.const (.int .i64 5))), (1, (.const (.int .i64 6))), (2, (.const (.int .i64 0))), (3, (.const (.int .i64 0))), (4, (.const (.int .i64 7))), (5, (.const (.int .i64 8))), (6, (.const (.int .i64 9))), (7, (.const (.int .i64 10)))], false, none⟩,
  ⟨some 4, .move (.tmp 0), false, none⟩,
  ⟨some 5, .index 198 (.tmp 3) (.tmp 4), false, none⟩,
  ⟨some 2, .assign (.tmp 5), false, none⟩]) <|
 .seq (.keep [2]) <|
 .ret
theorem c154 : Tryz.f154.body.map (fun c => ((compile Tryz.prog kp154 [] kp154 c).map (·.1), fits Tryz.f154.ntmps c)) = some (some s154, true) := by kernel_rfl
theorem r154 : Tryz.f154.results.toList = [.tmp 2] := by kernel_rfl
attribute [go_sem] s154
abbrev kp155 : List Nat := [2]
def s155 : SC :=
 .seq (.ops [⟨some 2, .assign (.const (.int .i64 0)), false, none⟩]) <|
 .seq (.keep [0]) <|
 .seq (.ops [⟨some 3, .move (.tmp 0), false, none⟩,
  ⟨some 4, .call ⟨.value (.func 151), #[(.tmp 3), (.const (.int .i64 31)), (.const (.int .i64 1))], #[37, 3, 3]⟩, true, none⟩,
  ⟨some 5, .binOp .shl 3 (.tmp 4) (.const (.int .u64 12)) 44, false, none⟩,
  ⟨some 6, .move (.tmp 0), false, none⟩,
  ⟨some 7, .call ⟨.value (.func 151), #[(.tmp 6), (.const (.int .i64 7)), (.const (.int .i64 1))], #[37, 3, 3]⟩, true, none⟩,
  ⟨some 8, .binOp .shl 3 (.tmp 7) (.const (.int .u64 11)) 44, false, none⟩,
  ⟨some 9, .binOp .or 3 (.tmp 5) (.tmp 8) 3, false, none⟩,
  ⟨some 10, .move (.tmp 0), false, none⟩,
  ⟨some 11, .call ⟨.value (.func 151), #[(.tmp 10), (.const (.int .i64 25)), (.const (.int .i64 6))], #[37, 3, 3]⟩, true, none⟩,
  ⟨some 12, .binOp .shl 3 (.tmp 11) (.const (.int .u64 5)) 44, false, none⟩,
  ⟨some 13, .binOp .or 3 (.tmp 9) (.tmp 12) 3, false, none⟩,
  ⟨some 14, .move (.tmp 0), false, none⟩,
  ⟨some 15, .call ⟨.value (.func 151), #[(.tmp 14), (.const (.int .i64 8)), (.const (.int .i64 4))], #[37, 3, 3]⟩, true, none⟩,
  ⟨some 16, .binOp .shl 3 (.tmp 15) (.const (.int .u64 1)) 44, false, none⟩,
  ⟨some 17, .binOp .or 3 (.tmp 13) (.tmp 16) 3, false, none⟩,
  ⟨some 18, .call ⟨.value (.func 197), #[(.tmp 17), (.const (.int .i64 13))], #[3, 3]⟩, true, none⟩,
  ⟨some 2, .assign (.tmp 18), false, none⟩]) <|
 .seq (.keep [2]) <|
 .ret
theorem c155 : Tryz.f155.body.map (fun c => ((compile Tryz.prog kp155 [] kp155 c).map (·.1), fits Tryz.f155.ntmps c)) = some (some s155, true) := by kernel_rfl
theorem r155 : Tryz.f155.results.toList = [.tmp 2] := by kernel_rfl
attribute [go_sem] s155
abbrev kp156 : List Nat := [2]
def s156 : SC :=
 .seq (.ops [⟨some 2, .assign (.const (.int .i64 0)), false, none⟩]) <|
 .seq (.keep [0]) <|
 .seq (.ops [⟨some 3, .build 198 #[(0, (.const (.int .i64 18))), (1, (.const (.int .i64 19))), (2, (.const (.int .i64 20))), (3, (.const (.int .i64 21))), (4, (.const (.int .i64 0))), (5, (.const (.int .i64 0))), (6, (.const (.int .i64 0))), (7, (.const (.int .i64 0)))], false, none⟩,
  ⟨some 4, .move (.tmp 0), false, none⟩,
  ⟨some 5, .index 198 (.tmp 3) (.tmp 4), false, none⟩,
  ⟨some 2, .assign (.tmp 5), false, none⟩]) <|
 .seq (.keep [2]) <|
 .ret
theorem c156 : Tryz.f156.body.map (fun c => ((compile Tryz.prog kp156 [] kp156 c).map (·.1), fits Tryz.f156.ntmps c)) = some (some s156, true) := by kernel_rfl
theorem r156 : Tryz.f156.results.toList = [.tmp 2] := by kernel_rfl
attribute [go_sem] s156
abbrev kp157 : List Nat := [2]
def s157 : SC :=
 .seq (.ops [⟨some 2, .assign (.const (.int .i64 0)), false, none⟩]) <|
 .seq (.keep [0]) <|
 .seq (.ops [⟨some 3, .move (.tmp 0), false, none⟩,
  ⟨some 4, .call ⟨.value (.func 151), #[(.tmp 3), (.const (.int .i64 25)), (.const (.int .i64 7))], #[37, 3, 3]⟩, true, none⟩,
  ⟨some 5, .binOp .shl 3 (.tmp 4) (.const (.int .u64 5)) 44, false, none⟩,
  ⟨some 6, .move (.tmp 0), false, none⟩,
  ⟨some 7, .call ⟨.value (.func 151), #[(.tmp 6), (.const (.int .i64 7)), (.const (.int .i64 5))], #[37, 3, 3]⟩, true, none⟩,
  ⟨some 8, .binOp .or 3 (.tmp 5) (.tmp 7) 3, false, none⟩,
  ⟨some 9, .call ⟨.value (.func 197), #[(.tmp 8), (.const (.int .i64 12))], #[3, 3]⟩, true, none⟩,
  ⟨some 2, .assign (.tmp 9), false, none⟩]) <|
 .seq (.keep [2]) <|
 .ret
theorem c157 : Tryz.f157.body.map (fun c => ((compile Tryz.prog kp157 [] kp157 c).map (·.1), fits Tryz.f157.ntmps c)) = some (some s157, true) := by kernel_rfl
theorem r157 : Tryz.f157.results.toList = [.tmp 2] := by kernel_rfl
attribute [go_sem] s157
abbrev kp158 : List Nat := [4]
def s158 : SC :=
 .seq (.ops [⟨some 4, .assign (.const (.int .i64 0)), false, none⟩]) <|
 .seq (.keep [0, 1]) <|
 .seq (.block 0 <| .seq (.ops [⟨some 6, .move (.tmp 0), false, none⟩,
  ⟨some 7, .binOp .eql 3 (.tmp 6) (.const (.int .i64 0)) 3, false, none⟩,
  ⟨some 5, .assign (.tmp 7), false, none⟩]) <|
 .seq (.keep [0, 1, 5]) <|
 .cond (.tmp 5) (.seq (.ops [⟨some 8, .move (.tmp 1), false, none⟩,
  ⟨some 9, .call ⟨.value (.func 198), #[(.tmp 8)], #[3]⟩, true, none⟩,
  ⟨some 4, .assign (.tmp 9), false, none⟩]) <|
 .seq (.keep [4]) <|
 .ret) <|
 .seq (.ops [⟨some 11, .move (.tmp 0), false, none⟩,
  ⟨some 12, .binOp .eql 3 (.tmp 11) (.const (.int .i64 1)) 3, false, none⟩,
  ⟨some 10, .assign (.tmp 12), false, none⟩]) <|
 .seq (.keep [0, 1, 10]) <|
 .cond (.tmp 10) (.seq (.ops [⟨some 13, .move (.tmp 1), false, none⟩,
  ⟨some 14, .call ⟨.value (.func 199), #[(.tmp 13)], #[3]⟩, true, none⟩,
  ⟨some 4, .assign (.tmp 14), false, none⟩]) <|
 .seq (.keep [4]) <|
 .ret) <|
 .seq (.ops [⟨some 16, .move (.tmp 0), false, none⟩,
  ⟨some 17, .binOp .eql 3 (.tmp 16) (.const (.int .i64 32)) 3, false, none⟩,
  ⟨some 18, .move (.tmp 17), false, none⟩,
  ⟨some 19, .move (.tmp 1), false, some (18, true)⟩,
  ⟨some 20, .binOp .eql 3 (.tmp 19) (.const (.int .i64 0)) 3, false, some (18, true)⟩,
  ⟨some 21, .pick (.tmp 18) (.tmp 20) (.const (.bool false)), false, none⟩,
  ⟨some 15, .assign (.tmp 21), false, none⟩]) <|
 .seq (.keep [0, 1, 15]) <|
 .cond (.tmp 15) (.seq (.ops [⟨some 4, .assign (.const (.int .i64 32)), false, none⟩]) <|
 .seq (.keep [4]) <|
 .ret) <|
 .seq (.ops [⟨some 23, .move (.tmp 0), false, none⟩,
  ⟨some 24, .binOp .eql 3 (.tmp 23) (.const (.int .i64 32)) 3, false, none⟩,
  ⟨some 25, .move (.tmp 24), false, none⟩,
  ⟨some 26, .move (.tmp 1), false, some (25, true)⟩,
  ⟨some 27, .binOp .eql 3 (.tmp 26) (.const (.int .i64 5)) 3, false, some (25, true)⟩,
  ⟨some 28, .pick (.tmp 25) (.tmp 27) (.const (.bool false)), false, none⟩,
  ⟨some 22, .assign (.tmp 28), false, none⟩]) <|
 .seq (.keep [22]) <|
 .cond (.tmp 22) (.seq (.ops [⟨some 4, .assign (.const (.int .i64 38)), false, none⟩]) <|
 .seq (.keep [4]) <|
 .ret) <|
 .skip) <|
 .seq (.keep []) <|
 .seq (.ops [⟨some 4, .assign (.const (.int .i64 0)), false, none⟩]) <|
 .seq (.keep [4]) <|
 .ret
theorem c158 : Tryz.f158.body.map (fun c => ((compile Tryz.prog kp158 [] kp158 c).map (·.1), fits Tryz.f158.ntmps c)) = some (some s158, true) := by kernel_rfl
theorem r158 : Tryz.f158.results.toList = [.tmp 4] := by kernel_rfl
attribute [go_sem] s158
abbrev kp159 : List Nat := [4]
def s159 : SC :=
 .seq (.ops [⟨some 4, .assign (.const (.int .i64 0)), false, none⟩]) <|
 .seq (.keep [0, 1]) <|
 .seq (.seq (.ops [⟨some 5, .move (.tmp 0), false, none⟩]) <|
 .seq (.keep [1, 5]) <|
 .block 0 <| .seq (.ops [⟨some 7, .binOp .eql 3 (.tmp 5) (.const (.int .i64 0)) 3, false, none⟩,
  ⟨some 6, .assign (.tmp 7), false, none⟩]) <|
 .seq (.keep [1, 5, 6]) <|
 .cond (.tmp 6) (.seq (.ops [⟨some 8, .build 198 #[(0, (.const (.int .i64 45))), (1, (.const (.int .i64 47))), (2, (.const (.int .i64 0))), (3, (.const (.int .i64 0))), (4, (.const (.int .i64 0))), (5, (.const (.int .i64 48))), (6, (.const (.int .i64 0))), (7, (.const (.int .i64 0)))], false, none⟩,
  ⟨some 9, .move (.tmp 1), false, none⟩,
  ⟨some 10, .index 198 (.tmp 8) (.tmp 9), false, none⟩,
  ⟨some 4, .assign (.tmp 10), false, none⟩]) <|
 .seq (.keep [4]) <|
 .ret) <|
 .seq (.ops [⟨some 12, .binOp .eql 3 (.tmp 5) (.const (.int .i64 32)) 3, false, none⟩,
  ⟨some 11, .assign (.tmp 12), false, none⟩]) <|
 .seq (.keep [1, 5, 11]) <|
 .cond (.tmp 11) (.seq (.ops [⟨some 13, .build 198 #[(0, (.const (.int .i64 46))), (1, (.const (.int .i64 0))), (2, (.const (.int .i64 0))), (3, (.const (.int .i64 0))), (4, (.const (.int .i64 0))), (5, (.const (.int .i64 49))), (6, (.const (.int .i64 0))), (7, (.const (.int .i64 0)))], false, none⟩,
  ⟨some 14, .move (.tmp 1), false, none⟩,
  ⟨some 15, .index 198 (.tmp 13) (.tmp 14), false, none⟩,
  ⟨some 4, .assign (.tmp 15), false, none⟩]) <|
 .seq (.keep [4]) <|
 .ret) <|
 .seq (.ops [⟨some 17, .binOp .eql 3 (.tmp 5) (.const (.int .i64 1)) 3, false, none⟩,
  ⟨some 16, .assign (.tmp 17), false, none⟩]) <|
 .seq (.keep [1, 16]) <|
 .cond (.tmp 16) (.seq (.ops [⟨some 18, .build 198 #[(0, (.const (.int .i64 58))), (1, (.const (.int .i64 0))), (2, (.const (.int .i64 0))), (3, (.const (.int .i64 0))), (4, (.const (.int .i64 59))), (5, (.const (.int .i64 60))), (6, (.const (.int .i64 61))), (7, (.const (.int .i64 62)))], false, none⟩,
  ⟨some 19, .move (.tmp 1), false, none⟩,
  ⟨some 20, .index 198 (.tmp 18) (.tmp 19), false, none⟩,
  ⟨some 4, .assign (.tmp 20), false, none⟩]) <|
 .seq (.keep [4]) <|
 .ret) <|
 .skip) <|
 .seq (.keep []) <|
 .seq (.ops [⟨some 4, .assign (.const (.int .i64 0)), false, none⟩]) <|
 .seq (.keep [4]) <|
 .ret
theorem c159 : Tryz.f159.body.map (fun c => ((compile Tryz.prog kp159 [] kp159 c).map (·.1), fits Tryz.f159.ntmps c)) = some (some s159, true) := by kernel_rfl
theorem r159 : Tryz.f159.results.toList = [.tmp 4] := by kernel_rfl
attribute [go_sem] s159
abbrev kp160 : List Nat := [2]
def s160 : SC :=
 .seq (.ops [⟨some 2, .alloc 47, true, none⟩]) <|
 .seq (.keep [0, 2]) <|
 .seq (.ops [⟨some 6, .move (.tmp 0), false, none⟩,
  ⟨some 7, .call ⟨.value (.func 151), #[(.tmp 6), (.const (.int .i64 27)), (.const (.int .i64 5))], #[37, 3, 3]⟩, true, none⟩,
  ⟨some 8, .call ⟨.value (.func 200), #[(.tmp 7)], #[3]⟩, true, none⟩,
  ⟨some 3, .assign (.tmp 8), false, none⟩]) <|
 .seq (.keep [0, 2, 3]) <|
 .seq (.ops [⟨some 9, .move (.tmp 0), false, none⟩,
  ⟨some 10, .call ⟨.value (.func 151), #[(.tmp 9), (.const (.int .i64 20)), (.const (.int .i64 5))], #[37, 3, 3]⟩, true, none⟩,
  ⟨some 4, .assign (.tmp 10), false, none⟩]) <|
 .seq (.keep [0, 2, 3, 4]) <|
 .seq (.ops [⟨some 11, .move (.tmp 0), false, none⟩,
  ⟨some 12, .call ⟨.value (.func 151), #[(.tmp 11), (.const (.int .i64 12)), (.const (.int .i64 3))], #[37, 3, 3]⟩, true, none⟩,
  ⟨some 5, .assign (.tmp 12), false, none⟩]) <|
 .seq (.keep [0, 2, 3, 4, 5]) <|
 .seq (.seq (.ops [⟨some 13, .move (.tmp 3), false, none⟩,
  ⟨some 14, .binOp .eql 3 (.tmp 13) (.const (.int .i64 0)) 3, false, none⟩,
  ⟨some 15, .move (.tmp 14), false, none⟩,
  ⟨some 16, .move (.tmp 5), false, some (15, false)⟩,
  ⟨some 17, .binOp .neq 3 (.tmp 16) (.const (.int .i64 2)) 3, false, some (15, false)⟩,
  ⟨some 18, .move (.tmp 17), false, some (15, false)⟩,
  ⟨some 19, .move (.tmp 5), false, some (18, true)⟩,
  ⟨some 20, .binOp .neq 3 (.tmp 19) (.const (.int .i64 3)) 3, false, some (18, true)⟩,
  ⟨some 21, .pick (.tmp 18) (.tmp 20) (.const (.bool false)), false, some (15, false)⟩,
  ⟨some 22, .pick (.tmp 15) (.const (.bool true)) (.tmp 21), false, none⟩,
  ⟨some 23, .move (.tmp 22), false, none⟩,
  ⟨some 24, .move (.tmp 3), false, some (23, false)⟩,
  ⟨some 25, .binOp .eql 3 (.tmp 24) (.const (.int .i64 63)) 3, false, some (23, false)⟩,
  ⟨some 26, .move (.tmp 25), false, some (23, false)⟩,
  ⟨some 27, .move (.tmp 4), false, some (26, true)⟩,
  ⟨some 28, .binOp .neq 3 (.tmp 27) (.const (.int .i64 0)) 3, false, some (26, true)⟩,
  ⟨some 29, .pick (.tmp 26) (.tmp 28) (.const (.bool false)), false, some (23, false)⟩,
  ⟨some 30, .pick (.tmp 23) (.const (.bool true)) (.tmp 29), false, none⟩]) <|
 .seq (.keep [0, 2, 3, 4, 5, 30]) <|
 .cond (.tmp 30) (.seq (.ops [⟨some 31, .build 47 #[], false, none⟩,
  ⟨none, .store 47 (.tmp 2) (.tmp 31), true, none⟩]) <|
 .seq (.keep [2]) <|
 .ret) <|
 .skip) <|
 .seq (.keep [0, 2, 3, 4, 5]) <|
 .seq (.seq (.ops [⟨some 32, .move (.tmp 5), false, none⟩,
  ⟨some 33, .binOp .eql 3 (.tmp 32) (.const (.int .i64 3)) 3, false, none⟩]) <|
 .seq (.keep [0, 2, 3, 4, 33]) <|
 .cond (.tmp 33) (.ops [⟨some 34, .move (.tmp 3), false, none⟩,
  ⟨some 35, .binOp .add 3 (.tmp 34) (.const (.int .i64 11)) 3, false, none⟩,
  ⟨some 3, .assign (.tmp 35), false, none⟩]) <|
 .skip) <|
 .seq (.keep [0, 2, 3, 4]) <|
 .seq (.ops [⟨some 36, .move (.tmp 3), false, none⟩,
  ⟨some 37, .move (.tmp 4), false, none⟩,
  ⟨some 38, .move (.tmp 0), false, none⟩,
  ⟨some 39, .call ⟨.value (.func 151), #[(.tmp 38), (.const (.int .i64 25)), (.const (.int .i64 2))], #[37, 3, 3]⟩, true, none⟩,
  ⟨some 40, .build 47 #[(0, (.tmp 36)), (3, (.tmp 37)), (5, (.tmp 39))], false, none⟩,
  ⟨none, .store 47 (.tmp 2) (.tmp 40), true, none⟩]) <|
 .seq (.keep [2]) <|
 .ret
theorem c160 : Tryz.f160.body.map (fun c => ((compile Tryz.prog kp160 [] kp160 c).map (·.1), fits Tryz.f160.ntmps c)) = some (some s160, true) := by kernel_rfl
theorem r160 : Tryz.f160.results.toList = [.cell 2 47] := by kernel_rfl
attribute [go_sem] s160
abbrev kp161 : List Nat := [2]
def s161 : SC :=
 .seq (.ops [⟨some 2, .alloc 47, true, none⟩]) <|
 .seq (.keep [0, 2]) <|
 .seq (.seq (.ops [⟨some 4, .move (.tmp 0), false, none⟩,
  ⟨some 5, .call ⟨.value (.func 151), #[(.tmp 4), (.const (.int .i64 12)), (.const (.int .i64 3))], #[37, 3, 3]⟩, true, none⟩,
  ⟨some 3, .assign (.tmp 5), false, none⟩]) <|
 .seq (.keep [0, 2, 3]) <|
 .block 0 <| .seq (.ops [⟨some 7, .move (.tmp 0), false, none⟩,
  ⟨some 8, .binOp .eql 37 (.tmp 7) (.const (.int .u32 115)) 37, false, none⟩,
  ⟨some 6, .assign (.tmp 8), false, none⟩]) <|
 .seq (.keep [0, 2, 3, 6]) <|
 .cond (.tmp 6) (.seq (.ops [⟨some 9, .build 47 #[(0, (.const (.int .i64 87)))], false, none⟩,
  ⟨none, .store 47 (.tmp 2) (.tmp 9), true, none⟩]) <|
 .seq (.keep [2]) <|
 .ret) <|
 .seq (.ops [⟨some 11, .move (.tmp 0), false, none⟩,
  ⟨some 12, .binOp .eql 37 (.tmp 11) (.const (.int .u32 1048691)) 37, false, none⟩,
  ⟨some 10, .assign (.tmp 12), false, none⟩]) <|
 .seq (.keep [0, 2, 3, 10]) <|
 .cond (.tmp 10) (.seq (.ops [⟨some 13, .build 47 #[(0, (.const (.int .i64 88)))], false, none⟩,
  ⟨none, .store 47 (.tmp 2) (.tmp 13), true, none⟩]) <|
 .seq (.keep [2]) <|
 .ret) <|
 .seq (.ops [⟨some 15, .move (.tmp 0), false, none⟩,
  ⟨some 16, .call ⟨.value (.func 151), #[(.tmp 15), (.const (.int .i64 0)), (.const (.int .i64 7))], #[37, 3, 3]⟩, true, none⟩,
  ⟨some 17, .binOp .eql 3 (.tmp 16) (.const (.int .i64 15)) 3, false, none⟩,
  ⟨some 18, .move (.tmp 17), false, none⟩,
  ⟨some 19, .move (.tmp 3), false, some (18, true)⟩,
  ⟨some 20, .binOp .eql 3 (.tmp 19) (.const (.int .i64 0)) 3, false, some (18, true)⟩,
  ⟨some 21, .pick (.tmp 18) (.tmp 20) (.const (.bool false)), false, none⟩,
  ⟨some 14, .assign (.tmp 21), false, none⟩]) <|
 .seq (.keep [0, 2, 3, 14]) <|
 .cond (.tmp 14) (.seq (.ops [⟨some 22, .build 47 #[(0, (.const (.int .i64 85)))], false, none⟩,
  ⟨none, .store 47 (.tmp 2) (.tmp 22), true, none⟩]) <|
 .seq (.keep [2]) <|
 .ret) <|
 .seq (.ops [⟨some 24, .move (.tmp 0), false, none⟩,
  ⟨some 25, .call ⟨.value (.func 151), #[(.tmp 24), (.const (.int .i64 0)), (.const (.int .i64 7))], #[37, 3, 3]⟩, true, none⟩,
  ⟨some 26, .binOp .eql 3 (.tmp 25) (.const (.int .i64 15)) 3, false, none⟩,
  ⟨some 27, .move (.tmp 26), false, none⟩,
  ⟨some 28, .move (.tmp 3), false, some (27, true)⟩,
  ⟨some 29, .binOp .eql 3 (.tmp 28) (.const (.int .i64 1)) 3, false, some (27, true)⟩,
  ⟨some 30, .pick (.tmp 27) (.tmp 29) (.const (.bool false)), false, none⟩,
  ⟨some 23, .assign (.tmp 30), false, none⟩]) <|
 .seq (.keep [2, 23]) <|
 .cond (.tmp 23) (.seq (.ops [⟨some 31, .build 47 #[(0, (.const (.int .i64 86)))], false, none⟩,
  ⟨none, .store 47 (.tmp 2) (.tmp 31), true, none⟩]) <|
 .seq (.keep [2]) <|
 .ret) <|
 .skip) <|
 .seq (.keep [2]) <|
 .seq (.ops [⟨some 32, .build 47 #[], false, none⟩,
  ⟨none, .store 47 (.tmp 2) (.tmp 32), true, none⟩]) <|
 .seq (.keep [2]) <|
 .ret
theorem c161 : Tryz.f161.body.map (fun c => ((compile Tryz.prog kp161 [] kp161 c).map (·.1), fits Tryz.f161.ntmps c)) = some (some s161, true) := by kernel_rfl
theorem r161 : Tryz.f161.results.toList = [.cell 2 47] := by kernel_rfl
attribute [go_sem] s161
abbrev kp162 : List Nat := [2]
def s162 : SC :=
 .seq (.ops [⟨some 2, .alloc 47, true, none⟩]) <|
 .seq (.keep [0, 2]) <|
 .seq (.ops [⟨some 4, .move (.tmp 0), false, none⟩,
  ⟨some 5, .call ⟨.value (.func 151), #[(.tmp 4), (.const (.int .i64 12)), (.const (.int .i64 3))], #[37, 3, 3]⟩, true, none⟩,
  ⟨some 3, .assign (.tmp 5), false, none⟩]) <|
 .seq (.keep [0, 2, 3]) <|
 .seq (.seq (.ops [⟨some 6, .move (.tmp 0), false, none⟩,
  ⟨some 7, .call ⟨.value (.func 151), #[(.tmp 6), (.const (.int .i64 0)), (.const (.int .i64 7))], #[37, 3, 3]⟩, true, none⟩]) <|
 .seq (.keep [0, 2, 3, 7]) <|
 .block 0 <| .seq (.ops [⟨some 9, .binOp .eql 3 (.tmp 7) (.const (.int .i64 103)) 3, false, none⟩,
  ⟨some 8, .assign (.tmp 9), false, none⟩]) <|
 .seq (.keep [0, 2, 3, 7, 8]) <|
 .cond (.tmp 8) (.seq (.ops [⟨some 10, .move (.tmp 3), false, none⟩,
  ⟨some 11, .binOp .eql 3 (.tmp 10) (.const (.int .i64 0)) 3, false, none⟩]) <|
 .seq (.keep [0, 2, 11]) <|
 .cond (.tmp 11) (.seq (.ops [⟨some 12, .move (.tmp 0), false, none⟩,
  ⟨some 13, .call ⟨.value (.func 201), #[(.tmp 12)], #[37]⟩, true, none⟩,
  ⟨some 14, .build 47 #[(0, (.const (.int .i64 4))), (4, (.tmp 13))], false, none⟩,
  ⟨none, .store 47 (.tmp 2) (.tmp 14), true, none⟩]) <|
 .seq (.keep [2]) <|
 .ret) <|
 .skip) <|
 .seq (.ops [⟨some 16, .binOp .eql 3 (.tmp 7) (.const (.int .i64 3)) 3, false, none⟩,
  ⟨some 15, .assign (.tmp 16), false, none⟩]) <|
 .seq (.keep [0, 2, 3, 7, 15]) <|
 .cond (.tmp 15) (.seq (.ops [⟨some 17, .move (.tmp 3), false, none⟩,
  ⟨some 18, .call ⟨.value (.func 202), #[(.tmp 17)], #[3]⟩, true, none⟩,
  ⟨some 19, .move (.tmp 0), false, none⟩,
  ⟨some 20, .call ⟨.value (.func 201), #[(.tmp 19)], #[37]⟩, true, none⟩,
  ⟨some 21, .build 47 #[(0, (.tmp 18)), (4, (.tmp 20))], false, none⟩,
  ⟨none, .store 47 (.tmp 2) (.tmp 21), true, none⟩]) <|
 .seq (.keep [2]) <|
 .ret) <|
 .seq (.ops [⟨some 23, .binOp .eql 3 (.tmp 7) (.const (.int .i64 19)) 3, false, none⟩,
  ⟨some 22, .assign (.tmp 23), false, none⟩]) <|
 .seq (.keep [0, 2, 3, 7, 22]) <|
 .cond (.tmp 22) (.seq (.seq (.ops [⟨some 24, .move (.tmp 3), false, none⟩,
  ⟨some 25, .binOp .eql 3 (.tmp 24) (.const (.int .i64 1)) 3, false, none⟩,
  ⟨some 26, .move (.tmp 25), false, none⟩,
  ⟨some 27, .move (.tmp 3), false, some (26, false)⟩,
  ⟨some 28, .binOp .eql 3 (.tmp 27) (.const (.int .i64 5)) 3, false, some (26, false)⟩,
  ⟨some 29, .pick (.tmp 26) (.const (.bool true)) (.tmp 28), false, none⟩]) <|
 .seq (.keep [0, 2, 3, 29]) <|
 .cond (.tmp 29) (.seq (.ops [⟨some 30, .move (.tmp 0), false, none⟩,
  ⟨some 31, .call ⟨.value (.func 203), #[(.tmp 30), (.const (.int .i64 28)), (.const (.int .i64 29)), (.const (.int .i64 30)), (.const (.int .i64 6))], #[37, 3, 3, 3, 3]⟩, true, none⟩,
  ⟨none, .store 47 (.tmp 2) (.tmp 31), true, none⟩]) <|
 .seq (.keep [2]) <|
 .ret) <|
 .skip) <|
 .seq (.keep [0, 2, 3]) <|
 .seq (.ops [⟨some 32, .move (.tmp 3), false, none⟩,
  ⟨some 33, .call ⟨.value (.func 204), #[(.tmp 32)], #[3]⟩, true, none⟩,
  ⟨some 34, .move (.tmp 0), false, none⟩,
  ⟨some 35, .call ⟨.value (.func 201), #[(.tmp 34)], #[37]⟩, true, none⟩,
  ⟨some 36, .build 47 #[(0, (.tmp 33)), (4, (.tmp 35))], false, none⟩,
  ⟨none, .store 47 (.tmp 2) (.tmp 36), true, none⟩]) <|
 .seq (.keep [2]) <|
 .ret) <|
 .seq (.ops [⟨some 38, .binOp .eql 3 (.tmp 7) (.const (.int .i64 27)) 3, false, none⟩,
  ⟨some 37, .assign (.tmp 38), false, none⟩]) <|
 .seq (.keep [0, 2, 3, 37]) <|
 .cond (.tmp 37) (.seq (.seq (.ops [⟨some 39, .move (.tmp 3), false, none⟩,
  ⟨some 40, .binOp .eql 3 (.tmp 39) (.const (.int .i64 0)) 3, false, none⟩]) <|
 .seq (.keep [0, 2, 40]) <|
 .cond (.tmp 40) (.seq (.ops [⟨some 41, .move (.tmp 0), false, none⟩,
  ⟨some 42, .call ⟨.value (.func 201), #[(.tmp 41)], #[37]⟩, true, none⟩,
  ⟨some 43, .build 47 #[(0, (.const (.int .i64 41))), (4, (.tmp 42))], false, none⟩,
  ⟨none, .store 47 (.tmp 2) (.tmp 43), true, none⟩]) <|
 .seq (.keep [2]) <|
 .ret) <|
 .skip) <|
 .seq (.keep [0, 2]) <|
 .seq (.ops [⟨some 44, .move (.tmp 0), false, none⟩,
  ⟨some 45, .call ⟨.value (.func 203), #[(.tmp 44), (.const (.int .i64 42)), (.const (.int .i64 43)), (.const (.int .i64 44)), (.const (.int .i64 5))], #[37, 3, 3, 3, 3]⟩, true, none⟩,
  ⟨none, .store 47 (.tmp 2) (.tmp 45), true, none⟩]) <|
 .seq (.keep [2]) <|
 .ret) <|
 .skip) <|
 .seq (.keep [2]) <|
 .seq (.ops [⟨some 46, .build 47 #[], false, none⟩,
  ⟨none, .store 47 (.tmp 2) (.tmp 46), true, none⟩]) <|
 .seq (.keep [2]) <|
 .ret
theorem c162 : Tryz.f162.body.map (fun c => ((compile Tryz.prog kp162 [] kp162 c).map (·.1), fits Tryz.f162.ntmps c)) = some (some s162, true) := by kernel_rfl
theorem r162 : Tryz.f162.results.toList = [.cell 2 47] := by kernel_rfl
attribute [go_sem] s162
abbrev kp163 : List Nat := [4]
def s163 : SC :=
 .seq (.ops [⟨some 4, .assign (.const (.bool false)), false, none⟩]) <|
 .seq (.keep [0, 1]) <|
 .seq (.ops [⟨some 5, .move (.tmp 0), false, none⟩,
  ⟨some 6, .convert 29 2 (.tmp 5), false, none⟩,
  ⟨some 7, .move (.tmp 1), false, none⟩,
  ⟨some 8, .convert 29 2 (.tmp 7), false, none⟩,
  ⟨some 9, .binOp .lss 2 (.tmp 6) (.tmp 8) 2, false, none⟩,
  ⟨some 4, .assign (.tmp 9), false, none⟩]) <|
 .seq (.keep [4]) <|
 .ret
theorem c163 : Tryz.f163.body.map (fun c => ((compile Tryz.prog kp163 [] kp163 c).map (·.1), fits Tryz.f163.ntmps c)) = some (some s163, true) := by kernel_rfl
theorem r163 : Tryz.f163.results.toList = [.tmp 4] := by kernel_rfl
attribute [go_sem] s163
abbrev kp164 : List Nat := [6, 7]
def s164 : SC :=
 .seq (.ops [⟨some 6, .assign (.const (.int .u64 0)), false, none⟩,
  ⟨some 7, .assign (.const (.bool false)), false, none⟩]) <|
 .seq (.keep [0, 1, 2]) <|
 .seq (.seq (.ops [⟨some 8, .move (.tmp 0), false, none⟩]) <|
 .seq (.keep [1, 2, 8]) <|
 .block 0 <| .seq (.ops [⟨some 10, .binOp .eql 3 (.tmp 8) (.const (.int .i64 1)) 3, false, none⟩,
  ⟨some 9, .assign (.tmp 10), false, none⟩]) <|
 .seq (.keep [1, 2, 8, 9]) <|
 .cond (.tmp 9) (.seq (.ops [⟨some 11, .move (.tmp 2), false, none⟩,
  ⟨some 6, .assign (.tmp 11), false, none⟩,
  ⟨some 7, .assign (.const (.bool true)), false, none⟩]) <|
 .seq (.keep [6, 7]) <|
 .ret) <|
 .seq (.seq (.ops [⟨some 13, .binOp .eql 3 (.tmp 8) (.const (.int .i64 22)) 3, false, none⟩,
  ⟨some 12, .assign (.tmp 13), false, none⟩]) <|
 .seq (.keep [1, 2, 8, 12]) <|
 .cond (.tmp 12) (.skip) <|
 .ops [⟨some 14, .binOp .eql 3 (.tmp 8) (.const (.int .i64 31)) 3, false, none⟩,
  ⟨some 12, .assign (.tmp 14), false, none⟩]) <|
 .seq (.keep [1, 2, 8, 12]) <|
 .cond (.tmp 12) (.seq (.ops [⟨some 15, .move (.tmp 1), false, none⟩,
  ⟨some 16, .move (.tmp 2), false, none⟩,
  ⟨some 17, .binOp .add 29 (.tmp 15) (.tmp 16) 29, false, none⟩,
  ⟨some 6, .assign (.tmp 17), false, none⟩,
  ⟨some 7, .assign (.const (.bool true)), false, none⟩]) <|
 .seq (.keep [6, 7]) <|
 .ret) <|
 .seq (.ops [⟨some 19, .binOp .eql 3 (.tmp 8) (.const (.int .i64 32)) 3, false, none⟩,
  ⟨some 18, .assign (.tmp 19), false, none⟩]) <|
 .seq (.keep [1, 2, 8, 18]) <|
 .cond (.tmp 18) (.seq (.ops [⟨some 20, .move (.tmp 1), false, none⟩,
  ⟨some 21, .move (.tmp 2), false, none⟩,
  ⟨some 22, .binOp .sub 29 (.tmp 20) (.tmp 21) 29, false, none⟩,
  ⟨some 6, .assign (.tmp 22), false, none⟩,
  ⟨some 7, .assign (.const (.bool true)), false, none⟩]) <|
 .seq (.keep [6, 7]) <|
 .ret) <|
 .seq (.seq (.ops [⟨some 24, .binOp .eql 3 (.tmp 8) (.const (.int .i64 25)) 3, false, none⟩,
  ⟨some 23, .assign (.tmp 24), false, none⟩]) <|
 .seq (.keep [1, 2, 8, 23]) <|
 .cond (.tmp 23) (.skip) <|
 .ops [⟨some 25, .binOp .eql 3 (.tmp 8) (.const (.int .i64 36)) 3, false, none⟩,
  ⟨some 23, .assign (.tmp 25), false, none⟩]) <|
 .seq (.keep [1, 2, 8, 23]) <|
 .cond (.tmp 23) (.seq (.ops [⟨some 26, .move (.tmp 1), false, none⟩,
  ⟨some 27, .move (.tmp 2), false, none⟩,
  ⟨some 28, .binOp .xor 29 (.tmp 26) (.tmp 27) 29, false, none⟩,
  ⟨some 6, .assign (.tmp 28), false, none⟩,
  ⟨some 7, .assign (.const (.bool true)), false, none⟩]) <|
 .seq (.keep [6, 7]) <|
 .ret) <|
 .seq (.seq (.ops [⟨some 30, .binOp .eql 3 (.tmp 8) (.const (.int .i64 26)) 3, false, none⟩,
  ⟨some 29, .assign (.tmp 30), false, none⟩]) <|
 .seq (.keep [1, 2, 8, 29]) <|
 .cond (.tmp 29) (.skip) <|
 .ops [⟨some 31, .binOp .eql 3 (.tmp 8) (.const (.int .i64 39)) 3, false, none⟩,
  ⟨some 29, .assign (.tmp 31), false, none⟩]) <|
 .seq (.keep [1, 2, 8, 29]) <|
 .cond (.tmp 29) (.seq (.ops [⟨some 32, .move (.tmp 1), false, none⟩,
  ⟨some 33, .move (.tmp 2), false, none⟩,
  ⟨some 34, .binOp .or 29 (.tmp 32) (.tmp 33) 29, false, none⟩,
  ⟨some 6, .assign (.tmp 34), false, none⟩,
  ⟨some 7, .assign (.const (.bool true)), false, none⟩]) <|
 .seq (.keep [6, 7]) <|
 .ret) <|
 .seq (.seq (.ops [⟨some 36, .binOp .eql 3 (.tmp 8) (.const (.int .i64 27)) 3, false, none⟩,
  ⟨some 35, .assign (.tmp 36), false, none⟩]) <|
 .seq (.keep [1, 2, 8, 35]) <|
 .cond (.tmp 35) (.skip) <|
 .ops [⟨some 37, .binOp .eql 3 (.tmp 8) (.const (.int .i64 40)) 3, false, none⟩,
  ⟨some 35, .assign (.tmp 37), false, none⟩]) <|
 .seq (.keep [1, 2, 8, 35]) <|
 .cond (.tmp 35) (.seq (.ops [⟨some 38, .move (.tmp 1), false, none⟩,
  ⟨some 39, .move (.tmp 2), false, none⟩,
  ⟨some 40, .binOp .and 29 (.tmp 38) (.tmp 39) 29, false, none⟩,
  ⟨some 6, .assign (.tmp 40), false, none⟩,
  ⟨some 7, .assign (.const (.bool true)), false, none⟩]) <|
 .seq (.keep [6, 7]) <|
 .ret) <|
 .seq (.seq (.ops [⟨some 42, .binOp .eql 3 (.tmp 8) (.const (.int .i64 23)) 3, false, none⟩,
  ⟨some 41, .assign (.tmp 42), false, none⟩]) <|
 .seq (.keep [1, 2, 8, 41]) <|
 .cond (.tmp 41) (.skip) <|
 .ops [⟨some 43, .binOp .eql 3 (.tmp 8) (.const (.int .i64 34)) 3, false, none⟩,
  ⟨some 41, .assign (.tmp 43), false, none⟩]) <|
 .seq (.keep [1, 2, 8, 41]) <|
 .cond (.tmp 41) (.seq (.ops [⟨some 44, .move (.tmp 1), false, none⟩,
  ⟨some 45, .move (.tmp 2), false, none⟩,
  ⟨some 46, .call ⟨.value (.func 163), #[(.tmp 44), (.tmp 45)], #[29, 29]⟩, true, none⟩,
  ⟨some 47, .call ⟨.value (.func 205), #[(.tmp 46)], #[4]⟩, true, none⟩,
  ⟨some 6, .assign (.tmp 47), false, none⟩,
  ⟨some 7, .assign (.const (.bool true)), false, none⟩]) <|
 .seq (.keep [6, 7]) <|
 .ret) <|
 .seq (.seq (.ops [⟨some 49, .binOp .eql 3 (.tmp 8) (.const (.int .i64 24)) 3, false, none⟩,
  ⟨some 48, .assign (.tmp 49), false, none⟩]) <|
 .seq (.keep [1, 2, 8, 48]) <|
 .cond (.tmp 48) (.skip) <|
 .ops [⟨some 50, .binOp .eql 3 (.tmp 8) (.const (.int .i64 35)) 3, false, none⟩,
  ⟨some 48, .assign (.tmp 50), false, none⟩]) <|
 .seq (.keep [1, 2, 48]) <|
 .cond (.tmp 48) (.seq (.ops [⟨some 51, .move (.tmp 1), false, none⟩,
  ⟨some 52, .move (.tmp 2), false, none⟩,
  ⟨some 53, .binOp .lss 29 (.tmp 51) (.tmp 52) 29, false, none⟩,
  ⟨some 54, .call ⟨.value (.func 205), #[(.tmp 53)], #[4]⟩, true, none⟩,
  ⟨some 6, .assign (.tmp 54), false, none⟩,
  ⟨some 7, .assign (.const (.bool true)), false, none⟩]) <|
 .seq (.keep [6, 7]) <|
 .ret) <|
 .skip) <|
 .seq (.keep []) <|
 .seq (.ops [⟨some 6, .assign (.const (.int .u64 0)), false, none⟩,
  ⟨some 7, .assign (.const (.bool false)), false, none⟩]) <|
 .seq (.keep [6, 7]) <|
 .ret
theorem c164 : Tryz.f164.body.map (fun c => ((compile Tryz.prog kp164 [] kp164 c).map (·.1), fits Tryz.f164.ntmps c)) = some (some s164, true) := by kernel_rfl
theorem r164 : Tryz.f164.results.toList = [.tmp 6, .tmp 7] := by kernel_rfl
attribute [go_sem] s164
abbrev kp165 : List Nat := [6, 7]
def s165 : SC :=
 .seq (.ops [⟨some 6, .assign (.const (.int .u64 0)), false, none⟩,
  ⟨some 7, .assign (.const (.bool false)), false, none⟩]) <|
 .seq (.keep [0, 1, 2]) <|
 .seq (.ops [⟨some 9, .move (.tmp 2), false, none⟩,
  ⟨some 10, .binOp .and 29 (.tmp 9) (.const (.int .u64 63)) 29, false, none⟩,
  ⟨some 8, .assign (.tmp 10), false, none⟩]) <|
 .seq (.keep [0, 1, 8]) <|
 .seq (.seq (.ops [⟨some 11, .move (.tmp 0), false, none⟩]) <|
 .seq (.keep [1, 8, 11]) <|
 .block 0 <| .seq (.seq (.ops [⟨some 13, .binOp .eql 3 (.tmp 11) (.const (.int .i64 28)) 3, false, none⟩,
  ⟨some 12, .assign (.tmp 13), false, none⟩]) <|
 .seq (.keep [1, 8, 11, 12]) <|
 .cond (.tmp 12) (.skip) <|
 .ops [⟨some 14, .binOp .eql 3 (.tmp 11) (.const (.int .i64 33)) 3, false, none⟩,
  ⟨some 12, .assign (.tmp 14), false, none⟩]) <|
 .seq (.keep [1, 8, 11, 12]) <|
 .cond (.tmp 12) (.seq (.ops [⟨some 15, .move (.tmp 1), false, none⟩,
  ⟨some 16, .move (.tmp 8), false, none⟩,
  ⟨some 17, .binOp .shl 29 (.tmp 15) (.tmp 16) 29, false, none⟩,
  ⟨some 6, .assign (.tmp 17), false, none⟩,
  ⟨some 7, .assign (.const (.bool true)), false, none⟩]) <|
 .seq (.keep [6, 7]) <|
 .ret) <|
 .seq (.seq (.ops [⟨some 19, .binOp .eql 3 (.tmp 11) (.const (.int .i64 29)) 3, false, none⟩,
  ⟨some 18, .assign (.tmp 19), false, none⟩]) <|
 .seq (.keep [1, 8, 11, 18]) <|
 .cond (.tmp 18) (.skip) <|
 .ops [⟨some 20, .binOp .eql 3 (.tmp 11) (.const (.int .i64 37)) 3, false, none⟩,
  ⟨some 18, .assign (.tmp 20), false, none⟩]) <|
 .seq (.keep [1, 8, 11, 18]) <|
 .cond (.tmp 18) (.seq (.ops [⟨some 21, .move (.tmp 1), false, none⟩,
  ⟨some 22, .move (.tmp 8), false, none⟩,
  ⟨some 23, .binOp .shr 29 (.tmp 21) (.tmp 22) 29, false, none⟩,
  ⟨some 6, .assign (.tmp 23), false, none⟩,
  ⟨some 7, .assign (.const (.bool true)), false, none⟩]) <|
 .seq (.keep [6, 7]) <|
 .ret) <|
 .seq (.seq (.ops [⟨some 25, .binOp .eql 3 (.tmp 11) (.const (.int .i64 30)) 3, false, none⟩,
  ⟨some 24, .assign (.tmp 25), false, none⟩]) <|
 .seq (.keep [1, 8, 11, 24]) <|
 .cond (.tmp 24) (.skip) <|
 .ops [⟨some 26, .binOp .eql 3 (.tmp 11) (.const (.int .i64 38)) 3, false, none⟩,
  ⟨some 24, .assign (.tmp 26), false, none⟩]) <|
 .seq (.keep [1, 8, 24]) <|
 .cond (.tmp 24) (.seq (.ops [⟨some 27, .move (.tmp 1), false, none⟩,
  ⟨some 28, .convert 29 2 (.tmp 27), false, none⟩,
  ⟨some 29, .move (.tmp 8), false, none⟩,
  ⟨some 30, .binOp .shr 2 (.tmp 28) (.tmp 29) 29, false, none⟩,
  ⟨some 31, .convert 2 29 (.tmp 30), false, none⟩,
  ⟨some 6, .assign (.tmp 31), false, none⟩,
  ⟨some 7, .assign (.const (.bool true)), false, none⟩]) <|
 .seq (.keep [6, 7]) <|
 .ret) <|
 .skip) <|
 .seq (.keep []) <|
 .seq (.ops [⟨some 6, .assign (.const (.int .u64 0)), false, none⟩,
  ⟨some 7, .assign (.const (.bool false)), false, none⟩]) <|
 .seq (.keep [6, 7]) <|
 .ret
theorem c165 : Tryz.f165.body.map (fun c => ((compile Tryz.prog kp165 [] kp165 c).map (·.1), fits Tryz.f165.ntmps c)) = some (some s165, true) := by kernel_rfl
theorem r165 : Tryz.f165.results.toList = [.tmp 6, .tmp 7] := by kernel_rfl
attribute [go_sem] s165
abbrev kp166 : List Nat := [6, 7]
def s166 : SC :=
 .seq (.ops [⟨some 6, .assign (.const (.int .u64 0)), false, none⟩,
  ⟨some 7, .assign (.const (.bool false)), false, none⟩]) <|
 .seq (.keep [0, 1, 2]) <|
 .seq (.ops [⟨some 10, .move (.tmp 2), false, none⟩,
  ⟨some 11, .binOp .and 29 (.tmp 10) (.const (.int .u64 31)) 29, false, none⟩,
  ⟨some 8, .assign (.tmp 11), false, none⟩]) <|
 .seq (.keep [0, 1, 2, 8]) <|
 .seq (.ops [⟨some 9, .assign (.const (.int .u64 0)), false, none⟩]) <|
 .seq (.keep [0, 1, 2, 8]) <|
 .seq (.seq (.ops [⟨some 12, .move (.tmp 0), false, none⟩]) <|
 .seq (.keep [1, 2, 8, 12]) <|
 .block 0 <| .seq (.seq (.ops [⟨some 14, .binOp .eql 3 (.tmp 12) (.const (.int .i64 41)) 3, false, none⟩,
  ⟨some 13, .assign (.tmp 14), false, none⟩]) <|
 .seq (.keep [1, 2, 8, 12, 13]) <|
 .cond (.tmp 13) (.skip) <|
 .ops [⟨some 15, .binOp .eql 3 (.tmp 12) (.const (.int .i64 45)) 3, false, none⟩,
  ⟨some 13, .assign (.tmp 15), false, none⟩]) <|
 .seq (.keep [1, 2, 8, 12, 13]) <|
 .cond (.tmp 13) (.ops [⟨some 16, .move (.tmp 1), false, none⟩,
  ⟨some 17, .move (.tmp 2), false, none⟩,
  ⟨some 18, .binOp .add 29 (.tmp 16) (.tmp 17) 29, false, none⟩,
  ⟨some 9, .assign (.tmp 18), false, none⟩]) <|
 .seq (.ops [⟨some 20, .binOp .eql 3 (.tmp 12) (.const (.int .i64 46)) 3, false, none⟩,
  ⟨some 19, .assign (.tmp 20), false, none⟩]) <|
 .seq (.keep [1, 2, 8, 12, 19]) <|
 .cond (.tmp 19) (.ops [⟨some 21, .move (.tmp 1), false, none⟩,
  ⟨some 22, .move (.tmp 2), false, none⟩,
  ⟨some 23, .binOp .sub 29 (.tmp 21) (.tmp 22) 29, false, none⟩,
  ⟨some 9, .assign (.tmp 23), false, none⟩]) <|
 .seq (.ops [⟨some 25, .binOp .eql 3 (.tmp 12) (.const (.int .i64 58)) 3, false, none⟩,
  ⟨some 24, .assign (.tmp 25), false, none⟩]) <|
 .seq (.keep [1, 2, 8, 12, 24]) <|
 .cond (.tmp 24) (.ops [⟨some 26, .move (.tmp 1), false, none⟩,
  ⟨some 27, .move (.tmp 2), false, none⟩,
  ⟨some 28, .binOp .mul 29 (.tmp 26) (.tmp 27) 29, false, none⟩,
  ⟨some 9, .assign (.tmp 28), false, none⟩]) <|
 .seq (.seq (.ops [⟨some 30, .binOp .eql 3 (.tmp 12) (.const (.int .i64 42)) 3, false, none⟩,
  ⟨some 29, .assign (.tmp 30), false, none⟩]) <|
 .seq (.keep [1, 8, 12, 29]) <|
 .cond (.tmp 29) (.skip) <|
 .ops [⟨some 31, .binOp .eql 3 (.tmp 12) (.const (.int .i64 47)) 3, false, none⟩,
  ⟨some 29, .assign (.tmp 31), false, none⟩]) <|
 .seq (.keep [1, 8, 12, 29]) <|
 .cond (.tmp 29) (.ops [⟨some 32, .move (.tmp 1), false, none⟩,
  ⟨some 33, .move (.tmp 8), false, none⟩,
  ⟨some 34, .binOp .shl 29 (.tmp 32) (.tmp 33) 29, false, none⟩,
  ⟨some 9, .assign (.tmp 34), false, none⟩]) <|
 .seq (.seq (.ops [⟨some 36, .binOp .eql 3 (.tmp 12) (.const (.int .i64 43)) 3, false, none⟩,
  ⟨some 35, .assign (.tmp 36), false, none⟩]) <|
 .seq (.keep [1, 8, 12, 35]) <|
 .cond (.tmp 35) (.skip) <|
 .ops [⟨some 37, .binOp .eql 3 (.tmp 12) (.const (.int .i64 48)) 3, false, none⟩,
  ⟨some 35, .assign (.tmp 37), false, none⟩]) <|
 .seq (.keep [1, 8, 12, 35]) <|
 .cond (.tmp 35) (.ops [⟨some 38, .move (.tmp 1), false, none⟩,
  ⟨some 39, .convert 29 37 (.tmp 38), false, none⟩,
  ⟨some 40, .move (.tmp 8), false, none⟩,
  ⟨some 41, .binOp .shr 37 (.tmp 39) (.tmp 40) 29, false, none⟩,
  ⟨some 42, .convert 37 29 (.tmp 41), false, none⟩,
  ⟨some 9, .assign (.tmp 42), false, none⟩]) <|
 .seq (.seq (.ops [⟨some 44, .binOp .eql 3 (.tmp 12) (.const (.int .i64 44)) 3, false, none⟩,
  ⟨some 43, .assign (.tmp 44), false, none⟩]) <|
 .seq (.keep [1, 8, 12, 43]) <|
 .cond (.tmp 43) (.skip) <|
 .ops [⟨some 45, .binOp .eql 3 (.tmp 12) (.const (.int .i64 49)) 3, false, none⟩,
  ⟨some 43, .assign (.tmp 45), false, none⟩]) <|
 .seq (.keep [1, 8, 43]) <|
 .cond (.tmp 43) (.ops [⟨some 46, .move (.tmp 1), false, none⟩,
  ⟨some 47, .convert 29 21 (.tmp 46), false, none⟩,
  ⟨some 48, .convert 21 2 (.tmp 47), false, none⟩,
  ⟨some 49, .move (.tmp 8), false, none⟩,
  ⟨some 50, .binOp .shr 2 (.tmp 48) (.tmp 49) 29, false, none⟩,
  ⟨some 51, .convert 2 29 (.tmp 50), false, none⟩,
  ⟨some 9, .assign (.tmp 51), false, none⟩]) <|
 .seq (.ops [⟨some 6, .assign (.const (.int .u64 0)), false, none⟩,
  ⟨some 7, .assign (.const (.bool false)), false, none⟩]) <|
 .seq (.keep [6, 7]) <|
 .ret) <|
 .seq (.keep [9]) <|
 .seq (.ops [⟨some 52, .move (.tmp 9), false, none⟩,
  ⟨some 53, .call ⟨.value (.func 134), #[(.tmp 52), (.const (.int .i64 32))], #[29, 3]⟩, true, none⟩,
  ⟨some 6, .assign (.tmp 53), false, none⟩,
  ⟨some 7, .assign (.const (.bool true)), false, none⟩]) <|
 .seq (.keep [6, 7]) <|
 .ret
theorem c166 : Tryz.f166.body.map (fun c => ((compile Tryz.prog kp166 [] kp166 c).map (·.1), fits Tryz.f166.ntmps c)) = some (some s166, true) := by kernel_rfl
theorem r166 : Tryz.f166.results.toList = [.tmp 6, .tmp 7] := by kernel_rfl
attribute [go_sem] s166
abbrev kp167 : List Nat := [6, 7]
def s167 : SC :=
 .seq (.ops [⟨some 6, .assign (.const (.int .u64 0)), false, none⟩,
  ⟨some 7, .assign (.const (.bool false)), false, none⟩]) <|
 .seq (.keep [0, 1, 2]) <|
 .seq (.seq (.ops [⟨some 8, .move (.tmp 0), false, none⟩]) <|
 .seq (.keep [1, 2, 8]) <|
 .block 0 <| .seq (.ops [⟨some 10, .binOp .eql 3 (.tmp 8) (.const (.int .i64 50)) 3, false, none⟩,
  ⟨some 9, .assign (.tmp 10), false, none⟩]) <|
 .seq (.keep [1, 2, 8, 9]) <|
 .cond (.tmp 9) (.seq (.ops [⟨some 11, .move (.tmp 1), false, none⟩,
  ⟨some 12, .move (.tmp 2), false, none⟩,
  ⟨some 13, .binOp .mul 29 (.tmp 11) (.tmp 12) 29, false, none⟩,
  ⟨some 6, .assign (.tmp 13), false, none⟩,
  ⟨some 7, .assign (.const (.bool true)), false, none⟩]) <|
 .seq (.keep [6, 7]) <|
 .ret) <|
 .seq (.ops [⟨some 15, .binOp .eql 3 (.tmp 8) (.const (.int .i64 51)) 3, false, none⟩,
  ⟨some 14, .assign (.tmp 15), false, none⟩]) <|
 .seq (.keep [1, 2, 8, 14]) <|
 .cond (.tmp 14) (.seq (.ops [⟨some 16, .move (.tmp 1), false, none⟩,
  ⟨some 17, .move (.tmp 2), false, none⟩,
  ⟨some 18, .call ⟨.value (.func 206), #[(.tmp 16), (.tmp 17)], #[29, 29]⟩, true, none⟩,
  ⟨some 6, .assign (.tmp 18), false, none⟩,
  ⟨some 7, .assign (.const (.bool true)), false, none⟩]) <|
 .seq (.keep [6, 7]) <|
 .ret) <|
 .seq (.ops [⟨some 20, .binOp .eql 3 (.tmp 8) (.const (.int .i64 52)) 3, false, none⟩,
  ⟨some 19, .assign (.tmp 20), false, none⟩]) <|
 .seq (.keep [1, 2, 8, 19]) <|
 .cond (.tmp 19) (.seq (.ops [⟨some 21, .move (.tmp 1), false, none⟩,
  ⟨some 22, .move (.tmp 2), false, none⟩,
  ⟨some 23, .call ⟨.value (.func 207), #[(.tmp 21), (.tmp 22)], #[29, 29]⟩, true, none⟩,
  ⟨some 6, .assign (.tmp 23), false, none⟩,
  ⟨some 7, .assign (.const (.bool true)), false, none⟩]) <|
 .seq (.keep [6, 7]) <|
 .ret) <|
 .seq (.ops [⟨some 25, .binOp .eql 3 (.tmp 8) (.const (.int .i64 53)) 3, false, none⟩,
  ⟨some 24, .assign (.tmp 25), false, none⟩]) <|
 .seq (.keep [1, 2, 8, 24]) <|
 .cond (.tmp 24) (.seq (.ops [⟨some 26, .move (.tmp 1), false, none⟩,
  ⟨some 27, .move (.tmp 2), false, none⟩,
  ⟨some 28, .call ⟨.value (.func 208), #[(.tmp 26), (.tmp 27)], #[29, 29]⟩, true, none⟩,
  ⟨some 6, .assign (.tmp 28), false, none⟩,
  ⟨some 7, .assign (.const (.bool true)), false, none⟩]) <|
 .seq (.keep [6, 7]) <|
 .ret) <|
 .seq (.ops [⟨some 30, .binOp .eql 3 (.tmp 8) (.const (.int .i64 54)) 3, false, none⟩,
  ⟨some 29, .assign (.tmp 30), false, none⟩]) <|
 .seq (.keep [1, 2, 8, 29]) <|
 .cond (.tmp 29) (.seq (.ops [⟨some 31, .move (.tmp 1), false, none⟩,
  ⟨some 32, .move (.tmp 2), false, none⟩,
  ⟨some 33, .call ⟨.value (.func 209), #[(.tmp 31), (.tmp 32)], #[29, 29]⟩, true, none⟩,
  ⟨some 6, .assign (.tmp 33), false, none⟩,
  ⟨some 7, .assign (.const (.bool true)), false, none⟩]) <|
 .seq (.keep [6, 7]) <|
 .ret) <|
 .seq (.ops [⟨some 35, .binOp .eql 3 (.tmp 8) (.const (.int .i64 55)) 3, false, none⟩,
  ⟨some 34, .assign (.tmp 35), false, none⟩]) <|
 .seq (.keep [1, 2, 8, 34]) <|
 .cond (.tmp 34) (.seq (.ops [⟨some 36, .move (.tmp 1), false, none⟩,
  ⟨some 37, .move (.tmp 2), false, none⟩,
  ⟨some 38, .call ⟨.value (.func 210), #[(.tmp 36), (.tmp 37)], #[29, 29]⟩, true, none⟩,
  ⟨some 6, .assign (.tmp 38), false, none⟩,
  ⟨some 7, .assign (.const (.bool true)), false, none⟩]) <|
 .seq (.keep [6, 7]) <|
 .ret) <|
 .seq (.ops [⟨some 40, .binOp .eql 3 (.tmp 8) (.const (.int .i64 56)) 3, false, none⟩,
  ⟨some 39, .assign (.tmp 40), false, none⟩]) <|
 .seq (.keep [1, 2, 8, 39]) <|
 .cond (.tmp 39) (.seq (.ops [⟨some 41, .move (.tmp 1), false, none⟩,
  ⟨some 42, .move (.tmp 2), false, none⟩,
  ⟨some 43, .call ⟨.value (.func 211), #[(.tmp 41), (.tmp 42)], #[29, 29]⟩, true, none⟩,
  ⟨some 6, .assign (.tmp 43), false, none⟩,
  ⟨some 7, .assign (.const (.bool true)), false, none⟩]) <|
 .seq (.keep [6, 7]) <|
 .ret) <|
 .seq (.ops [⟨some 45, .binOp .eql 3 (.tmp 8) (.const (.int .i64 57)) 3, false, none⟩,
  ⟨some 44, .assign (.tmp 45), false, none⟩]) <|
 .seq (.keep [1, 2, 44]) <|
 .cond (.tmp 44) (.seq (.ops [⟨some 46, .move (.tmp 1), false, none⟩,
  ⟨some 47, .move (.tmp 2), false, none⟩,
  ⟨some 48, .call ⟨.value (.func 212), #[(.tmp 46), (.tmp 47)], #[29, 29]⟩, true, none⟩,
  ⟨some 6, .assign (.tmp 48), false, none⟩,
  ⟨some 7, .assign (.const (.bool true)), false, none⟩]) <|
 .seq (.keep [6, 7]) <|
 .ret) <|
 .skip) <|
 .seq (.keep []) <|
 .seq (.ops [⟨some 6, .assign (.const (.int .u64 0)), false, none⟩,
  ⟨some 7, .assign (.const (.bool false)), false, none⟩]) <|
 .seq (.keep [6, 7]) <|
 .ret
theorem c167 : Tryz.f167.body.map (fun c => ((compile Tryz.prog kp167 [] kp167 c).map (·.1), fits Tryz.f167.ntmps c)) = some (some s167, true) := by kernel_rfl
theorem r167 : Tryz.f167.results.toList = [.tmp 6, .tmp 7] := by kernel_rfl
attribute [go_sem] s167
abbrev kp168 : List Nat := [6, 7]
def s168 : SC :=
 .seq (.ops [⟨some 6, .assign (.const (.int .u64 0)), false, none⟩,
  ⟨some 7, .assign (.const (.bool false)), false, none⟩]) <|
 .seq (.keep [0, 1, 2]) <|
 .seq (.ops [⟨some 13, .move (.tmp 1), false, none⟩,
  ⟨some 14, .convert 29 37 (.tmp 13), false, none⟩,
  ⟨some 15, .convert 37 29 (.tmp 14), false, none⟩,
  ⟨some 16, .move (.tmp 1), false, none⟩,
  ⟨some 17, .call ⟨.value (.func 134), #[(.tmp 16), (.const (.int .i64 32))], #[29, 3]⟩, true, none⟩,
  ⟨some 8, .assign (.tmp 15), false, none⟩,
  ⟨some 9, .assign (.tmp 17), false, none⟩]) <|
 .seq (.keep [0, 2, 8, 9]) <|
 .seq (.ops [⟨some 18, .move (.tmp 2), false, none⟩,
  ⟨some 19, .convert 29 37 (.tmp 18), false, none⟩,
  ⟨some 20, .convert 37 29 (.tmp 19), false, none⟩,
  ⟨some 21, .move (.tmp 2), false, none⟩,
  ⟨some 22, .call ⟨.value (.func 134), #[(.tmp 21), (.const (.int .i64 32))], #[29, 3]⟩, true, none⟩,
  ⟨some 10, .assign (.tmp 20), false, none⟩,
  ⟨some 11, .assign (.tmp 22), false, none⟩]) <|
 .seq (.keep [0, 8, 9, 10, 11]) <|
 .seq (.ops [⟨some 12, .assign (.const (.int .u64 0)), false, none⟩]) <|
 .seq (.keep [0, 8, 9, 10, 11]) <|
 .seq (.seq (.ops [⟨some 23, .move (.tmp 0), false, none⟩]) <|
 .seq (.keep [8, 9, 10, 11, 23]) <|
 .block 0 <| .seq (.ops [⟨some 25, .binOp .eql 3 (.tmp 23) (.const (.int .i64 59)) 3, false, none⟩,
  ⟨some 24, .assign (.tmp 25), false, none⟩]) <|
 .seq (.keep [8, 9, 10, 11, 23, 24]) <|
 .cond (.tmp 24) (.ops [⟨some 26, .move (.tmp 9), false, none⟩,
  ⟨some 27, .move (.tmp 11), false, none⟩,
  ⟨some 28, .call ⟨.value (.func 209), #[(.tmp 26), (.tmp 27)], #[29, 29]⟩, true, none⟩,
  ⟨some 12, .assign (.tmp 28), false, none⟩]) <|
 .seq (.ops [⟨some 30, .binOp .eql 3 (.tmp 23) (.const (.int .i64 60)) 3, false, none⟩,
  ⟨some 29, .assign (.tmp 30), false, none⟩]) <|
 .seq (.keep [8, 9, 10, 11, 23, 29]) <|
 .cond (.tmp 29) (.ops [⟨some 31, .move (.tmp 8), false, none⟩,
  ⟨some 32, .move (.tmp 10), false, none⟩,
  ⟨some 33, .call ⟨.value (.func 210), #[(.tmp 31), (.tmp 32)], #[29, 29]⟩, true, none⟩,
  ⟨some 12, .assign (.tmp 33), false, none⟩]) <|
 .seq (.ops [⟨some 35, .binOp .eql 3 (.tmp 23) (.const (.int .i64 61)) 3, false, none⟩,
  ⟨some 34, .assign (.tmp 35), false, none⟩]) <|
 .seq (.keep [8, 9, 10, 11, 23, 34]) <|
 .cond (.tmp 34) (.ops [⟨some 36, .move (.tmp 9), false, none⟩,
  ⟨some 37, .move (.tmp 11), false, none⟩,
  ⟨some 38, .call ⟨.value (.func 211), #[(.tmp 36), (.tmp 37)], #[29, 29]⟩, true, none⟩,
  ⟨some 12, .assign (.tmp 38), false, none⟩]) <|
 .seq (.ops [⟨some 40, .binOp .eql 3 (.tmp 23) (.const (.int .i64 62)) 3, false, none⟩,
  ⟨some 39, .assign (.tmp 40), false, none⟩]) <|
 .seq (.keep [8, 10, 39]) <|
 .cond (.tmp 39) (.ops [⟨some 41, .move (.tmp 8), false, none⟩,
  ⟨some 42, .move (.tmp 10), false, none⟩,
  ⟨some 43, .call ⟨.value (.func 212), #[(.tmp 41), (.tmp 42)], #[29, 29]⟩, true, none⟩,
  ⟨some 12, .assign (.tmp 43), false, none⟩]) <|
 .seq (.ops [⟨some 6, .assign (.const (.int .u64 0)), false, none⟩,
  ⟨some 7, .assign (.const (.bool false)), false, none⟩]) <|
 .seq (.keep [6, 7]) <|
 .ret) <|
 .seq (.keep [12]) <|
 .seq (.ops [⟨some 44, .move (.tmp 12), false, none⟩,
  ⟨some 45, .call ⟨.value (.func 134), #[(.tmp 44), (.const (.int .i64 32))], #[29, 3]⟩, true, none⟩,
  ⟨some 6, .assign (.tmp 45), false, none⟩,
  ⟨some 7, .assign (.const (.bool true)), false, none⟩]) <|
 .seq (.keep [6, 7]) <|
 .ret
theorem c168 : Tryz.f168.body.map (fun c => ((compile Tryz.prog kp168 [] kp168 c).map (·.1), fits Tryz.f168.ntmps c)) = some (some s168, true) := by kernel_rfl
theorem r168 : Tryz.f168.results.toList = [.tmp 6, .tmp 7] := by kernel_rfl
attribute [go_sem] s168
abbrev kp169 : List Nat := [2]
def s169 : SC :=
 .seq (.ops [⟨some 2, .assign (.const (.int .i64 0)), false, none⟩]) <|
 .seq (.keep [0]) <|
 .seq (.block 0 <| .seq (.ops [⟨some 4, .move (.tmp 0), false, none⟩,
  ⟨some 5, .binOp .geq 3 (.tmp 4) (.const (.int .i64 63)) 3, false, none⟩,
  ⟨some 6, .move (.tmp 5), false, none⟩,
  ⟨some 7, .move (.tmp 0), false, some (6, true)⟩,
  ⟨some 8, .binOp .leq 3 (.tmp 7) (.const (.int .i64 73)) 3, false, some (6, true)⟩,
  ⟨some 9, .pick (.tmp 6) (.tmp 8) (.const (.bool false)), false, none⟩,
  ⟨some 3, .assign (.tmp 9), false, none⟩]) <|
 .seq (.keep [0, 3]) <|
 .cond (.tmp 3) (.seq (.ops [⟨some 2, .assign (.const (.int .i64 4)), false, none⟩]) <|
 .seq (.keep [2]) <|
 .ret) <|
 .seq (.ops [⟨some 11, .move (.tmp 0), false, none⟩,
  ⟨some 12, .binOp .geq 3 (.tmp 11) (.const (.int .i64 74)) 3, false, none⟩,
  ⟨some 13, .move (.tmp 12), false, none⟩,
  ⟨some 14, .move (.tmp 0), false, some (13, true)⟩,
  ⟨some 15, .binOp .leq 3 (.tmp 14) (.const (.int .i64 84)) 3, false, some (13, true)⟩,
  ⟨some 16, .pick (.tmp 13) (.tmp 15) (.const (.bool false)), false, none⟩,
  ⟨some 10, .assign (.tmp 16), false, none⟩]) <|
 .seq (.keep [10]) <|
 .cond (.tmp 10) (.seq (.ops [⟨some 2, .assign (.const (.int .i64 8)), false, none⟩]) <|
 .seq (.keep [2]) <|
 .ret) <|
 .skip) <|
 .seq (.keep []) <|
 .seq (.ops [⟨some 2, .assign (.const (.int .i64 0)), false, none⟩]) <|
 .seq (.keep [2]) <|
 .ret
theorem c169 : Tryz.f169.body.map (fun c => ((compile Tryz.prog kp169 [] kp169 c).map (·.1), fits Tryz.f169.ntmps c)) = some (some s169, true) := by kernel_rfl
theorem r169 : Tryz.f169.results.toList = [.tmp 2] := by kernel_rfl
attribute [go_sem] s169
abbrev kp170 : List Nat := [2]
def s170 : SC :=
 .seq (.ops [⟨some 2, .assign (.const (.int .i64 0)), false, none⟩]) <|
 .seq (.keep [0]) <|
 .seq (.seq (.ops [⟨some 3, .move (.tmp 0), false, none⟩,
  ⟨some 4, .binOp .geq 3 (.tmp 3) (.const (.int .i64 74)) 3, false, none⟩]) <|
 .seq (.keep [0, 4]) <|
 .cond (.tmp 4) (.seq (.ops [⟨some 5, .move (.tmp 0), false, none⟩,
  ⟨some 6, .binOp .sub 3 (.tmp 5) (.const (.int .i64 74)) 3, false, none⟩,
  ⟨some 7, .binOp .add 3 (.tmp 6) (.const (.int .i64 63)) 3, false, none⟩,
  ⟨some 2, .assign (.tmp 7), false, none⟩]) <|
 .seq (.keep [2]) <|
 .ret) <|
 .skip) <|
 .seq (.keep [0]) <|
 .seq (.ops [⟨some 8, .move (.tmp 0), false, none⟩,
  ⟨some 2, .assign (.tmp 8), false, none⟩]) <|
 .seq (.keep [2]) <|
 .ret
theorem c170 : Tryz.f170.body.map (fun c => ((compile Tryz.prog kp170 [] kp170 c).map (·.1), fits Tryz.f170.ntmps c)) = some (some s170, true) := by kernel_rfl
theorem r170 : Tryz.f170.results.toList = [.tmp 2] := by kernel_rfl
attribute [go_sem] s170
abbrev kp171 : List Nat := [10, 11]
def s171 : SC :=
 .seq (.ops [⟨some 6, .box 61 (.tmp 1), true, none⟩,
  ⟨some 10, .assign (.const (.int .u64 0)), false, none⟩,
  ⟨some 11, .alloc 49, true, none⟩]) <|
 .seq (.keep [0, 2, 3, 4, 6, 11]) <|
 .seq (.seq (.ops [⟨some 13, .move (.tmp 0), false, none⟩,
  ⟨some 14, .move (.tmp 2), false, none⟩,
  ⟨some 15, .move (.tmp 3), false, none⟩,
  ⟨some 16, .call ⟨.value (.func 49), #[(.tmp 13), (.tmp 14), (.tmp 15)], #[24, 29, 3]⟩, true, none⟩,
  ⟨some 12, .alloc 41, true, none⟩,
  ⟨none, .store 41 (.tmp 12) (.tmp 16), true, none⟩]) <|
 .seq (.keep [0, 2, 3, 4, 6, 11, 12]) <|
 .seq (.ops [⟨some 17, .fieldAddr 41 (.tmp 12) 0, false, none⟩,
  ⟨some 18, .load 3 (.tmp 17), false, none⟩,
  ⟨some 19, .binOp .neq 3 (.tmp 18) (.const (.int .i64 0)) 3, false, none⟩]) <|
 .seq (.keep [0, 2, 3, 4, 6, 11, 12, 19]) <|
 .cond (.tmp 19) (.seq (.ops [⟨some 20, .load 41 (.tmp 12), false, none⟩,
  ⟨some 21, .call ⟨.value (.func 172), #[(.tmp 20)], #[41]⟩, true, none⟩,
  ⟨some 10, .assign (.const (.int .u64 0)), false, none⟩,
  ⟨none, .store 49 (.tmp 11) (.tmp 21), true, none⟩]) <|
 .seq (.keep [10, 11]) <|
 .ret) <|
 .skip) <|
 .seq (.keep [0, 2, 3, 4, 6, 11]) <|
 .seq (.seq (.ops [⟨some 22, .load 61 (.tmp 6), false, none⟩,
  ⟨some 23, .move (.tmp 2), false, none⟩,
  ⟨some 24, .move (.tmp 3), false, none⟩,
  ⟨some 25, .build 61 #[(0, (.tmp 23)), (1, (.tmp 24))], false, none⟩,
  ⟨some 26, .binOp .neq 61 (.tmp 22) (.tmp 25) 61, false, none⟩]) <|
 .seq (.keep [0, 2, 3, 4, 11, 26]) <|
 .cond (.tmp 26) (.seq (.ops [⟨some 27, .build 49 #[], false, none⟩,
  ⟨some 10, .assign (.const (.int .u64 1)), false, none⟩,
  ⟨none, .store 49 (.tmp 11) (.tmp 27), true, none⟩]) <|
 .seq (.keep [10, 11]) <|
 .ret) <|
 .skip) <|
 .seq (.keep [0, 2, 3, 4, 11]) <|
 .seq (.ops [⟨some 28, .move (.tmp 0), false, none⟩,
  ⟨some 29, .move (.tmp 2), false, none⟩,
  ⟨some 30, .move (.tmp 3), false, none⟩,
  ⟨some 31, .move (.tmp 4), false, none⟩,
  ⟨some 32, .call ⟨.value (.func 17), #[(.tmp 28), (.tmp 29), (.tmp 30), (.tmp 31)], #[24, 29, 3, 29]⟩, true, none⟩]) <|
 .seq (.keep [11]) <|
 .seq (.ops [⟨some 33, .build 49 #[], false, none⟩,
  ⟨some 10, .assign (.const (.int .u64 0)), false, none⟩,
  ⟨none, .store 49 (.tmp 11) (.tmp 33), true, none⟩]) <|
 .seq (.keep [10, 11]) <|
 .ret
theorem c171 : Tryz.f171.body.map (fun c => ((compile Tryz.prog kp171 [] kp171 c).map (·.1), fits Tryz.f171.ntmps c)) = some (some s171, true) := by kernel_rfl
theorem r171 : Tryz.f171.results.toList = [.tmp 10, .cell 11 49] := by kernel_rfl
attribute [go_sem] s171
abbrev kp172 : List Nat := [2]
def s172 : SC :=
 .seq (.ops [⟨some 1, .box 41 (.tmp 0), true, none⟩,
  ⟨some 2, .alloc 49, true, none⟩]) <|
 .seq (.keep [1, 2]) <|
 .seq (.ops [⟨some 3, .load 41 (.tmp 1), false, none⟩,
  ⟨some 4, .build 49 #[(0, (.const (.int .i64 4))), (1, (.tmp 3))], false, none⟩,
  ⟨none, .store 49 (.tmp 2) (.tmp 4), true, none⟩]) <|
 .seq (.keep [2]) <|
 .ret
theorem c172 : Tryz.f172.body.map (fun c => ((compile Tryz.prog kp172 [] kp172 c).map (·.1), fits Tryz.f172.ntmps c)) = some (some s172, true) := by kernel_rfl
theorem r172 : Tryz.f172.results.toList = [.cell 2 49] := by kernel_rfl
attribute [go_sem] s172
abbrev kp173 : List Nat := [6, 7]
def s173 : SC :=
 .seq (.ops [⟨some 6, .assign (.const (.int .u64 0)), false, none⟩,
  ⟨some 7, .assign (.const (.bool false)), false, none⟩]) <|
 .seq (.keep [0, 1, 2]) <|
 .seq (.ops [⟨some 16, .move (.tmp 0), false, none⟩,
  ⟨some 17, .call ⟨.value (.func 169), #[(.tmp 16)], #[3]⟩, true, none⟩,
  ⟨some 8, .assign (.tmp 17), false, none⟩]) <|
 .seq (.keep [0, 1, 2, 8]) <|
 .seq (.seq (.ops [⟨some 18, .move (.tmp 8), false, none⟩,
  ⟨some 19, .binOp .eql 3 (.tmp 18) (.const (.int .i64 0)) 3, false, none⟩]) <|
 .seq (.keep [0, 1, 2, 8, 19]) <|
 .cond (.tmp 19) (.seq (.ops [⟨some 6, .assign (.const (.int .u64 0)), false, none⟩,
  ⟨some 7, .assign (.const (.bool false)), false, none⟩]) <|
 .seq (.keep [6, 7]) <|
 .ret) <|
 .skip) <|
 .seq (.keep [0, 1, 2, 8]) <|
 .seq (.ops [⟨some 20, .move (.tmp 8), false, none⟩,
  ⟨some 21, .binOp .mul 3 (.const (.int .i64 8)) (.tmp 20) 3, false, none⟩,
  ⟨some 22, .binOp .sub 3 (.const (.int .i64 64)) (.tmp 21) 3, false, none⟩,
  ⟨some 23, .binOp .shr 29 (.const (.int .u64 18446744073709551615)) (.tmp 22) 3, false, none⟩,
  ⟨some 9, .assign (.tmp 23), false, none⟩]) <|
 .seq (.keep [0, 1, 2, 8, 9]) <|
 .seq (.ops [⟨some 24, .move (.tmp 1), false, none⟩,
  ⟨some 25, .move (.tmp 9), false, none⟩,
  ⟨some 26, .binOp .and 29 (.tmp 24) (.tmp 25) 29, false, none⟩,
  ⟨some 27, .move (.tmp 2), false, none⟩,
  ⟨some 28, .move (.tmp 9), false, none⟩,
  ⟨some 29, .binOp .and 29 (.tmp 27) (.tmp 28) 29, false, none⟩,
  ⟨some 10, .assign (.tmp 26), false, none⟩,
  ⟨some 11, .assign (.tmp 29), false, none⟩]) <|
 .seq (.keep [0, 8, 9, 10, 11]) <|
 .seq (.ops [⟨some 30, .move (.tmp 10), false, none⟩,
  ⟨some 31, .move (.tmp 8), false, none⟩,
  ⟨some 32, .binOp .mul 3 (.const (.int .i64 8)) (.tmp 31) 3, false, none⟩,
  ⟨some 33, .call ⟨.value (.func 134), #[(.tmp 30), (.tmp 32)], #[29, 3]⟩, true, none⟩,
  ⟨some 34, .convert 29 2 (.tmp 33), false, none⟩,
  ⟨some 35, .move (.tmp 11), false, none⟩,
  ⟨some 36, .move (.tmp 8), false, none⟩,
  ⟨some 37, .binOp .mul 3 (.const (.int .i64 8)) (.tmp 36) 3, false, none⟩,
  ⟨some 38, .call ⟨.value (.func 134), #[(.tmp 35), (.tmp 37)], #[29, 3]⟩, true, none⟩,
  ⟨some 39, .convert 29 2 (.tmp 38), false, none⟩,
  ⟨some 12, .assign (.tmp 34), false, none⟩,
  ⟨some 13, .assign (.tmp 39), false, none⟩]) <|
 .seq (.keep [0, 9, 10, 11, 12, 13]) <|
 .seq (.ops [⟨some 40, .move (.tmp 10), false, none⟩,
  ⟨some 41, .move (.tmp 10), false, none⟩,
  ⟨some 14, .assign (.tmp 40), false, none⟩,
  ⟨some 15, .assign (.tmp 41), false, none⟩]) <|
 .seq (.keep [0, 9, 10, 11, 12, 13, 14, 15]) <|
 .seq (.seq (.ops [⟨some 42, .move (.tmp 13), false, none⟩,
  ⟨some 43, .move (.tmp 12), false, none⟩,
  ⟨some 44, .binOp .lss 2 (.tmp 42) (.tmp 43) 2, false, none⟩]) <|
 .seq (.keep [0, 9, 10, 11, 12, 13, 14, 15, 44]) <|
 .cond (.tmp 44) (.ops [⟨some 45, .move (.tmp 11), false, none⟩,
  ⟨some 14, .assign (.tmp 45), false, none⟩]) <|
 .skip) <|
 .seq (.keep [0, 9, 10, 11, 12, 13, 14, 15]) <|
 .seq (.seq (.ops [⟨some 46, .move (.tmp 13), false, none⟩,
  ⟨some 47, .move (.tmp 12), false, none⟩,
  ⟨some 48, .binOp .gtr 2 (.tmp 46) (.tmp 47) 2, false, none⟩]) <|
 .seq (.keep [0, 9, 10, 11, 14, 15, 48]) <|
 .cond (.tmp 48) (.ops [⟨some 49, .move (.tmp 11), false, none⟩,
  ⟨some 15, .assign (.tmp 49), false, none⟩]) <|
 .skip) <|
 .seq (.keep [0, 9, 10, 11, 14, 15]) <|
 .seq (.seq (.ops [⟨some 50, .move (.tmp 0), false, none⟩,
  ⟨some 51, .call ⟨.value (.func 170), #[(.tmp 50)], #[3]⟩, true, none⟩]) <|
 .seq (.keep [9, 10, 11, 14, 15, 51]) <|
 .block 0 <| .seq (.ops [⟨some 53, .binOp .eql 3 (.tmp 51) (.const (.int .i64 65)) 3, false, none⟩,
  ⟨some 52, .assign (.tmp 53), false, none⟩]) <|
 .seq (.keep [9, 10, 11, 14, 15, 51, 52]) <|
 .cond (.tmp 52) (.seq (.ops [⟨some 54, .move (.tmp 11), false, none⟩,
  ⟨some 6, .assign (.tmp 54), false, none⟩,
  ⟨some 7, .assign (.const (.bool true)), false, none⟩]) <|
 .seq (.keep [6, 7]) <|
 .ret) <|
 .seq (.ops [⟨some 56, .binOp .eql 3 (.tmp 51) (.const (.int .i64 66)) 3, false, none⟩,
  ⟨some 55, .assign (.tmp 56), false, none⟩]) <|
 .seq (.keep [9, 10, 11, 14, 15, 51, 55]) <|
 .cond (.tmp 55) (.seq (.ops [⟨some 57, .move (.tmp 10), false, none⟩,
  ⟨some 58, .move (.tmp 11), false, none⟩,
  ⟨some 59, .binOp .add 29 (.tmp 57) (.tmp 58) 29, false, none⟩,
  ⟨some 60, .move (.tmp 9), false, none⟩,
  ⟨some 61, .binOp .and 29 (.tmp 59) (.tmp 60) 29, false, none⟩,
  ⟨some 6, .assign (.tmp 61), false, none⟩,
  ⟨some 7, .assign (.const (.bool true)), false, none⟩]) <|
 .seq (.keep [6, 7]) <|
 .ret) <|
 .seq (.ops [⟨some 63, .binOp .eql 3 (.tmp 51) (.const (.int .i64 67)) 3, false, none⟩,
  ⟨some 62, .assign (.tmp 63), false, none⟩]) <|
 .seq (.keep [10, 11, 14, 15, 51, 62]) <|
 .cond (.tmp 62) (.seq (.ops [⟨some 64, .move (.tmp 10), false, none⟩,
  ⟨some 65, .move (.tmp 11), false, none⟩,
  ⟨some 66, .binOp .xor 29 (.tmp 64) (.tmp 65) 29, false, none⟩,
  ⟨some 6, .assign (.tmp 66), false, none⟩,
  ⟨some 7, .assign (.const (.bool true)), false, none⟩]) <|
 .seq (.keep [6, 7]) <|
 .ret) <|
 .seq (.ops [⟨some 68, .binOp .eql 3 (.tmp 51) (.const (.int .i64 68)) 3, false, none⟩,
  ⟨some 67, .assign (.tmp 68), false, none⟩]) <|
 .seq (.keep [10, 11, 14, 15, 51, 67]) <|
 .cond (.tmp 67) (.seq (.ops [⟨some 69, .move (.tmp 10), false, none⟩,
  ⟨some 70, .move (.tmp 11), false, none⟩,
  ⟨some 71, .binOp .and 29 (.tmp 69) (.tmp 70) 29, false, none⟩,
  ⟨some 6, .assign (.tmp 71), false, none⟩,
  ⟨some 7, .assign (.const (.bool true)), false, none⟩]) <|
 .seq (.keep [6, 7]) <|
 .ret) <|
 .seq (.ops [⟨some 73, .binOp .eql 3 (.tmp 51) (.const (.int .i64 69)) 3, false, none⟩,
  ⟨some 72, .assign (.tmp 73), false, none⟩]) <|
 .seq (.keep [10, 11, 14, 15, 51, 72]) <|
 .cond (.tmp 72) (.seq (.ops [⟨some 74, .move (.tmp 10), false, none⟩,
  ⟨some 75, .move (.tmp 11), false, none⟩,
  ⟨some 76, .binOp .or 29 (.tmp 74) (.tmp 75) 29, false, none⟩,
  ⟨some 6, .assign (.tmp 76), false, none⟩,
  ⟨some 7, .assign (.const (.bool true)), false, none⟩]) <|
 .seq (.keep [6, 7]) <|
 .ret) <|
 .seq (.ops [⟨some 78, .binOp .eql 3 (.tmp 51) (.const (.int .i64 70)) 3, false, none⟩,
  ⟨some 77, .assign (.tmp 78), false, none⟩]) <|
 .seq (.keep [10, 11, 14, 15, 51, 77]) <|
 .cond (.tmp 77) (.seq (.ops [⟨some 79, .move (.tmp 14), false, none⟩,
  ⟨some 6, .assign (.tmp 79), false, none⟩,
  ⟨some 7, .assign (.const (.bool true)), false, none⟩]) <|
 .seq (.keep [6, 7]) <|
 .ret) <|
 .seq (.ops [⟨some 81, .binOp .eql 3 (.tmp 51) (.const (.int .i64 71)) 3, false, none⟩,
  ⟨some 80, .assign (.tmp 81), false, none⟩]) <|
 .seq (.keep [10, 11, 15, 51, 80]) <|
 .cond (.tmp 80) (.seq (.ops [⟨some 82, .move (.tmp 15), false, none⟩,
  ⟨some 6, .assign (.tmp 82), false, none⟩,
  ⟨some 7, .assign (.const (.bool true)), false, none⟩]) <|
 .seq (.keep [6, 7]) <|
 .ret) <|
 .seq (.ops [⟨some 84, .binOp .eql 3 (.tmp 51) (.const (.int .i64 72)) 3, false, none⟩,
  ⟨some 83, .assign (.tmp 84), false, none⟩]) <|
 .seq (.keep [10, 11, 51, 83]) <|
 .cond (.tmp 83) (.seq (.ops [⟨some 85, .move (.tmp 10), false, none⟩,
  ⟨some 86, .move (.tmp 11), false, none⟩,
  ⟨some 87, .call ⟨.builtin .min, #[(.tmp 85), (.tmp 86)], #[29, 29]⟩, false, none⟩,
  ⟨some 6, .assign (.tmp 87), false, none⟩,
  ⟨some 7, .assign (.const (.bool true)), false, none⟩]) <|
 .seq (.keep [6, 7]) <|
 .ret) <|
 .seq (.ops [⟨some 89, .binOp .eql 3 (.tmp 51) (.const (.int .i64 73)) 3, false, none⟩,
  ⟨some 88, .assign (.tmp 89), false, none⟩]) <|
 .seq (.keep [10, 11, 88]) <|
 .cond (.tmp 88) (.seq (.ops [⟨some 90, .move (.tmp 10), false, none⟩,
  ⟨some 91, .move (.tmp 11), false, none⟩,
  ⟨some 92, .call ⟨.builtin .max, #[(.tmp 90), (.tmp 91)], #[29, 29]⟩, false, none⟩,
  ⟨some 6, .assign (.tmp 92), false, none⟩,
  ⟨some 7, .assign (.const (.bool true)), false, none⟩]) <|
 .seq (.keep [6, 7]) <|
 .ret) <|
 .skip) <|
 .seq (.keep []) <|
 .seq (.ops [⟨some 6, .assign (.const (.int .u64 0)), false, none⟩,
  ⟨some 7, .assign (.const (.bool false)), false, none⟩]) <|
 .seq (.keep [6, 7]) <|
 .ret
theorem c173 : Tryz.f173.body.map (fun c => ((compile Tryz.prog kp173 [] kp173 c).map (·.1), fits Tryz.f173.ntmps c)) = some (some s173, true) := by kernel_rfl
theorem r173 : Tryz.f173.results.toList = [.tmp 6, .tmp 7] := by kernel_rfl
attribute [go_sem] s173
abbrev kp184 : List Nat := [4]
def s184 : SC :=
 .seq (.ops [⟨some 4, .assign (.const (.int .i64 0)), false, none⟩]) <|
 .seq (.keep [0, 1]) <|
 .seq (.ops [⟨some 5, .move (.tmp 0), false, none⟩,
  ⟨some 6, .move (.tmp 1), false, none⟩,
  ⟨some 7, .call ⟨.value (.func 185), #[(.tmp 5), (.tmp 6), (.const (.int .i64 3)), (.const (.int .i64 0))], #[189, 3, 3, 3]⟩, true, none⟩,
  ⟨some 8, .binOp .or 3 (.tmp 7) (.const (.int .i64 8)) 3, false, none⟩,
  ⟨some 4, .assign (.tmp 8), false, none⟩]) <|
 .seq (.keep [4]) <|
 .ret
theorem c184 : Tryz.f184.body.map (fun c => ((compile Tryz.prog kp184 [] kp184 c).map (·.1), fits Tryz.f184.ntmps c)) = some (some s184, true) := by kernel_rfl
theorem r184 : Tryz.f184.results.toList = [.tmp 4] := by kernel_rfl
attribute [go_sem] s184
abbrev kp185 : List Nat := [8]
def s185 : SC :=
 .seq (.ops [⟨some 8, .assign (.const (.int .i64 0)), false, none⟩]) <|
 .seq (.keep [0, 1, 2, 3]) <|
 .seq (.seq (.ops [⟨some 9, .move (.tmp 0), false, none⟩]) <|
 .seq (.ops [⟨some 10, .move (.tmp 1), false, none⟩]) <|
 .seq (.ops [⟨some 11, .binOp .shr 189 (.tmp 9) (.tmp 10) 3, false, none⟩]) <|
 .seq (.ops [⟨some 12, .convert 189 3 (.tmp 11), false, none⟩]) <|
 .seq (.ops [⟨some 13, .move (.tmp 2), false, none⟩]) <|
 .seq (.ops [⟨some 14, .binOp .shl 3 (.const (.int .i64 1)) (.tmp 13) 3, false, none⟩]) <|
 .seq (.ops [⟨some 15, .binOp .sub 3 (.tmp 14) (.const (.int .i64 1)) 3, false, none⟩]) <|
 .seq (.ops [⟨some 16, .binOp .and 3 (.tmp 12) (.tmp 15) 3, false, none⟩]) <|
 .seq (.ops [⟨some 17, .move (.tmp 3), false, none⟩]) <|
 .seq (.ops [⟨some 18, .binOp .shl 3 (.tmp 16) (.tmp 17) 3, false, none⟩]) <|
 .seq (.ops [⟨some 8, .assign (.tmp 18), false, none⟩]) <|
 .skip) <|
 .seq (.keep [8]) <|
 .ret
theorem c185 : Tryz.f185.body.map (fun c => ((compile Tryz.prog kp185 [] kp185 c).map (·.1), fits Tryz.f185.ntmps c)) = some (some s185, true) := by kernel_rfl
theorem r185 : Tryz.f185.results.toList = [.tmp 8] := by kernel_rfl
attribute [go_sem] s185
abbrev kp186 : List Nat := [2]
def s186 : SC :=
 .seq (.ops [⟨some 2, .assign (.const (.int .i64 0)), false, none⟩]) <|
 .seq (.keep [0]) <|
 .seq (.ops [⟨some 3, .move (.tmp 0), false, none⟩,
  ⟨some 4, .call ⟨.value (.func 185), #[(.tmp 3), (.const (.int .i64 5)), (.const (.int .i64 1)), (.const (.int .i64 6))], #[189, 3, 3, 3]⟩, true, none⟩,
  ⟨some 5, .move (.tmp 0), false, none⟩,
  ⟨some 6, .call ⟨.value (.func 185), #[(.tmp 5), (.const (.int .i64 10)), (.const (.int .i64 3)), (.const (.int .i64 3))], #[189, 3, 3, 3]⟩, true, none⟩,
  ⟨some 7, .binOp .or 3 (.tmp 4) (.tmp 6) 3, false, none⟩,
  ⟨some 8, .move (.tmp 0), false, none⟩,
  ⟨some 9, .call ⟨.value (.func 185), #[(.tmp 8), (.const (.int .i64 6)), (.const (.int .i64 1)), (.const (.int .i64 2))], #[189, 3, 3, 3]⟩, true, none⟩,
  ⟨some 10, .binOp .or 3 (.tmp 7) (.tmp 9) 3, false, none⟩,
  ⟨some 2, .assign (.tmp 10), false, none⟩]) <|
 .seq (.keep [2]) <|
 .ret
theorem c186 : Tryz.f186.body.map (fun c => ((compile Tryz.prog kp186 [] kp186 c).map (·.1), fits Tryz.f186.ntmps c)) = some (some s186, true) := by kernel_rfl
theorem r186 : Tryz.f186.results.toList = [.tmp 2] := by kernel_rfl
attribute [go_sem] s186
abbrev kp187 : List Nat := [2]
def s187 : SC :=
 .seq (.ops [⟨some 2, .assign (.const (.int .i64 0)), false, none⟩]) <|
 .seq (.keep [0]) <|
 .seq (.ops [⟨some 3, .move (.tmp 0), false, none⟩,
  ⟨some 4, .call ⟨.value (.func 185), #[(.tmp 3), (.const (.int .i64 5)), (.const (.int .i64 2)), (.const (.int .i64 6))], #[189, 3, 3, 3]⟩, true, none⟩,
  ⟨some 5, .move (.tmp 0), false, none⟩,
  ⟨some 6, .call ⟨.value (.func 185), #[(.tmp 5), (.const (.int .i64 10)), (.const (.int .i64 3)), (.const (.int .i64 3))], #[189, 3, 3, 3]⟩, true, none⟩,
  ⟨some 7, .binOp .or 3 (.tmp 4) (.tmp 6) 3, false, none⟩,
  ⟨some 2, .assign (.tmp 7), false, none⟩]) <|
 .seq (.keep [2]) <|
 .ret
theorem c187 : Tryz.f187.body.map (fun c => ((compile Tryz.prog kp187 [] kp187 c).map (·.1), fits Tryz.f187.ntmps c)) = some (some s187, true) := by kernel_rfl
theorem r187 : Tryz.f187.results.toList = [.tmp 2] := by kernel_rfl
attribute [go_sem] s187
abbrev kp188 : List Nat := [2]
def s188 : SC :=
 .seq (.ops [⟨some 2, .assign (.const (.int .i64 0)), false, none⟩]) <|
 .seq (.keep [0]) <|
 .seq (.ops [⟨some 3, .move (.tmp 0), false, none⟩,
  ⟨some 4, .call ⟨.value (.func 185), #[(.tmp 3), (.const (.int .i64 7)), (.const (.int .i64 5)), (.const (.int .i64 0))], #[189, 3, 3, 3]⟩, true, none⟩,
  ⟨some 2, .assign (.tmp 4), false, none⟩]) <|
 .seq (.keep [2]) <|
 .ret
theorem c188 : Tryz.f188.body.map (fun c => ((compile Tryz.prog kp188 [] kp188 c).map (·.1), fits Tryz.f188.ntmps c)) = some (some s188, true) := by kernel_rfl
theorem r188 : Tryz.f188.results.toList = [.tmp 2] := by kernel_rfl
attribute [go_sem] s188
abbrev kp189 : List Nat := [2]
def s189 : SC :=
 .seq (.ops [⟨some 2, .assign (.const (.int .i64 0)), false, none⟩]) <|
 .seq (.keep [0]) <|
 .seq (.ops [⟨some 3, .move (.tmp 0), false, none⟩,
  ⟨some 4, .call ⟨.value (.func 194), #[(.tmp 3)], #[189]⟩, true, none⟩,
  ⟨some 5, .call ⟨.value (.func 217), #[(.tmp 4), (.const (.int .i64 6))], #[3, 3]⟩, true, none⟩,
  ⟨some 2, .assign (.tmp 5), false, none⟩]) <|
 .seq (.keep [2]) <|
 .ret
theorem c189 : Tryz.f189.body.map (fun c => ((compile Tryz.prog kp189 [] kp189 c).map (·.1), fits Tryz.f189.ntmps c)) = some (some s189, true) := by kernel_rfl
theorem r189 : Tryz.f189.results.toList = [.tmp 2] := by kernel_rfl
attribute [go_sem] s189
abbrev kp190 : List Nat := [2]
def s190 : SC :=
 .seq (.ops [⟨some 2, .alloc 47, true, none⟩]) <|
 .seq (.keep [0, 2]) <|
 .seq (.seq (.ops [⟨some 5, .move (.tmp 0), false, none⟩,
  ⟨some 6, .call ⟨.value (.func 188), #[(.tmp 5)], #[189]⟩, true, none⟩,
  ⟨some 7, .binOp .eql 3 (.tmp 6) (.const (.int .i64 2)) 3, false, none⟩]) <|
 .seq (.keep [0, 2, 7]) <|
 .cond (.tmp 7) (.seq (.ops [⟨some 8, .move (.tmp 0), false, none⟩,
  ⟨some 9, .call ⟨.value (.func 185), #[(.tmp 8), (.const (.int .i64 12)), (.const (.int .i64 1)), (.const (.int .i64 9))], #[189, 3, 3, 3]⟩, true, none⟩,
  ⟨some 10, .move (.tmp 0), false, none⟩,
  ⟨some 11, .call ⟨.value (.func 185), #[(.tmp 10), (.const (.int .i64 3)), (.const (.int .i64 2)), (.const (.int .i64 7))], #[189, 3, 3, 3]⟩, true, none⟩,
  ⟨some 12, .binOp .or 3 (.tmp 9) (.tmp 11) 3, false, none⟩,
  ⟨some 13, .move (.tmp 0), false, none⟩,
  ⟨some 14, .call ⟨.value (.func 185), #[(.tmp 13), (.const (.int .i64 5)), (.const (.int .i64 1)), (.const (.int .i64 6))], #[189, 3, 3, 3]⟩, true, none⟩,
  ⟨some 15, .binOp .or 3 (.tmp 12) (.tmp 14) 3, false, none⟩,
  ⟨some 16, .move (.tmp 0), false, none⟩,
  ⟨some 17, .call ⟨.value (.func 185), #[(.tmp 16), (.const (.int .i64 2)), (.const (.int .i64 1)), (.const (.int .i64 5))], #[189, 3, 3, 3]⟩, true, none⟩,
  ⟨some 18, .binOp .or 3 (.tmp 15) (.tmp 17) 3, false, none⟩,
  ⟨some 19, .move (.tmp 0), false, none⟩,
  ⟨some 20, .call ⟨.value (.func 185), #[(.tmp 19), (.const (.int .i64 6)), (.const (.int .i64 1)), (.const (.int .i64 4))], #[189, 3, 3, 3]⟩, true, none⟩,
  ⟨some 21, .binOp .or 3 (.tmp 18) (.tmp 20) 3, false, none⟩,
  ⟨some 22, .call ⟨.value (.func 217), #[(.tmp 21), (.const (.int .i64 10))], #[3, 3]⟩, true, none⟩,
  ⟨some 3, .assign (.tmp 22), false, none⟩]) <|
 .seq (.keep [2, 3]) <|
 .seq (.seq (.ops [⟨some 23, .move (.tmp 3), false, none⟩,
  ⟨some 24, .binOp .neq 3 (.tmp 23) (.const (.int .i64 0)) 3, false, none⟩]) <|
 .seq (.keep [2, 3, 24]) <|
 .cond (.tmp 24) (.seq (.ops [⟨some 25, .move (.tmp 3), false, none⟩,
  ⟨some 26, .build 47 #[(0, (.const (.int .i64 22))), (1, (.const (.int .i64 2))), (2, (.const (.int .i64 2))), (4, (.tmp 25))], false, none⟩,
  ⟨none, .store 47 (.tmp 2) (.tmp 26), true, none⟩]) <|
 .seq (.keep [2]) <|
 .ret) <|
 .skip) <|
 .seq (.keep [2]) <|
 .seq (.ops [⟨some 27, .build 47 #[], false, none⟩,
  ⟨none, .store 47 (.tmp 2) (.tmp 27), true, none⟩]) <|
 .seq (.keep [2]) <|
 .ret) <|
 .skip) <|
 .seq (.keep [0, 2]) <|
 .seq (.seq (.ops [⟨some 28, .move (.tmp 0), false, none⟩,
  ⟨some 29, .call ⟨.value (.func 189), #[(.tmp 28)], #[189]⟩, true, none⟩,
  ⟨some 30, .binOp .shl 3 (.tmp 29) (.const (.int .u64 12)) 44, false, none⟩,
  ⟨some 4, .assign (.tmp 30), false, none⟩]) <|
 .seq (.keep [0, 2, 4]) <|
 .seq (.ops [⟨some 31, .move (.tmp 4), false, none⟩,
  ⟨some 32, .binOp .neq 3 (.tmp 31) (.const (.int .i64 0)) 3, false, none⟩]) <|
 .seq (.keep [0, 2, 4, 32]) <|
 .cond (.tmp 32) (.seq (.ops [⟨some 33, .move (.tmp 0), false, none⟩,
  ⟨some 34, .call ⟨.value (.func 188), #[(.tmp 33)], #[189]⟩, true, none⟩,
  ⟨some 35, .move (.tmp 4), false, none⟩,
  ⟨some 36, .build 47 #[(0, (.const (.int .i64 1))), (1, (.tmp 34)), (4, (.tmp 35))], false, none⟩,
  ⟨none, .store 47 (.tmp 2) (.tmp 36), true, none⟩]) <|
 .seq (.keep [2]) <|
 .ret) <|
 .skip) <|
 .seq (.keep [2]) <|
 .seq (.ops [⟨some 37, .build 47 #[], false, none⟩,
  ⟨none, .store 47 (.tmp 2) (.tmp 37), true, none⟩]) <|
 .seq (.keep [2]) <|
 .ret
theorem c190 : Tryz.f190.body.map (fun c => ((compile Tryz.prog kp190 [] kp190 c).map (·.1), fits Tryz.f190.ntmps c)) = some (some s190, true) := by kernel_rfl
theorem r190 : Tryz.f190.results.toList = [.cell 2 47] := by kernel_rfl
attribute [go_sem] s190
abbrev kp191 : List Nat := [2]
def s191 : SC :=
 .seq (.ops [⟨some 2, .alloc 47, true, none⟩]) <|
 .seq (.keep [0, 2]) <|
 .seq (.ops [⟨some 5, .move (.tmp 0), false, none⟩,
  ⟨some 6, .call ⟨.value (.func 184), #[(.tmp 5), (.const (.int .i64 7))], #[189, 3]⟩, true, none⟩,
  ⟨some 3, .assign (.tmp 6), false, none⟩]) <|
 .seq (.keep [0, 2, 3]) <|
 .seq (.seq (.ops [⟨some 7, .move (.tmp 0), false, none⟩,
  ⟨some 8, .call ⟨.value (.func 185), #[(.tmp 7), (.const (.int .i64 10)), (.const (.int .i64 2)), (.const (.int .i64 0))], #[189, 3, 3, 3]⟩, true, none⟩]) <|
 .seq (.keep [0, 2, 3, 8]) <|
 .block 0 <| .seq (.ops [⟨some 10, .binOp .eql 3 (.tmp 8) (.const (.int .i64 0)) 3, false, none⟩,
  ⟨some 9, .assign (.tmp 10), false, none⟩]) <|
 .seq (.keep [0, 2, 3, 8, 9]) <|
 .cond (.tmp 9) (.seq (.ops [⟨some 11, .move (.tmp 3), false, none⟩,
  ⟨some 12, .move (.tmp 3), false, none⟩,
  ⟨some 13, .move (.tmp 0), false, none⟩,
  ⟨some 14, .call ⟨.value (.func 194), #[(.tmp 13)], #[189]⟩, true, none⟩,
  ⟨some 15, .build 47 #[(0, (.const (.int .i64 29))), (1, (.tmp 11)), (2, (.tmp 12)), (4, (.tmp 14))], false, none⟩,
  ⟨none, .store 47 (.tmp 2) (.tmp 15), true, none⟩]) <|
 .seq (.keep [2]) <|
 .ret) <|
 .seq (.ops [⟨some 17, .binOp .eql 3 (.tmp 8) (.const (.int .i64 1)) 3, false, none⟩,
  ⟨some 16, .assign (.tmp 17), false, none⟩]) <|
 .seq (.keep [0, 2, 3, 8, 16]) <|
 .cond (.tmp 16) (.seq (.ops [⟨some 18, .move (.tmp 3), false, none⟩,
  ⟨some 19, .move (.tmp 3), false, none⟩,
  ⟨some 20, .move (.tmp 0), false, none⟩,
  ⟨some 21, .call ⟨.value (.func 194), #[(.tmp 20)], #[189]⟩, true, none⟩,
  ⟨some 22, .build 47 #[(0, (.const (.int .i64 30))), (1, (.tmp 18)), (2, (.tmp 19)), (4, (.tmp 21))], false, none⟩,
  ⟨none, .store 47 (.tmp 2) (.tmp 22), true, none⟩]) <|
 .seq (.keep [2]) <|
 .ret) <|
 .seq (.ops [⟨some 24, .binOp .eql 3 (.tmp 8) (.const (.int .i64 2)) 3, false, none⟩,
  ⟨some 23, .assign (.tmp 24), false, none⟩]) <|
 .seq (.keep [0, 2, 3, 23]) <|
 .cond (.tmp 23) (.seq (.ops [⟨some 25, .move (.tmp 3), false, none⟩,
  ⟨some 26, .move (.tmp 3), false, none⟩,
  ⟨some 27, .move (.tmp 0), false, none⟩,
  ⟨some 28, .call ⟨.value (.func 189), #[(.tmp 27)], #[189]⟩, true, none⟩,
  ⟨some 29, .build 47 #[(0, (.const (.int .i64 27))), (1, (.tmp 25)), (2, (.tmp 26)), (4, (.tmp 28))], false, none⟩,
  ⟨none, .store 47 (.tmp 2) (.tmp 29), true, none⟩]) <|
 .seq (.keep [2]) <|
 .ret) <|
 .skip) <|
 .seq (.keep [0, 2, 3]) <|
 .seq (.ops [⟨some 30, .build 198 #[(0, (.const (.int .i64 32))), (1, (.const (.int .i64 36))), (2, (.const (.int .i64 39))), (3, (.const (.int .i64 40))), (4, (.const (.int .i64 46))), (5, (.const (.int .i64 45))), (6, (.const (.int .i64 0))), (7, (.const (.int .i64 0)))], false, none⟩,
  ⟨some 31, .move (.tmp 0), false, none⟩,
  ⟨some 32, .call ⟨.value (.func 185), #[(.tmp 31), (.const (.int .i64 12)), (.const (.int .i64 1)), (.const (.int .i64 2))], #[189, 3, 3, 3]⟩, true, none⟩,
  ⟨some 33, .move (.tmp 0), false, none⟩,
  ⟨some 34, .call ⟨.value (.func 185), #[(.tmp 33), (.const (.int .i64 5)), (.const (.int .i64 2)), (.const (.int .i64 0))], #[189, 3, 3, 3]⟩, true, none⟩,
  ⟨some 35, .binOp .or 3 (.tmp 32) (.tmp 34) 3, false, none⟩,
  ⟨some 36, .index 198 (.tmp 30) (.tmp 35), false, none⟩,
  ⟨some 4, .assign (.tmp 36), false, none⟩]) <|
 .seq (.keep [0, 2, 3, 4]) <|
 .seq (.seq (.ops [⟨some 37, .move (.tmp 4), false, none⟩,
  ⟨some 38, .binOp .eql 3 (.tmp 37) (.const (.int .i64 0)) 3, false, none⟩]) <|
 .seq (.keep [0, 2, 3, 4, 38]) <|
 .cond (.tmp 38) (.seq (.ops [⟨some 39, .build 47 #[], false, none⟩,
  ⟨none, .store 47 (.tmp 2) (.tmp 39), true, none⟩]) <|
 .seq (.keep [2]) <|
 .ret) <|
 .skip) <|
 .seq (.keep [0, 2, 3, 4]) <|
 .seq (.ops [⟨some 40, .move (.tmp 4), false, none⟩,
  ⟨some 41, .move (.tmp 3), false, none⟩,
  ⟨some 42, .move (.tmp 3), false, none⟩,
  ⟨some 43, .move (.tmp 0), false, none⟩,
  ⟨some 44, .call ⟨.value (.func 184), #[(.tmp 43), (.const (.int .i64 2))], #[189, 3]⟩, true, none⟩,
  ⟨some 45, .build 47 #[(0, (.tmp 40)), (1, (.tmp 41)), (2, (.tmp 42)), (3, (.tmp 44))], false, none⟩,
  ⟨none, .store 47 (.tmp 2) (.tmp 45), true, none⟩]) <|
 .seq (.keep [2]) <|
 .ret
theorem c191 : Tryz.f191.body.map (fun c => ((compile Tryz.prog kp191 [] kp191 c).map (·.1), fits Tryz.f191.ntmps c)) = some (some s191, true) := by kernel_rfl
theorem r191 : Tryz.f191.results.toList = [.cell 2 47] := by kernel_rfl
attribute [go_sem] s191
abbrev kp192 : List Nat := [2]
def s192 : SC :=
 .seq (.ops [⟨some 2, .assign (.const (.int .i64 0)), false, none⟩]) <|
 .seq (.keep [0]) <|
 .seq (.ops [⟨some 3, .move (.tmp 0), false, none⟩,
  ⟨some 4, .call ⟨.value (.func 185), #[(.tmp 3), (.const (.int .i64 12)), (.const (.int .i64 1)), (.const (.int .i64 11))], #[189, 3, 3, 3]⟩, true, none⟩,
  ⟨some 5, .move (.tmp 0), false, none⟩,
  ⟨some 6, .call ⟨.value (.func 185), #[(.tmp 5), (.const (.int .i64 8)), (.const (.int .i64 1)), (.const (.int .i64 10))], #[189, 3, 3, 3]⟩, true, none⟩,
  ⟨some 7, .binOp .or 3 (.tmp 4) (.tmp 6) 3, false, none⟩,
  ⟨some 8, .move (.tmp 0), false, none⟩,
  ⟨some 9, .call ⟨.value (.func 185), #[(.tmp 8), (.const (.int .i64 9)), (.const (.int .i64 2)), (.const (.int .i64 8))], #[189, 3, 3, 3]⟩, true, none⟩,
  ⟨some 10, .binOp .or 3 (.tmp 7) (.tmp 9) 3, false, none⟩,
  ⟨some 11, .move (.tmp 0), false, none⟩,
  ⟨some 12, .call ⟨.value (.func 185), #[(.tmp 11), (.const (.int .i64 6)), (.const (.int .i64 1)), (.const (.int .i64 7))], #[189, 3, 3, 3]⟩, true, none⟩,
  ⟨some 13, .binOp .or 3 (.tmp 10) (.tmp 12) 3, false, none⟩,
  ⟨some 14, .move (.tmp 0), false, none⟩,
  ⟨some 15, .call ⟨.value (.func 185), #[(.tmp 14), (.const (.int .i64 7)), (.const (.int .i64 1)), (.const (.int .i64 6))], #[189, 3, 3, 3]⟩, true, none⟩,
  ⟨some 16, .binOp .or 3 (.tmp 13) (.tmp 15) 3, false, none⟩,
  ⟨some 17, .move (.tmp 0), false, none⟩,
  ⟨some 18, .call ⟨.value (.func 185), #[(.tmp 17), (.const (.int .i64 2)), (.const (.int .i64 1)), (.const (.int .i64 5))], #[189, 3, 3, 3]⟩, true, none⟩,
  ⟨some 19, .binOp .or 3 (.tmp 16) (.tmp 18) 3, false, none⟩,
  ⟨some 20, .move (.tmp 0), false, none⟩,
  ⟨some 21, .call ⟨.value (.func 185), #[(.tmp 20), (.const (.int .i64 11)), (.const (.int .i64 1)), (.const (.int .i64 4))], #[189, 3, 3, 3]⟩, true, none⟩,
  ⟨some 22, .binOp .or 3 (.tmp 19) (.tmp 21) 3, false, none⟩,
  ⟨some 23, .move (.tmp 0), false, none⟩,
  ⟨some 24, .call ⟨.value (.func 185), #[(.tmp 23), (.const (.int .i64 3)), (.const (.int .i64 3)), (.const (.int .i64 1))], #[189, 3, 3, 3]⟩, true, none⟩,
  ⟨some 25, .binOp .or 3 (.tmp 22) (.tmp 24) 3, false, none⟩,
  ⟨some 26, .call ⟨.value (.func 217), #[(.tmp 25), (.const (.int .i64 12))], #[3, 3]⟩, true, none⟩,
  ⟨some 2, .assign (.tmp 26), false, none⟩]) <|
 .seq (.keep [2]) <|
 .ret
theorem c192 : Tryz.f192.body.map (fun c => ((compile Tryz.prog kp192 [] kp192 c).map (·.1), fits Tryz.f192.ntmps c)) = some (some s192, true) := by kernel_rfl
theorem r192 : Tryz.f192.results.toList = [.tmp 2] := by kernel_rfl
attribute [go_sem] s192
abbrev kp193 : List Nat := [2]
def s193 : SC :=
 .seq (.ops [⟨some 2, .assign (.const (.int .i64 0)), false, none⟩]) <|
 .seq (.keep [0]) <|
 .seq (.ops [⟨some 3, .move (.tmp 0), false, none⟩,
  ⟨some 4, .call ⟨.value (.func 185), #[(.tmp 3), (.const (.int .i64 12)), (.const (.int .i64 1)), (.const (.int .i64 8))], #[189, 3, 3, 3]⟩, true, none⟩,
  ⟨some 5, .move (.tmp 0), false, none⟩,
  ⟨some 6, .call ⟨.value (.func 185), #[(.tmp 5), (.const (.int .i64 5)), (.const (.int .i64 2)), (.const (.int .i64 6))], #[189, 3, 3, 3]⟩, true, none⟩,
  ⟨some 7, .binOp .or 3 (.tmp 4) (.tmp 6) 3, false, none⟩,
  ⟨some 8, .move (.tmp 0), false, none⟩,
  ⟨some 9, .call ⟨.value (.func 185), #[(.tmp 8), (.const (.int .i64 2)), (.const (.int .i64 1)), (.const (.int .i64 5))], #[189, 3, 3, 3]⟩, true, none⟩,
  ⟨some 10, .binOp .or 3 (.tmp 7) (.tmp 9) 3, false, none⟩,
  ⟨some 11, .move (.tmp 0), false, none⟩,
  ⟨some 12, .call ⟨.value (.func 185), #[(.tmp 11), (.const (.int .i64 10)), (.const (.int .i64 2)), (.const (.int .i64 3))], #[189, 3, 3, 3]⟩, true, none⟩,
  ⟨some 13, .binOp .or 3 (.tmp 10) (.tmp 12) 3, false, none⟩,
  ⟨some 14, .move (.tmp 0), false, none⟩,
  ⟨some 15, .call ⟨.value (.func 185), #[(.tmp 14), (.const (.int .i64 3)), (.const (.int .i64 2)), (.const (.int .i64 1))], #[189, 3, 3, 3]⟩, true, none⟩,
  ⟨some 16, .binOp .or 3 (.tmp 13) (.tmp 15) 3, false, none⟩,
  ⟨some 17, .call ⟨.value (.func 217), #[(.tmp 16), (.const (.int .i64 9))], #[3, 3]⟩, true, none⟩,
  ⟨some 2, .assign (.tmp 17), false, none⟩]) <|
 .seq (.keep [2]) <|
 .ret
theorem c193 : Tryz.f193.body.map (fun c => ((compile Tryz.prog kp193 [] kp193 c).map (·.1), fits Tryz.f193.ntmps c)) = some (some s193, true) := by kernel_rfl
theorem r193 : Tryz.f193.results.toList = [.tmp 2] := by kernel_rfl
attribute [go_sem] s193
abbrev kp194 : List Nat := [2]
def s194 : SC :=
 .seq (.ops [⟨some 2, .assign (.const (.int .i64 0)), false, none⟩]) <|
 .seq (.keep [0]) <|
 .seq (.ops [⟨some 3, .move (.tmp 0), false, none⟩,
  ⟨some 4, .call ⟨.value (.func 185), #[(.tmp 3), (.const (.int .i64 12)), (.const (.int .i64 1)), (.const (.int .i64 5))], #[189, 3, 3, 3]⟩, true, none⟩,
  ⟨some 5, .move (.tmp 0), false, none⟩,
  ⟨some 6, .call ⟨.value (.func 185), #[(.tmp 5), (.const (.int .i64 2)), (.const (.int .i64 5)), (.const (.int .i64 0))], #[189, 3, 3, 3]⟩, true, none⟩,
  ⟨some 7, .binOp .or 3 (.tmp 4) (.tmp 6) 3, false, none⟩,
  ⟨some 2, .assign (.tmp 7), false, none⟩]) <|
 .seq (.keep [2]) <|
 .ret
theorem c194 : Tryz.f194.body.map (fun c => ((compile Tryz.prog kp194 [] kp194 c).map (·.1), fits Tryz.f194.ntmps c)) = some (some s194, true) := by kernel_rfl
theorem r194 : Tryz.f194.results.toList = [.tmp 2] := by kernel_rfl
attribute [go_sem] s194
abbrev kp195 : List Nat := [2]
def s195 : SC :=
 .seq (.ops [⟨some 2, .alloc 47, true, none⟩]) <|
 .seq (.keep [0, 2]) <|
 .seq (.ops [⟨some 6, .move (.tmp 0), false, none⟩,
  ⟨some 7, .call ⟨.value (.func 188), #[(.tmp 6)], #[189]⟩, true, none⟩,
  ⟨some 8, .move (.tmp 0), false, none⟩,
  ⟨some 9, .call ⟨.value (.func 196), #[(.tmp 8)], #[189]⟩, true, none⟩,
  ⟨some 10, .move (.tmp 0), false, none⟩,
  ⟨some 11, .call ⟨.value (.func 185), #[(.tmp 10), (.const (.int .i64 12)), (.const (.int .i64 1)), (.const (.int .i64 0))], #[189, 3, 3, 3]⟩, true, none⟩,
  ⟨some 3, .assign (.tmp 7), false, none⟩,
  ⟨some 4, .assign (.tmp 9), false, none⟩,
  ⟨some 5, .assign (.tmp 11), false, none⟩]) <|
 .seq (.keep [2, 3, 4, 5]) <|
 .seq (.block 0 <| .seq (.ops [⟨some 13, .move (.tmp 4), false, none⟩,
  ⟨some 14, .binOp .gtr 3 (.tmp 13) (.const (.int .i64 0)) 3, false, none⟩,
  ⟨some 12, .assign (.tmp 14), false, none⟩]) <|
 .seq (.keep [2, 3, 4, 5, 12]) <|
 .cond (.tmp 12) (.seq (.ops [⟨some 15, .move (.tmp 3), false, none⟩,
  ⟨some 16, .move (.tmp 3), false, none⟩,
  ⟨some 17, .move (.tmp 5), false, none⟩,
  ⟨some 18, .binOp .mul 3 (.tmp 16) (.tmp 17) 3, false, none⟩,
  ⟨some 19, .move (.tmp 4), false, none⟩,
  ⟨some 20, .build 47 #[(0, (.const (.int .i64 31))), (1, (.tmp 15)), (2, (.tmp 18)), (3, (.tmp 19))], false, none⟩,
  ⟨none, .store 47 (.tmp 2) (.tmp 20), true, none⟩]) <|
 .seq (.keep [2]) <|
 .ret) <|
 .seq (.ops [⟨some 22, .move (.tmp 3), false, none⟩,
  ⟨some 23, .binOp .gtr 3 (.tmp 22) (.const (.int .i64 0)) 3, false, none⟩,
  ⟨some 21, .assign (.tmp 23), false, none⟩]) <|
 .seq (.keep [2, 3, 5, 21]) <|
 .cond (.tmp 21) (.seq (.ops [⟨some 24, .move (.tmp 5), false, none⟩,
  ⟨some 25, .binOp .mul 3 (.const (.int .i64 1)) (.tmp 24) 3, false, none⟩,
  ⟨some 26, .move (.tmp 3), false, none⟩,
  ⟨some 27, .build 47 #[(0, (.const (.int .i64 4))), (1, (.tmp 25)), (2, (.tmp 26))], false, none⟩,
  ⟨none, .store 47 (.tmp 2) (.tmp 27), true, none⟩]) <|
 .seq (.keep [2]) <|
 .ret) <|
 .seq (.ops [⟨some 29, .move (.tmp 5), false, none⟩,
  ⟨some 30, .binOp .gtr 3 (.tmp 29) (.const (.int .i64 0)) 3, false, none⟩,
  ⟨some 28, .assign (.tmp 30), false, none⟩]) <|
 .seq (.keep [2, 28]) <|
 .cond (.tmp 28) (.seq (.ops [⟨some 31, .build 47 #[(0, (.const (.int .i64 88)))], false, none⟩,
  ⟨none, .store 47 (.tmp 2) (.tmp 31), true, none⟩]) <|
 .seq (.keep [2]) <|
 .ret) <|
 .skip) <|
 .seq (.keep [2]) <|
 .seq (.ops [⟨some 32, .build 47 #[], false, none⟩,
  ⟨none, .store 47 (.tmp 2) (.tmp 32), true, none⟩]) <|
 .seq (.keep [2]) <|
 .ret
theorem c195 : Tryz.f195.body.map (fun c => ((compile Tryz.prog kp195 [] kp195 c).map (·.1), fits Tryz.f195.ntmps c)) = some (some s195, true) := by kernel_rfl
theorem r195 : Tryz.f195.results.toList = [.cell 2 47] := by kernel_rfl
attribute [go_sem] s195
abbrev kp196 : List Nat := [2]
def s196 : SC :=
 .seq (.ops [⟨some 2, .assign (.const (.int .i64 0)), false, none⟩]) <|
 .seq (.keep [0]) <|
 .seq (.ops [⟨some 3, .move (.tmp 0), false, none⟩,
  ⟨some 4, .call ⟨.value (.func 185), #[(.tmp 3), (.const (.int .i64 2)), (.const (.int .i64 5)), (.const (.int .i64 0))], #[189, 3, 3, 3]⟩, true, none⟩,
  ⟨some 2, .assign (.tmp 4), false, none⟩]) <|
 .seq (.keep [2]) <|
 .ret
theorem c196 : Tryz.f196.body.map (fun c => ((compile Tryz.prog kp196 [] kp196 c).map (·.1), fits Tryz.f196.ntmps c)) = some (some s196, true) := by kernel_rfl
theorem r196 : Tryz.f196.results.toList = [.tmp 2] := by kernel_rfl
attribute [go_sem] s196
abbrev kp197 : List Nat := [4]
def s197 : SC :=
 .seq (.ops [⟨some 4, .assign (.const (.int .i64 0)), false, none⟩]) <|
 .seq (.keep [0, 1]) <|
 .seq (.ops [⟨some 5, .move (.tmp 0), false, none⟩,
  ⟨some 6, .convert 3 29 (.tmp 5), false, none⟩,
  ⟨some 7, .move (.tmp 1), false, none⟩,
  ⟨some 8, .call ⟨.value (.func 134), #[(.tmp 6), (.tmp 7)], #[29, 3]⟩, true, none⟩,
  ⟨some 9, .convert 29 2 (.tmp 8), false, none⟩,
  ⟨some 4, .assign (.tmp 9), false, none⟩]) <|
 .seq (.keep [4]) <|
 .ret
theorem c197 : Tryz.f197.body.map (fun c => ((compile Tryz.prog kp197 [] kp197 c).map (·.1), fits Tryz.f197.ntmps c)) = some (some s197, true) := by kernel_rfl
theorem r197 : Tryz.f197.results.toList = [.tmp 4] := by kernel_rfl
attribute [go_sem] s197
abbrev kp198 : List Nat := [2]
def s198 : SC :=
 .seq (.ops [⟨some 2, .assign (.const (.int .i64 0)), false, none⟩]) <|
 .seq (.keep [0]) <|
 .seq (.ops [⟨some 3, .build 198 #[(0, (.const (.int .i64 31))), (1, (.const (.int .i64 33))), (2, (.const (.int .i64 34))), (3, (.const (.int .i64 35))), (4, (.const (.int .i64 36))), (5, (.const (.int .i64 37))), (6, (.const (.int .i64 39))), (7, (.const (.int .i64 40)))], false, none⟩,
  ⟨some 4, .move (.tmp 0), false, none⟩,
  ⟨some 5, .index 198 (.tmp 3) (.tmp 4), false, none⟩,
  ⟨some 2, .assign (.tmp 5), false, none⟩]) <|
 .seq (.keep [2]) <|
 .ret
theorem c198 : Tryz.f198.body.map (fun c => ((compile Tryz.prog kp198 [] kp198 c).map (·.1), fits Tryz.f198.ntmps c)) = some (some s198, true) := by kernel_rfl
theorem r198 : Tryz.f198.results.toList = [.tmp 2] := by kernel_rfl
attribute [go_sem] s198
abbrev kp199 : List Nat := [2]
def s199 : SC :=
 .seq (.ops [⟨some 2, .assign (.const (.int .i64 0)), false, none⟩]) <|
 .seq (.keep [0]) <|
 .seq (.ops [⟨some 3, .build 198 #[(0, (.const (.int .i64 50))), (1, (.const (.int .i64 51))), (2, (.const (.int .i64 52))), (3, (.const (.int .i64 53))), (4, (.const (.int .i64 54))), (5, (.const (.int .i64 55))), (6, (.const (.int .i64 56))), (7, (.const (.int .i64 57)))], false, none⟩,
  ⟨some 4, .move (.tmp 0), false, none⟩,
  ⟨some 5, .index 198 (.tmp 3) (.tmp 4), false, none⟩,
  ⟨some 2, .assign (.tmp 5), false, none⟩]) <|
 .seq (.keep [2]) <|
 .ret
theorem c199 : Tryz.f199.body.map (fun c => ((compile Tryz.prog kp199 [] kp199 c).map (·.1), fits Tryz.f199.ntmps c)) = some (some s199, true) := by kernel_rfl
theorem r199 : Tryz.f199.results.toList = [.tmp 2] := by kernel_rfl
attribute [go_sem] s199
abbrev kp200 : List Nat := [2]
def s200 : SC :=
 .seq (.ops [⟨some 2, .assign (.const (.int .i64 0)), false, none⟩]) <|
 .seq (.keep [0]) <|
 .seq (.seq (.ops [⟨some 3, .move (.tmp 0), false, none⟩]) <|
 .seq (.keep [3]) <|
 .block 0 <| .seq (.ops [⟨some 5, .binOp .eql 3 (.tmp 3) (.const (.int .i64 2)) 3, false, none⟩,
  ⟨some 4, .assign (.tmp 5), false, none⟩]) <|
 .seq (.keep [3, 4]) <|
 .cond (.tmp 4) (.seq (.ops [⟨some 2, .assign (.const (.int .i64 63)), false, none⟩]) <|
 .seq (.keep [2]) <|
 .ret) <|
 .seq (.ops [⟨some 7, .binOp .eql 3 (.tmp 3) (.const (.int .i64 3)) 3, false, none⟩,
  ⟨some 6, .assign (.tmp 7), false, none⟩]) <|
 .seq (.keep [3, 6]) <|
 .cond (.tmp 6) (.seq (.ops [⟨some 2, .assign (.const (.int .i64 64)), false, none⟩]) <|
 .seq (.keep [2]) <|
 .ret) <|
 .seq (.ops [⟨some 9, .binOp .eql 3 (.tmp 3) (.const (.int .i64 1)) 3, false, none⟩,
  ⟨some 8, .assign (.tmp 9), false, none⟩]) <|
 .seq (.keep [3, 8]) <|
 .cond (.tmp 8) (.seq (.ops [⟨some 2, .assign (.const (.int .i64 65)), false, none⟩]) <|
 .seq (.keep [2]) <|
 .ret) <|
 .seq (.ops [⟨some 11, .binOp .eql 3 (.tmp 3) (.const (.int .i64 0)) 3, false, none⟩,
  ⟨some 10, .assign (.tmp 11), false, none⟩]) <|
 .seq (.keep [3, 10]) <|
 .cond (.tmp 10) (.seq (.ops [⟨some 2, .assign (.const (.int .i64 66)), false, none⟩]) <|
 .seq (.keep [2]) <|
 .ret) <|
 .seq (.ops [⟨some 13, .binOp .eql 3 (.tmp 3) (.const (.int .i64 4)) 3, false, none⟩,
  ⟨some 12, .assign (.tmp 13), false, none⟩]) <|
 .seq (.keep [3, 12]) <|
 .cond (.tmp 12) (.seq (.ops [⟨some 2, .assign (.const (.int .i64 67)), false, none⟩]) <|
 .seq (.keep [2]) <|
 .ret) <|
 .seq (.ops [⟨some 15, .binOp .eql 3 (.tmp 3) (.const (.int .i64 12)) 3, false, none⟩,
  ⟨some 14, .assign (.tmp 15), false, none⟩]) <|
 .seq (.keep [3, 14]) <|
 .cond (.tmp 14) (.seq (.ops [⟨some 2, .assign (.const (.int .i64 68)), false, none⟩]) <|
 .seq (.keep [2]) <|
 .ret) <|
 .seq (.ops [⟨some 17, .binOp .eql 3 (.tmp 3) (.const (.int .i64 8)) 3, false, none⟩,
  ⟨some 16, .assign (.tmp 17), false, none⟩]) <|
 .seq (.keep [3, 16]) <|
 .cond (.tmp 16) (.seq (.ops [⟨some 2, .assign (.const (.int .i64 69)), false, none⟩]) <|
 .seq (.keep [2]) <|
 .ret) <|
 .seq (.ops [⟨some 19, .binOp .eql 3 (.tmp 3) (.const (.int .i64 16)) 3, false, none⟩,
  ⟨some 18, .assign (.tmp 19), false, none⟩]) <|
 .seq (.keep [3, 18]) <|
 .cond (.tmp 18) (.seq (.ops [⟨some 2, .assign (.const (.int .i64 70)), false, none⟩]) <|
 .seq (.keep [2]) <|
 .ret) <|
 .seq (.ops [⟨some 21, .binOp .eql 3 (.tmp 3) (.const (.int .i64 20)) 3, false, none⟩,
  ⟨some 20, .assign (.tmp 21), false, none⟩]) <|
 .seq (.keep [3, 20]) <|
 .cond (.tmp 20) (.seq (.ops [⟨some 2, .assign (.const (.int .i64 71)), false, none⟩]) <|
 .seq (.keep [2]) <|
 .ret) <|
 .seq (.ops [⟨some 23, .binOp .eql 3 (.tmp 3) (.const (.int .i64 24)) 3, false, none⟩,
  ⟨some 22, .assign (.tmp 23), false, none⟩]) <|
 .seq (.keep [3, 22]) <|
 .cond (.tmp 22) (.seq (.ops [⟨some 2, .assign (.const (.int .i64 72)), false, none⟩]) <|
 .seq (.keep [2]) <|
 .ret) <|
 .seq (.ops [⟨some 25, .binOp .eql 3 (.tmp 3) (.const (.int .i64 28)) 3, false, none⟩,
  ⟨some 24, .assign (.tmp 25), false, none⟩]) <|
 .seq (.keep [24]) <|
 .cond (.tmp 24) (.seq (.ops [⟨some 2, .assign (.const (.int .i64 73)), false, none⟩]) <|
 .seq (.keep [2]) <|
 .ret) <|
 .skip) <|
 .seq (.keep []) <|
 .seq (.ops [⟨some 2, .assign (.const (.int .i64 0)), false, none⟩]) <|
 .seq (.keep [2]) <|
 .ret
theorem c200 : Tryz.f200.body.map (fun c => ((compile Tryz.prog kp200 [] kp200 c).map (·.1), fits Tryz.f200.ntmps c)) = some (some s200, true) := by kernel_rfl
theorem r200 : Tryz.f200.results.toList = [.tmp 2] := by kernel_rfl
attribute [go_sem] s200
abbrev kp201 : List Nat := [2]
def s201 : SC :=
 .seq (.ops [⟨some 2, .assign (.const (.int .i64 0)), false, none⟩]) <|
 .seq (.keep [0]) <|
 .seq (.ops [⟨some 3, .move (.tmp 0), false, none⟩,
  ⟨some 4, .call ⟨.value (.func 151), #[(.tmp 3), (.const (.int .i64 20)), (.const (.int .i64 12))], #[37, 3, 3]⟩, true, none⟩,
  ⟨some 5, .call ⟨.value (.func 197), #[(.tmp 4), (.const (.int .i64 12))], #[3, 3]⟩, true, none⟩,
  ⟨some 2, .assign (.tmp 5), false, none⟩]) <|
 .seq (.keep [2]) <|
 .ret
theorem c201 : Tryz.f201.body.map (fun c => ((compile Tryz.prog kp201 [] kp201 c).map (·.1), fits Tryz.f201.ntmps c)) = some (some s201, true) := by kernel_rfl
theorem r201 : Tryz.f201.results.toList = [.tmp 2] := by kernel_rfl
attribute [go_sem] s201
abbrev kp202 : List Nat := [2]
def s202 : SC :=
 .seq (.ops [⟨some 2, .assign (.const (.int .i64 0)), false, none⟩]) <|
 .seq (.keep [0]) <|
 .seq (.ops [⟨some 3, .build 198 #[(0, (.const (.int .i64 11))), (1, (.const (.int .i64 12))), (2, (.const (.int .i64 13))), (3, (.const (.int .i64 14))), (4, (.const (.int .i64 15))), (5, (.const (.int .i64 16))), (6, (.const (.int .i64 17))), (7, (.const (.int .i64 0)))], false, none⟩,
  ⟨some 4, .move (.tmp 0), false, none⟩,
  ⟨some 5, .index 198 (.tmp 3) (.tmp 4), false, none⟩,
  ⟨some 2, .assign (.tmp 5), false, none⟩]) <|
 .seq (.keep [2]) <|
 .ret
theorem c202 : Tryz.f202.body.map (fun c => ((compile Tryz.prog kp202 [] kp202 c).map (·.1), fits Tryz.f202.ntmps c)) = some (some s202, true) := by kernel_rfl
theorem r202 : Tryz.f202.results.toList = [.tmp 2] := by kernel_rfl
attribute [go_sem] s202
abbrev kp203 : List Nat := [10]
def s203 : SC :=
 .seq (.ops [⟨some 10, .alloc 47, true, none⟩]) <|
 .seq (.keep [0, 1, 2, 3, 4, 10]) <|
 .seq (.ops [⟨some 14, .move (.tmp 0), false, none⟩,
  ⟨some 15, .move (.tmp 4), false, none⟩,
  ⟨some 16, .binOp .add 3 (.const (.int .i64 20)) (.tmp 15) 3, false, none⟩,
  ⟨some 17, .move (.tmp 4), false, none⟩,
  ⟨some 18, .binOp .sub 3 (.const (.int .i64 12)) (.tmp 17) 3, false, none⟩,
  ⟨some 19, .call ⟨.value (.func 151), #[(.tmp 14), (.tmp 16), (.tmp 18)], #[37, 3, 3]⟩, true, none⟩,
  ⟨some 11, .assign (.tmp 19), false, none⟩]) <|
 .seq (.keep [0, 1, 2, 3, 4, 10, 11]) <|
 .seq (.ops [⟨some 20, .move (.tmp 0), false, none⟩,
  ⟨some 21, .move (.tmp 4), false, none⟩,
  ⟨some 22, .call ⟨.value (.func 151), #[(.tmp 20), (.const (.int .i64 20)), (.tmp 21)], #[37, 3, 3]⟩, true, none⟩,
  ⟨some 12, .assign (.tmp 22), false, none⟩]) <|
 .seq (.keep [0, 1, 2, 3, 4, 10, 11, 12]) <|
 .seq (.seq (.ops [⟨some 23, .move (.tmp 0), false, none⟩,
  ⟨some 24, .call ⟨.value (.func 151), #[(.tmp 23), (.const (.int .i64 12)), (.const (.int .i64 3))], #[37, 3, 3]⟩, true, none⟩,
  ⟨some 13, .assign (.tmp 24), false, none⟩]) <|
 .seq (.keep [1, 2, 3, 4, 10, 11, 12, 13]) <|
 .block 0 <| .seq (.ops [⟨some 26, .move (.tmp 13), false, none⟩,
  ⟨some 27, .binOp .eql 3 (.tmp 26) (.const (.int .i64 1)) 3, false, none⟩,
  ⟨some 28, .move (.tmp 27), false, none⟩,
  ⟨some 29, .move (.tmp 11), false, some (28, true)⟩,
  ⟨some 30, .binOp .eql 3 (.tmp 29) (.const (.int .i64 0)) 3, false, some (28, true)⟩,
  ⟨some 31, .pick (.tmp 28) (.tmp 30) (.const (.bool false)), false, none⟩,
  ⟨some 25, .assign (.tmp 31), false, none⟩]) <|
 .seq (.keep [1, 2, 3, 4, 10, 11, 12, 13, 25]) <|
 .cond (.tmp 25) (.seq (.ops [⟨some 32, .move (.tmp 1), false, none⟩,
  ⟨some 33, .move (.tmp 12), false, none⟩,
  ⟨some 34, .build 47 #[(0, (.tmp 32)), (4, (.tmp 33))], false, none⟩,
  ⟨none, .store 47 (.tmp 10) (.tmp 34), true, none⟩]) <|
 .seq (.keep [10]) <|
 .ret) <|
 .seq (.ops [⟨some 36, .move (.tmp 13), false, none⟩,
  ⟨some 37, .binOp .eql 3 (.tmp 36) (.const (.int .i64 5)) 3, false, none⟩,
  ⟨some 38, .move (.tmp 37), false, none⟩,
  ⟨some 39, .move (.tmp 11), false, some (38, true)⟩,
  ⟨some 40, .binOp .eql 3 (.tmp 39) (.const (.int .i64 0)) 3, false, some (38, true)⟩,
  ⟨some 41, .pick (.tmp 38) (.tmp 40) (.const (.bool false)), false, none⟩,
  ⟨some 35, .assign (.tmp 41), false, none⟩]) <|
 .seq (.keep [2, 3, 4, 10, 11, 12, 13, 35]) <|
 .cond (.tmp 35) (.seq (.ops [⟨some 42, .move (.tmp 2), false, none⟩,
  ⟨some 43, .move (.tmp 12), false, none⟩,
  ⟨some 44, .build 47 #[(0, (.tmp 42)), (4, (.tmp 43))], false, none⟩,
  ⟨none, .store 47 (.tmp 10) (.tmp 44), true, none⟩]) <|
 .seq (.keep [10]) <|
 .ret) <|
 .seq (.ops [⟨some 46, .move (.tmp 13), false, none⟩,
  ⟨some 47, .binOp .eql 3 (.tmp 46) (.const (.int .i64 5)) 3, false, none⟩,
  ⟨some 48, .move (.tmp 47), false, none⟩,
  ⟨some 49, .move (.tmp 11), false, some (48, true)⟩,
  ⟨some 50, .move (.tmp 4), false, some (48, true)⟩,
  ⟨some 51, .binOp .sub 3 (.const (.int .i64 10)) (.tmp 50) 3, false, some (48, true)⟩,
  ⟨some 52, .binOp .shl 3 (.const (.int .i64 1)) (.tmp 51) 3, false, some (48, true)⟩,
  ⟨some 53, .binOp .eql 3 (.tmp 49) (.tmp 52) 3, false, some (48, true)⟩,
  ⟨some 54, .pick (.tmp 48) (.tmp 53) (.const (.bool false)), false, none⟩,
  ⟨some 45, .assign (.tmp 54), false, none⟩]) <|
 .seq (.keep [3, 10, 12, 45]) <|
 .cond (.tmp 45) (.seq (.ops [⟨some 55, .move (.tmp 3), false, none⟩,
  ⟨some 56, .move (.tmp 12), false, none⟩,
  ⟨some 57, .build 47 #[(0, (.tmp 55)), (4, (.tmp 56))], false, none⟩,
  ⟨none, .store 47 (.tmp 10) (.tmp 57), true, none⟩]) <|
 .seq (.keep [10]) <|
 .ret) <|
 .skip) <|
 .seq (.keep [10]) <|
 .seq (.ops [⟨some 58, .build 47 #[], false, none⟩,
  ⟨none, .store 47 (.tmp 10) (.tmp 58), true, none⟩]) <|
 .seq (.keep [10]) <|
 .ret
theorem c203 : Tryz.f203.body.map (fun c => ((compile Tryz.prog kp203 [] kp203 c).map (·.1), fits Tryz.f203.ntmps c)) = some (some s203, true) := by kernel_rfl
theorem r203 : Tryz.f203.results.toList = [.cell 10 47] := by kernel_rfl
attribute [go_sem] s203
abbrev kp204 : List Nat := [2]
def s204 : SC :=
 .seq (.ops [⟨some 2, .assign (.const (.int .i64 0)), false, none⟩]) <|
 .seq (.keep [0]) <|
 .seq (.ops [⟨some 3, .build 198 #[(0, (.const (.int .i64 22))), (1, (.const (.int .i64 0))), (2, (.const (.int .i64 23))), (3, (.const (.int .i64 24))), (4, (.const (.int .i64 25))), (5, (.const (.int .i64 0))), (6, (.const (.int .i64 26))), (7, (.const (.int .i64 27)))], false, none⟩,
  ⟨some 4, .move (.tmp 0), false, none⟩,
  ⟨some 5, .index 198 (.tmp 3) (.tmp 4), false, none⟩,
  ⟨some 2, .assign (.tmp 5), false, none⟩]) <|
 .seq (.keep [2]) <|
 .ret
theorem c204 : Tryz.f204.body.map (fun c => ((compile Tryz.prog kp204 [] kp204 c).map (·.1), fits Tryz.f204.ntmps c)) = some (some s204, true) := by kernel_rfl
theorem r204 : Tryz.f204.results.toList = [.tmp 2] := by kernel_rfl
attribute [go_sem] s204
abbrev kp205 : List Nat := [2]
def s205 : SC :=
 .seq (.ops [⟨some 2, .assign (.const (.int .u64 0)), false, none⟩]) <|
 .seq (.keep [0]) <|
 .seq (.seq (.ops [⟨some 3, .move (.tmp 0), false, none⟩]) <|
 .seq (.keep [3]) <|
 .cond (.tmp 3) (.seq (.ops [⟨some 2, .assign (.const (.int .u64 1)), false, none⟩]) <|
 .seq (.keep [2]) <|
 .ret) <|
 .skip) <|
 .seq (.keep []) <|
 .seq (.ops [⟨some 2, .assign (.const (.int .u64 0)), false, none⟩]) <|
 .seq (.keep [2]) <|
 .ret
theorem c205 : Tryz.f205.body.map (fun c => ((compile Tryz.prog kp205 [] kp205 c).map (·.1), fits Tryz.f205.ntmps c)) = some (some s205, true) := by kernel_rfl
theorem r205 : Tryz.f205.results.toList = [.tmp 2] := by kernel_rfl
attribute [go_sem] s205
abbrev kp206 : List Nat := [4]
def s206 : SC :=
 .seq (.ops [⟨some 4, .assign (.const (.int .u64 0)), false, none⟩]) <|
 .seq (.keep [0, 1]) <|
 .seq (.ops [⟨some 6, .move (.tmp 0), false, none⟩,
  ⟨some 7, .move (.tmp 1), false, none⟩,
  ⟨some 8, .call ⟨.value (.func 207), #[(.tmp 6), (.tmp 7)], #[29, 29]⟩, true, none⟩,
  ⟨some 5, .assign (.tmp 8), false, none⟩]) <|
 .seq (.keep [0, 1, 5]) <|
 .seq (.seq (.ops [⟨some 9, .move (.tmp 1), false, none⟩,
  ⟨some 10, .call ⟨.value (.func 218), #[(.tmp 9)], #[29]⟩, true, none⟩]) <|
 .seq (.keep [0, 5, 10]) <|
 .cond (.tmp 10) (.ops [⟨some 11, .move (.tmp 5), false, none⟩,
  ⟨some 12, .move (.tmp 0), false, none⟩,
  ⟨some 13, .binOp .sub 29 (.tmp 11) (.tmp 12) 29, false, none⟩,
  ⟨some 5, .assign (.tmp 13), false, none⟩]) <|
 .skip) <|
 .seq (.keep [5]) <|
 .seq (.ops [⟨some 14, .move (.tmp 5), false, none⟩,
  ⟨some 4, .assign (.tmp 14), false, none⟩]) <|
 .seq (.keep [4]) <|
 .ret
theorem c206 : Tryz.f206.body.map (fun c => ((compile Tryz.prog kp206 [] kp206 c).map (·.1), fits Tryz.f206.ntmps c)) = some (some s206, true) := by kernel_rfl
theorem r206 : Tryz.f206.results.toList = [.tmp 4] := by kernel_rfl
attribute [go_sem] s206
abbrev kp207 : List Nat := [4]
def s207 : SC :=
 .seq (.ops [⟨some 4, .assign (.const (.int .u64 0)), false, none⟩]) <|
 .seq (.keep [0, 1]) <|
 .seq (.ops [⟨some 6, .move (.tmp 0), false, none⟩,
  ⟨some 7, .move (.tmp 1), false, none⟩,
  ⟨some 8, .call ⟨.value (.func 208), #[(.tmp 6), (.tmp 7)], #[29, 29]⟩, true, none⟩,
  ⟨some 5, .assign (.tmp 8), false, none⟩]) <|
 .seq (.keep [0, 1, 5]) <|
 .seq (.seq (.ops [⟨some 9, .move (.tmp 0), false, none⟩,
  ⟨some 10, .call ⟨.value (.func 218), #[(.tmp 9)], #[29]⟩, true, none⟩]) <|
 .seq (.keep [1, 5, 10]) <|
 .cond (.tmp 10) (.ops [⟨some 11, .move (.tmp 5), false, none⟩,
  ⟨some 12, .move (.tmp 1), false, none⟩,
  ⟨some 13, .binOp .sub 29 (.tmp 11) (.tmp 12) 29, false, none⟩,
  ⟨some 5, .assign (.tmp 13), false, none⟩]) <|
 .skip) <|
 .seq (.keep [5]) <|
 .seq (.ops [⟨some 14, .move (.tmp 5), false, none⟩,
  ⟨some 4, .assign (.tmp 14), false, none⟩]) <|
 .seq (.keep [4]) <|
 .ret
theorem c207 : Tryz.f207.body.map (fun c => ((compile Tryz.prog kp207 [] kp207 c).map (·.1), fits Tryz.f207.ntmps c)) = some (some s207, true) := by kernel_rfl
theorem r207 : Tryz.f207.results.toList = [.tmp 4] := by kernel_rfl
attribute [go_sem] s207
abbrev kp208 : List Nat := [4]
def s208 : SC :=
 .seq (.ops [⟨some 4, .assign (.const (.int .u64 0)), false, none⟩]) <|
 .seq (.keep [0, 1]) <|
 .seq (.ops [⟨some 8, .move (.tmp 0), false, none⟩,
  ⟨some 9, .move (.tmp 1), false, none⟩,
  ⟨some 10, .call ⟨.value (.func 219), #[(.tmp 8), (.tmp 9)], #[29, 29]⟩, true, none⟩,
  ⟨some 7, .move (.tmp 10), false, none⟩,
  ⟨some 11, .extract (.tmp 7) 0, false, none⟩,
  ⟨some 12, .extract (.tmp 7) 1, false, none⟩,
  ⟨some 5, .assign (.tmp 11), false, none⟩,
  ⟨some 6, .assign (.tmp 12), false, none⟩]) <|
 .seq (.keep [5]) <|
 .seq (.ops [⟨some 13, .move (.tmp 5), false, none⟩,
  ⟨some 4, .assign (.tmp 13), false, none⟩]) <|
 .seq (.keep [4]) <|
 .ret
theorem c208 : Tryz.f208.body.map (fun c => ((compile Tryz.prog kp208 [] kp208 c).map (·.1), fits Tryz.f208.ntmps c)) = some (some s208, true) := by kernel_rfl
theorem r208 : Tryz.f208.results.toList = [.tmp 4] := by kernel_rfl
attribute [go_sem] s208
abbrev kp209 : List Nat := [4]
def s209 : SC :=
 .seq (.ops [⟨some 4, .assign (.const (.int .u64 0)), false, none⟩]) <|
 .seq (.keep [0, 1]) <|
 .seq (.block 0 <| .seq (.ops [⟨some 6, .move (.tmp 1), false, none⟩,
  ⟨some 7, .binOp .eql 29 (.tmp 6) (.const (.int .u64 0)) 29, false, none⟩,
  ⟨some 5, .assign (.tmp 7), false, none⟩]) <|
 .seq (.keep [0, 1, 5]) <|
 .cond (.tmp 5) (.seq (.ops [⟨some 4, .assign (.const (.int .u64 18446744073709551615)), false, none⟩]) <|
 .seq (.keep [4]) <|
 .ret) <|
 .seq (.ops [⟨some 9, .move (.tmp 0), false, none⟩,
  ⟨some 10, .binOp .eql 29 (.tmp 9) (.const (.int .u64 9223372036854775808)) 29, false, none⟩,
  ⟨some 11, .move (.tmp 10), false, none⟩,
  ⟨some 12, .move (.tmp 1), false, some (11, true)⟩,
  ⟨some 13, .binOp .eql 29 (.tmp 12) (.const (.int .u64 18446744073709551615)) 29, false, some (11, true)⟩,
  ⟨some 14, .pick (.tmp 11) (.tmp 13) (.const (.bool false)), false, none⟩,
  ⟨some 8, .assign (.tmp 14), false, none⟩]) <|
 .seq (.keep [0, 1, 8]) <|
 .cond (.tmp 8) (.seq (.ops [⟨some 15, .move (.tmp 0), false, none⟩,
  ⟨some 4, .assign (.tmp 15), false, none⟩]) <|
 .seq (.keep [4]) <|
 .ret) <|
 .skip) <|
 .seq (.keep [0, 1]) <|
 .seq (.ops [⟨some 16, .move (.tmp 0), false, none⟩,
  ⟨some 17, .convert 29 2 (.tmp 16), false, none⟩,
  ⟨some 18, .move (.tmp 1), false, none⟩,
  ⟨some 19, .convert 29 2 (.tmp 18), false, none⟩,
  ⟨some 20, .binOp .quo 2 (.tmp 17) (.tmp 19) 2, false, none⟩,
  ⟨some 21, .convert 2 29 (.tmp 20), false, none⟩,
  ⟨some 4, .assign (.tmp 21), false, none⟩]) <|
 .seq (.keep [4]) <|
 .ret
theorem c209 : Tryz.f209.body.map (fun c => ((compile Tryz.prog kp209 [] kp209 c).map (·.1), fits Tryz.f209.ntmps c)) = some (some s209, true) := by kernel_rfl
theorem r209 : Tryz.f209.results.toList = [.tmp 4] := by kernel_rfl
attribute [go_sem] s209
abbrev kp210 : List Nat := [4]
def s210 : SC :=
 .seq (.ops [⟨some 4, .assign (.const (.int .u64 0)), false, none⟩]) <|
 .seq (.keep [0, 1]) <|
 .seq (.seq (.ops [⟨some 5, .move (.tmp 1), false, none⟩,
  ⟨some 6, .binOp .eql 29 (.tmp 5) (.const (.int .u64 0)) 29, false, none⟩]) <|
 .seq (.keep [0, 1, 6]) <|
 .cond (.tmp 6) (.seq (.ops [⟨some 4, .assign (.const (.int .u64 18446744073709551615)), false, none⟩]) <|
 .seq (.keep [4]) <|
 .ret) <|
 .skip) <|
 .seq (.keep [0, 1]) <|
 .seq (.ops [⟨some 7, .move (.tmp 0), false, none⟩,
  ⟨some 8, .move (.tmp 1), false, none⟩,
  ⟨some 9, .binOp .quo 29 (.tmp 7) (.tmp 8) 29, false, none⟩,
  ⟨some 4, .assign (.tmp 9), false, none⟩]) <|
 .seq (.keep [4]) <|
 .ret
theorem c210 : Tryz.f210.body.map (fun c => ((compile Tryz.prog kp210 [] kp210 c).map (·.1), fits Tryz.f210.ntmps c)) = some (some s210, true) := by kernel_rfl
theorem r210 : Tryz.f210.results.toList = [.tmp 4] := by kernel_rfl
attribute [go_sem] s210
abbrev kp211 : List Nat := [4]
def s211 : SC :=
 .seq (.ops [⟨some 4, .assign (.const (.int .u64 0)), false, none⟩]) <|
 .seq (.keep [0, 1]) <|
 .seq (.block 0 <| .seq (.ops [⟨some 6, .move (.tmp 1), false, none⟩,
  ⟨some 7, .binOp .eql 29 (.tmp 6) (.const (.int .u64 0)) 29, false, none⟩,
  ⟨some 5, .assign (.tmp 7), false, none⟩]) <|
 .seq (.keep [0, 1, 5]) <|
 .cond (.tmp 5) (.seq (.ops [⟨some 8, .move (.tmp 0), false, none⟩,
  ⟨some 4, .assign (.tmp 8), false, none⟩]) <|
 .seq (.keep [4]) <|
 .ret) <|
 .seq (.ops [⟨some 10, .move (.tmp 0), false, none⟩,
  ⟨some 11, .binOp .eql 29 (.tmp 10) (.const (.int .u64 9223372036854775808)) 29, false, none⟩,
  ⟨some 12, .move (.tmp 11), false, none⟩,
  ⟨some 13, .move (.tmp 1), false, some (12, true)⟩,
  ⟨some 14, .binOp .eql 29 (.tmp 13) (.const (.int .u64 18446744073709551615)) 29, false, some (12, true)⟩,
  ⟨some 15, .pick (.tmp 12) (.tmp 14) (.const (.bool false)), false, none⟩,
  ⟨some 9, .assign (.tmp 15), false, none⟩]) <|
 .seq (.keep [0, 1, 9]) <|
 .cond (.tmp 9) (.seq (.ops [⟨some 4, .assign (.const (.int .u64 0)), false, none⟩]) <|
 .seq (.keep [4]) <|
 .ret) <|
 .skip) <|
 .seq (.keep [0, 1]) <|
 .seq (.ops [⟨some 16, .move (.tmp 0), false, none⟩,
  ⟨some 17, .convert 29 2 (.tmp 16), false, none⟩,
  ⟨some 18, .move (.tmp 1), false, none⟩,
  ⟨some 19, .convert 29 2 (.tmp 18), false, none⟩,
  ⟨some 20, .binOp .rem 2 (.tmp 17) (.tmp 19) 2, false, none⟩,
  ⟨some 21, .convert 2 29 (.tmp 20), false, none⟩,
  ⟨some 4, .assign (.tmp 21), false, none⟩]) <|
 .seq (.keep [4]) <|
 .ret
theorem c211 : Tryz.f211.body.map (fun c => ((compile Tryz.prog kp211 [] kp211 c).map (·.1), fits Tryz.f211.ntmps c)) = some (some s211, true) := by kernel_rfl
theorem r211 : Tryz.f211.results.toList = [.tmp 4] := by kernel_rfl
attribute [go_sem] s211
abbrev kp212 : List Nat := [4]
def s212 : SC :=
 .seq (.ops [⟨some 4, .assign (.const (.int .u64 0)), false, none⟩]) <|
 .seq (.keep [0, 1]) <|
 .seq (.seq (.ops [⟨some 5, .move (.tmp 1), false, none⟩,
  ⟨some 6, .binOp .eql 29 (.tmp 5) (.const (.int .u64 0)) 29, false, none⟩]) <|
 .seq (.keep [0, 1, 6]) <|
 .cond (.tmp 6) (.seq (.ops [⟨some 7, .move (.tmp 0), false, none⟩,
  ⟨some 4, .assign (.tmp 7), false, none⟩]) <|
 .seq (.keep [4]) <|
 .ret) <|
 .skip) <|
 .seq (.keep [0, 1]) <|
 .seq (.ops [⟨some 8, .move (.tmp 0), false, none⟩,
  ⟨some 9, .move (.tmp 1), false, none⟩,
  ⟨some 10, .binOp .rem 29 (.tmp 8) (.tmp 9) 29, false, none⟩,
  ⟨some 4, .assign (.tmp 10), false, none⟩]) <|
 .seq (.keep [4]) <|
 .ret
theorem c212 : Tryz.f212.body.map (fun c => ((compile Tryz.prog kp212 [] kp212 c).map (·.1), fits Tryz.f212.ntmps c)) = some (some s212, true) := by kernel_rfl
theorem r212 : Tryz.f212.results.toList = [.tmp 4] := by kernel_rfl
attribute [go_sem] s212
abbrev kp217 : List Nat := [4]
def s217 : SC :=
 .seq (.ops [⟨some 4, .assign (.const (.int .i64 0)), false, none⟩]) <|
 .seq (.keep [0, 1]) <|
 .seq (.ops [⟨some 5, .move (.tmp 0), false, none⟩,
  ⟨some 6, .convert 3 29 (.tmp 5), false, none⟩,
  ⟨some 7, .move (.tmp 1), false, none⟩,
  ⟨some 8, .call ⟨.value (.func 134), #[(.tmp 6), (.tmp 7)], #[29, 3]⟩, true, none⟩,
  ⟨some 9, .convert 29 2 (.tmp 8), false, none⟩,
  ⟨some 4, .assign (.tmp 9), false, none⟩]) <|
 .seq (.keep [4]) <|
 .ret
theorem c217 : Tryz.f217.body.map (fun c => ((compile Tryz.prog kp217 [] kp217 c).map (·.1), fits Tryz.f217.ntmps c)) = some (some s217, true) := by kernel_rfl
theorem r217 : Tryz.f217.results.toList = [.tmp 4] := by kernel_rfl
attribute [go_sem] s217
abbrev kp218 : List Nat := [2]
def s218 : SC :=
 .seq (.ops [⟨some 2, .assign (.const (.bool false)), false, none⟩]) <|
 .seq (.keep [0]) <|
 .seq (.ops [⟨some 3, .move (.tmp 0), false, none⟩,
  ⟨some 4, .convert 29 2 (.tmp 3), false, none⟩,
  ⟨some 5, .binOp .lss 2 (.tmp 4) (.const (.int .i64 0)) 2, false, none⟩,
  ⟨some 2, .assign (.tmp 5), false, none⟩]) <|
 .seq (.keep [2]) <|
 .ret
theorem c218 : Tryz.f218.body.map (fun c => ((compile Tryz.prog kp218 [] kp218 c).map (·.1), fits Tryz.f218.ntmps c)) = some (some s218, true) := by kernel_rfl
theorem r218 : Tryz.f218.results.toList = [.tmp 2] := by kernel_rfl
attribute [go_sem] s218
abbrev kp219 : List Nat := [4, 5]
def s219 : SC :=
 .seq (.ops [⟨some 4, .assign (.const (.int .u64 0)), false, none⟩,
  ⟨some 5, .assign (.const (.int .u64 0)), false, none⟩]) <|
 .seq (.keep [0, 1]) <|
 .seq (.ops [⟨some 14, .move (.tmp 0), false, none⟩,
  ⟨some 15, .binOp .and 29 (.tmp 14) (.const (.int .u64 4294967295)) 29, false, none⟩,
  ⟨some 6, .assign (.tmp 15), false, none⟩]) <|
 .seq (.keep [0, 1, 6]) <|
 .seq (.ops [⟨some 16, .move (.tmp 0), false, none⟩,
  ⟨some 17, .binOp .shr 29 (.tmp 16) (.const (.int .u64 32)) 44, false, none⟩,
  ⟨some 7, .assign (.tmp 17), false, none⟩]) <|
 .seq (.keep [0, 1, 6, 7]) <|
 .seq (.ops [⟨some 18, .move (.tmp 1), false, none⟩,
  ⟨some 19, .binOp .and 29 (.tmp 18) (.const (.int .u64 4294967295)) 29, false, none⟩,
  ⟨some 8, .assign (.tmp 19), false, none⟩]) <|
 .seq (.keep [0, 1, 6, 7, 8]) <|
 .seq (.ops [⟨some 20, .move (.tmp 1), false, none⟩,
  ⟨some 21, .binOp .shr 29 (.tmp 20) (.const (.int .u64 32)) 44, false, none⟩,
  ⟨some 9, .assign (.tmp 21), false, none⟩]) <|
 .seq (.keep [0, 1, 6, 7, 8, 9]) <|
 .seq (.ops [⟨some 22, .move (.tmp 6), false, none⟩,
  ⟨some 23, .move (.tmp 8), false, none⟩,
  ⟨some 24, .binOp .mul 29 (.tmp 22) (.tmp 23) 29, false, none⟩,
  ⟨some 10, .assign (.tmp 24), false, none⟩]) <|
 .seq (.keep [0, 1, 6, 7, 8, 9, 10]) <|
 .seq (.ops [⟨some 25, .move (.tmp 7), false, none⟩,
  ⟨some 26, .move (.tmp 8), false, none⟩,
  ⟨some 27, .binOp .mul 29 (.tmp 25) (.tmp 26) 29, false, none⟩,
  ⟨some 28, .move (.tmp 10), false, none⟩,
  ⟨some 29, .binOp .shr 29 (.tmp 28) (.const (.int .u64 32)) 44, false, none⟩,
  ⟨some 30, .binOp .add 29 (.tmp 27) (.tmp 29) 29, false, none⟩,
  ⟨some 11, .assign (.tmp 30), false, none⟩]) <|
 .seq (.keep [0, 1, 6, 7, 9, 11]) <|
 .seq (.ops [⟨some 31, .move (.tmp 11), false, none⟩,
  ⟨some 32, .binOp .and 29 (.tmp 31) (.const (.int .u64 4294967295)) 29, false, none⟩,
  ⟨some 12, .assign (.tmp 32), false, none⟩]) <|
 .seq (.keep [0, 1, 6, 7, 9, 11, 12]) <|
 .seq (.ops [⟨some 33, .move (.tmp 11), false, none⟩,
  ⟨some 34, .binOp .shr 29 (.tmp 33) (.const (.int .u64 32)) 44, false, none⟩,
  ⟨some 13, .assign (.tmp 34), false, none⟩]) <|
 .seq (.keep [0, 1, 6, 7, 9, 12, 13]) <|
 .seq (.ops [⟨some 35, .move (.tmp 12), false, none⟩,
  ⟨some 36, .move (.tmp 6), false, none⟩,
  ⟨some 37, .move (.tmp 9), false, none⟩,
  ⟨some 38, .binOp .mul 29 (.tmp 36) (.tmp 37) 29, false, none⟩,
  ⟨some 39, .binOp .add 29 (.tmp 35) (.tmp 38) 29, false, none⟩,
  ⟨some 12, .assign (.tmp 39), false, none⟩]) <|
 .seq (.keep [0, 1, 7, 9, 12, 13]) <|
 .seq (.ops [⟨some 40, .move (.tmp 7), false, none⟩,
  ⟨some 41, .move (.tmp 9), false, none⟩,
  ⟨some 42, .binOp .mul 29 (.tmp 40) (.tmp 41) 29, false, none⟩,
  ⟨some 43, .move (.tmp 13), false, none⟩,
  ⟨some 44, .binOp .add 29 (.tmp 42) (.tmp 43) 29, false, none⟩,
  ⟨some 45, .move (.tmp 12), false, none⟩,
  ⟨some 46, .binOp .shr 29 (.tmp 45) (.const (.int .u64 32)) 44, false, none⟩,
  ⟨some 47, .binOp .add 29 (.tmp 44) (.tmp 46) 29, false, none⟩,
  ⟨some 4, .assign (.tmp 47), false, none⟩]) <|
 .seq (.keep [0, 1, 4]) <|
 .seq (.ops [⟨some 48, .move (.tmp 0), false, none⟩,
  ⟨some 49, .move (.tmp 1), false, none⟩,
  ⟨some 50, .binOp .mul 29 (.tmp 48) (.tmp 49) 29, false, none⟩,
  ⟨some 5, .assign (.tmp 50), false, none⟩]) <|
 .seq (.keep [4, 5]) <|
 .ret
theorem c219 : Tryz.f219.body.map (fun c => ((compile Tryz.prog kp219 [] kp219 c).map (·.1), fits Tryz.f219.ntmps c)) = some (some s219, true) := by kernel_rfl
theorem r219 : Tryz.f219.results.toList = [.tmp 4, .tmp 5] := by kernel_rfl
attribute [go_sem] s219
end Go.SX.G
