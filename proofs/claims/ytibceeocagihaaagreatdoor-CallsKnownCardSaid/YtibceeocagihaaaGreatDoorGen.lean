/- The compiled texts of the functions that are walked here, each checked against the loaded program; facts on its types. Printed by a program of this session. -/
import Derived.Test.YtibceeocagihaaaGreatDoorSxSimp
import Derived.Test.YtibceeocagihaaaGreatDoorProg
set_option linter.unusedVariables false
namespace Go.SX.G
open Go Go.SX Go.Proofs
theorem mixed : Tryz.prog.follows .mixedOrders = true := by kernel_rfl
theorem ar79 : arE Tryz.prog 79 = some (32, 22, 1) := by kernel_rfl
theorem by22 : byP Tryz.prog 22 = some 8 := by kernel_rfl
theorem fo57_1 : foff Tryz.prog 57 1 = some 1 := by kernel_rfl
theorem fo83_0 : foff Tryz.prog 83 0 = some 0 := by kernel_rfl
theorem fo83_1 : foff Tryz.prog 83 1 = some 1 := by kernel_rfl
theorem fo89_0 : foff Tryz.prog 89 0 = some 0 := by kernel_rfl
theorem fo89_1 : foff Tryz.prog 89 1 = some 1 := by kernel_rfl
theorem fo89_2 : foff Tryz.prog 89 2 = some 7 := by kernel_rfl
theorem fo94_0 : foff Tryz.prog 94 0 = some 0 := by kernel_rfl
theorem fo94_1 : foff Tryz.prog 94 1 = some 1 := by kernel_rfl
theorem pl34_0 : place Tryz.prog 34 0 = some (0, 1) := by kernel_rfl
theorem pl34_1 : place Tryz.prog 34 1 = some (1, 6) := by kernel_rfl
theorem pl34_2 : place Tryz.prog 34 2 = some (7, 1) := by kernel_rfl
theorem pl89_0 : place Tryz.prog 89 0 = some (0, 1) := by kernel_rfl
theorem pl89_1 : place Tryz.prog 89 1 = some (1, 6) := by kernel_rfl
theorem sd34 : sized Tryz.prog 34 = true := by kernel_rfl
theorem sd89 : sized Tryz.prog 89 = true := by kernel_rfl
theorem sh22 : shP Tryz.prog 22 = some .one := by kernel_rfl
theorem sh23 : shP Tryz.prog 23 = some .one := by kernel_rfl
theorem sh27 : shP Tryz.prog 27 = some (.agg 3) := by kernel_rfl
theorem sh3 : shP Tryz.prog 3 = some .one := by kernel_rfl
theorem sh32 : shP Tryz.prog 32 = some (.agg 6) := by kernel_rfl
theorem sh51 : shP Tryz.prog 51 = some .one := by kernel_rfl
theorem sh83 : shP Tryz.prog 83 = some (.agg 35) := by kernel_rfl
theorem sh87 : shP Tryz.prog 87 = some .one := by kernel_rfl
theorem sl86 : slE Tryz.prog 86 = some (22, 1) := by kernel_rfl
theorem sz22 : szP Tryz.prog 22 = some 1 := by kernel_rfl
theorem sz83 : szP Tryz.prog 83 = some 35 := by kernel_rfl
theorem zc34 : zc Tryz.prog 34 = some [(.int .u64 0), (.int .u64 0), (.int .u64 0), (.int .u64 0), (.int .u64 0), (.int .u64 0), (.int .u64 0), (.int .u64 0)] := by kernel_rfl
theorem zc83 : zc Tryz.prog 83 = some [(.int .u64 0), (.int .u64 0), (.int .u64 0), (.int .u64 0), (.int .u64 0), (.int .u64 0), (.int .u64 0), (.int .u64 0), (.int .u64 0), (.int .u64 0), (.int .u64 0), (.int .u64 0), (.int .u64 0), (.int .u64 0), (.int .u64 0), (.int .u64 0), (.int .u64 0), (.int .u64 0), (.int .u64 0), (.int .u64 0), (.int .u64 0), (.int .u64 0), (.int .u64 0), (.int .u64 0), (.int .u64 0), (.int .u64 0), (.int .u64 0), (.int .u64 0), (.int .u64 0), (.int .u64 0), (.int .u64 0), (.int .u64 0), (.int .u64 0), (.int .u64 0), (.int .i64 0)] := by kernel_rfl
theorem zc89 : zc Tryz.prog 89 = some [(.pointer none), (.int .u64 0), (.int .u64 0), (.int .u64 0), (.int .u64 0), (.int .u64 0), (.int .u64 0), (.pointer none)] := by kernel_rfl
theorem ze22 : zeroP Tryz.prog 22 = some (.int .u64 0) := by kernel_rfl
-- marionette/marionettelaw25.CallsKnown
abbrev kp4 : List Nat := [2]
def s4 : SC :=
 .seq (.ops [⟨some 2, .assign (.const (.bool false)), false, none⟩]) <|
 .seq (.keep [0]) <|
 .seq (.ops [⟨some 3, .call ⟨.value (.func 18), #[(.const (.pointer none))], #[23]⟩, true, none⟩]) <|
 .seq (.keep [0]) <|
 .seq (.ops [⟨some 4, .call ⟨.value (.func 19), #[], #[]⟩, true, none⟩,
  ⟨some 5, .move (.tmp 4), false, none⟩,
  ⟨some 6, .move (.tmp 0), false, some (5, true)⟩,
  ⟨some 7, .call ⟨.value (.func 20), #[(.tmp 6)], #[22]⟩, true, some (5, true)⟩,
  ⟨some 8, .move (.tmp 0), false, some (5, true)⟩,
  ⟨some 9, .call ⟨.value (.func 21), #[(.tmp 8)], #[22]⟩, true, some (5, true)⟩,
  ⟨some 10, .binOp .eql 4 (.tmp 7) (.tmp 9) 4, false, some (5, true)⟩,
  ⟨some 11, .pick (.tmp 5) (.tmp 10) (.const (.bool false)), false, none⟩,
  ⟨some 2, .assign (.tmp 11), false, none⟩]) <|
 .seq (.keep [2]) <|
 .ret
theorem c4 : Tryz.f4.body.map (fun c => ((compile Tryz.prog kp4 [] kp4 c).map (·.1), fits Tryz.f4.ntmps c)) = some (some s4, true) := by kernel_rfl
theorem r4 : Tryz.f4.results.toList = [.tmp 2] := by kernel_rfl
-- marionette/calls.Do
abbrev kp18 : List Nat := []
def s18 : SC :=
 .seq (.seq (.ops [⟨some 8, .move (.tmp 0), false, none⟩,
  ⟨some 9, .binOp .eql 23 (.tmp 8) (.const (.pointer none)) 23, false, none⟩]) <|
 .seq (.keep [0, 9]) <|
 .cond (.tmp 9) (.ret) <|
 .skip) <|
 .seq (.keep [0]) <|
 .seq (.ops [⟨some 10, .move (.tmp 0), false, none⟩,
  ⟨some 11, .nilCheck (.tmp 10), false, none⟩,
  ⟨some 12, .fieldAddr 57 (.tmp 11) 1, false, none⟩,
  ⟨some 13, .load 51 (.tmp 12), false, none⟩,
  ⟨some 14, .call ⟨.value (.func 35), #[(.tmp 13)], #[51]⟩, true, none⟩,
  ⟨some 2, .alloc 83, true, none⟩,
  ⟨none, .store 83 (.tmp 2) (.tmp 14), true, none⟩]) <|
 .seq (.keep [0, 2]) <|
 .seq (.ops [⟨some 15, .move (.tmp 0), false, none⟩,
  ⟨some 16, .fieldAddr 83 (.tmp 2) 1, false, none⟩,
  ⟨some 17, .slice 79 (.tmp 16) (some (.const (.int .i64 10))) (some (.const (.int .i64 16))) none, false, none⟩,
  ⟨some 18, .sliceToArrayPointer 32 (.tmp 17), true, none⟩,
  ⟨some 19, .load 32 (.tmp 18), false, none⟩,
  ⟨some 20, .build 89 #[(0, (.tmp 15)), (1, (.tmp 19))], false, none⟩,
  ⟨some 21, .box 89 (.tmp 20), true, none⟩,
  ⟨some 3, .assign (.tmp 21), false, none⟩]) <|
 .seq (.keep [0, 2, 3]) <|
 .seq (.ops [⟨some 22, .fieldAddr 83 (.tmp 2) 1, false, none⟩,
  ⟨some 23, .indexAddr 79 (.tmp 22) (.const (.int .i64 17)), false, none⟩,
  ⟨some 24, .load 22 (.tmp 23), false, none⟩,
  ⟨some 4, .assign (.tmp 24), false, none⟩]) <|
 .seq (.keep [0, 2, 3, 4]) <|
 .seq (.ops [⟨some 25, .fieldAddr 83 (.tmp 2) 0, false, none⟩,
  ⟨some 26, .load 22 (.tmp 25), false, none⟩,
  ⟨some 27, .binOp .add 22 (.tmp 26) (.const (.int .u64 4)) 22, false, none⟩,
  ⟨some 28, .fieldAddr 83 (.tmp 2) 0, false, none⟩,
  ⟨none, .store 22 (.tmp 28) (.tmp 27), true, none⟩]) <|
 .seq (.keep [0, 2, 3, 4]) <|
 .seq (.seq (.ops [⟨some 29, .move (.tmp 0), false, none⟩]) <|
 .seq (.ops [⟨some 30, .nilCheck (.tmp 29), false, none⟩]) <|
 .seq (.ops [⟨some 31, .fieldAddr 57 (.tmp 30) 1, false, none⟩]) <|
 .seq (.ops [⟨some 32, .load 51 (.tmp 31), false, none⟩]) <|
 .seq (.ops [⟨some 33, .load 83 (.tmp 2), false, none⟩]) <|
 .seq (.ops [⟨some 34, .call ⟨.value (.func 36), #[(.tmp 32), (.tmp 33)], #[51, 83]⟩, true, none⟩]) <|
 .skip) <|
 .seq (.keep [0, 2, 3, 4]) <|
 .seq (.ops [⟨some 35, .move (.tmp 0), false, none⟩,
  ⟨some 36, .call ⟨.value (.func 5), #[(.tmp 35)], #[23]⟩, true, none⟩]) <|
 .seq (.keep [0, 2, 3, 4]) <|
 .seq (.ops [⟨some 38, .move (.tmp 3), false, none⟩,
  ⟨some 39, .move (.tmp 4), false, none⟩,
  ⟨some 40, .call ⟨.value (.func 37), #[(.tmp 38), (.tmp 39)], #[85, 22]⟩, true, none⟩,
  ⟨some 37, .move (.tmp 40), false, none⟩,
  ⟨some 41, .extract (.tmp 37) 0, false, none⟩,
  ⟨some 42, .extract (.tmp 37) 1, false, none⟩,
  ⟨some 5, .assign (.tmp 41), false, none⟩,
  ⟨some 6, .assign (.tmp 42), false, none⟩]) <|
 .seq (.keep [0, 2, 3, 4, 5, 6]) <|
 .seq (.ops [⟨some 43, .move (.tmp 0), false, none⟩,
  ⟨some 44, .nilCheck (.tmp 43), false, none⟩,
  ⟨some 45, .fieldAddr 57 (.tmp 44) 1, false, none⟩,
  ⟨some 46, .load 51 (.tmp 45), false, none⟩,
  ⟨some 47, .call ⟨.value (.func 35), #[(.tmp 46)], #[51]⟩, true, none⟩,
  ⟨none, .store 83 (.tmp 2) (.tmp 47), true, none⟩]) <|
 .seq (.keep [0, 2, 3, 4, 5, 6]) <|
 .seq (.seq (.ops [⟨some 48, .move (.tmp 4), false, none⟩,
  ⟨some 49, .binOp .neq 22 (.tmp 48) (.const (.int .u64 139)) 22, false, none⟩,
  ⟨some 50, .move (.tmp 49), false, none⟩,
  ⟨some 51, .move (.tmp 6), false, some (50, false)⟩,
  ⟨some 52, .binOp .neq 59 (.tmp 51) (.const (.int .i64 0)) 59, false, some (50, false)⟩,
  ⟨some 53, .pick (.tmp 50) (.const (.bool true)) (.tmp 52), false, none⟩]) <|
 .seq (.keep [0, 2, 3, 4, 5, 6, 53]) <|
 .cond (.tmp 53) (.seq (.ops [⟨some 54, .move (.tmp 5), false, none⟩,
  ⟨some 55, .convert 3 22 (.tmp 54), false, none⟩,
  ⟨some 7, .assign (.tmp 55), false, none⟩]) <|
 .seq (.keep [0, 2, 3, 4, 6, 7]) <|
 .seq (.seq (.ops [⟨some 56, .move (.tmp 6), false, none⟩,
  ⟨some 57, .binOp .neq 59 (.tmp 56) (.const (.int .i64 0)) 59, false, none⟩]) <|
 .seq (.keep [0, 2, 3, 4, 6, 7, 57]) <|
 .cond (.tmp 57) (.ops [⟨some 58, .move (.tmp 6), false, none⟩,
  ⟨some 59, .convert 59 22 (.tmp 58), false, none⟩,
  ⟨some 60, .unOp .neg 22 (.tmp 59), false, none⟩,
  ⟨some 7, .assign (.tmp 60), false, none⟩]) <|
 .skip) <|
 .seq (.keep [0, 2, 3, 4, 6, 7]) <|
 .ops [⟨some 61, .move (.tmp 7), false, none⟩,
  ⟨some 62, .fieldAddr 83 (.tmp 2) 1, false, none⟩,
  ⟨some 63, .indexAddr 79 (.tmp 62) (.const (.int .i64 10)), false, none⟩,
  ⟨none, .store 22 (.tmp 63) (.tmp 61), true, none⟩]) <|
 .skip) <|
 .seq (.keep [0, 2, 3, 4, 6]) <|
 .seq (.seq (.ops [⟨some 64, .move (.tmp 4), false, none⟩,
  ⟨some 65, .binOp .eql 22 (.tmp 64) (.const (.int .u64 139)) 22, false, none⟩,
  ⟨some 66, .move (.tmp 65), false, none⟩,
  ⟨some 67, .move (.tmp 6), false, some (66, true)⟩,
  ⟨some 68, .binOp .neq 59 (.tmp 67) (.const (.int .i64 0)) 59, false, some (66, true)⟩,
  ⟨some 69, .pick (.tmp 66) (.tmp 68) (.const (.bool false)), false, none⟩]) <|
 .seq (.keep [0, 2, 3, 4, 69]) <|
 .cond (.tmp 69) (.seq (.ops [⟨some 70, .move (.tmp 0), false, none⟩,
  ⟨some 71, .call ⟨.value (.func 6), #[(.tmp 70), (.const (.int .i64 11)), (.const (.int .u64 0))], #[23, 3, 22]⟩, true, none⟩]) <|
 .seq (.keep [0, 2, 3, 4]) <|
 .ops [⟨some 72, .move (.tmp 0), false, none⟩,
  ⟨some 73, .nilCheck (.tmp 72), false, none⟩,
  ⟨some 74, .fieldAddr 57 (.tmp 73) 1, false, none⟩,
  ⟨some 75, .load 51 (.tmp 74), false, none⟩,
  ⟨some 76, .call ⟨.value (.func 35), #[(.tmp 75)], #[51]⟩, true, none⟩,
  ⟨none, .store 83 (.tmp 2) (.tmp 76), true, none⟩]) <|
 .seq (.ops [⟨some 77, .move (.tmp 0), false, none⟩]) <|
 .seq (.ops [⟨some 78, .nilCheck (.tmp 77), false, none⟩]) <|
 .seq (.ops [⟨some 79, .fieldAddr 57 (.tmp 78) 1, false, none⟩]) <|
 .seq (.ops [⟨some 80, .load 51 (.tmp 79), false, none⟩]) <|
 .seq (.ops [⟨some 81, .load 83 (.tmp 2), false, none⟩]) <|
 .seq (.ops [⟨some 82, .call ⟨.value (.func 36), #[(.tmp 80), (.tmp 81)], #[51, 83]⟩, true, none⟩]) <|
 .skip) <|
 .seq (.keep [0, 2, 3, 4]) <|
 .seq (.seq (.ops [⟨some 83, .move (.tmp 0), false, none⟩]) <|
 .seq (.ops [⟨some 84, .move (.tmp 4), false, none⟩]) <|
 .seq (.ops [⟨some 85, .move (.tmp 3), false, none⟩]) <|
 .seq (.ops [⟨some 86, .nilCheck (.tmp 85), false, none⟩]) <|
 .seq (.ops [⟨some 87, .fieldAddr 89 (.tmp 86) 1, false, none⟩]) <|
 .seq (.ops [⟨some 88, .load 32 (.tmp 87), false, none⟩]) <|
 .seq (.ops [⟨some 89, .fieldAddr 83 (.tmp 2) 1, false, none⟩]) <|
 .seq (.ops [⟨some 90, .indexAddr 79 (.tmp 89) (.const (.int .i64 10)), false, none⟩]) <|
 .seq (.ops [⟨some 91, .load 22 (.tmp 90), false, none⟩]) <|
 .seq (.ops [⟨some 92, .build 34 #[(0, (.tmp 84)), (1, (.tmp 88)), (2, (.tmp 91))], false, none⟩]) <|
 .seq (.ops [⟨some 93, .call ⟨.value (.func 10), #[(.tmp 83), (.tmp 92)], #[23, 34]⟩, true, none⟩]) <|
 .skip) <|
 .seq (.keep [3]) <|
 .seq (.seq (.ops [⟨some 94, .move (.tmp 3), false, none⟩,
  ⟨some 95, .nilCheck (.tmp 94), false, none⟩,
  ⟨some 96, .fieldAddr 89 (.tmp 95) 2, false, none⟩,
  ⟨some 97, .load 87 (.tmp 96), false, none⟩,
  ⟨some 98, .binOp .neq 87 (.tmp 97) (.const (.pointer none)) 87, false, none⟩]) <|
 .seq (.keep [3, 98]) <|
 .cond (.tmp 98) (.seq (.ops [⟨some 99, .move (.tmp 3), false, none⟩]) <|
 .seq (.ops [⟨some 100, .nilCheck (.tmp 99), false, none⟩]) <|
 .seq (.ops [⟨some 101, .fieldAddr 89 (.tmp 100) 0, false, none⟩]) <|
 .seq (.ops [⟨some 102, .load 23 (.tmp 101), false, none⟩]) <|
 .seq (.ops [⟨some 103, .move (.tmp 3), false, none⟩]) <|
 .seq (.ops [⟨some 104, .nilCheck (.tmp 103), false, none⟩]) <|
 .seq (.ops [⟨some 105, .fieldAddr 89 (.tmp 104) 2, false, none⟩]) <|
 .seq (.ops [⟨some 106, .load 87 (.tmp 105), false, none⟩]) <|
 .seq (.ops [⟨some 107, .nilCheck (.tmp 106), false, none⟩]) <|
 .seq (.ops [⟨some 108, .fieldAddr 94 (.tmp 107) 0, false, none⟩]) <|
 .seq (.ops [⟨some 109, .load 3 (.tmp 108), false, none⟩]) <|
 .seq (.ops [⟨some 110, .move (.tmp 3), false, none⟩]) <|
 .seq (.ops [⟨some 111, .nilCheck (.tmp 110), false, none⟩]) <|
 .seq (.ops [⟨some 112, .fieldAddr 89 (.tmp 111) 2, false, none⟩]) <|
 .seq (.ops [⟨some 113, .load 87 (.tmp 112), false, none⟩]) <|
 .seq (.ops [⟨some 114, .nilCheck (.tmp 113), false, none⟩]) <|
 .seq (.ops [⟨some 115, .fieldAddr 94 (.tmp 114) 1, false, none⟩]) <|
 .seq (.ops [⟨some 116, .load 27 (.tmp 115), false, none⟩]) <|
 .seq (.ops [⟨some 117, .call ⟨.value (.func 8), #[(.tmp 102), (.tmp 109), (.tmp 116)], #[23, 3, 27]⟩, true, none⟩]) <|
 .skip) <|
 .skip) <|
 .seq (.keep [3]) <|
 .ops [⟨some 118, .move (.tmp 3), false, none⟩,
  ⟨some 119, .nilCheck (.tmp 118), false, none⟩,
  ⟨some 120, .fieldAddr 89 (.tmp 119) 0, false, none⟩,
  ⟨some 121, .load 23 (.tmp 120), false, none⟩,
  ⟨some 122, .call ⟨.value (.func 7), #[(.tmp 121)], #[23]⟩, true, none⟩]
theorem c18 : Tryz.f18.body.map (fun c => ((compile Tryz.prog kp18 [] kp18 c).map (·.1), fits Tryz.f18.ntmps c)) = some (some s18, true) := by kernel_rfl
theorem r18 : Tryz.f18.results.toList = [] := by kernel_rfl
-- marionette/marionettelaw25.answers
abbrev kp19 : List Nat := [0]
def s19 : SC :=
 .seq (.ops [⟨some 0, .assign (.const (.bool false)), false, none⟩]) <|
 .seq (.keep []) <|
 .seq (.ops [⟨some 1, .call ⟨.value (.func 20), #[(.const (.int .u64 93))], #[22]⟩, true, none⟩,
  ⟨some 2, .move (.tmp 1), false, none⟩,
  ⟨some 3, .call ⟨.value (.func 20), #[(.const (.int .u64 1))], #[22]⟩, true, some (2, true)⟩,
  ⟨some 4, .unOp .not 4 (.tmp 3), false, some (2, true)⟩,
  ⟨some 5, .pick (.tmp 2) (.tmp 4) (.const (.bool false)), false, none⟩,
  ⟨some 0, .assign (.tmp 5), false, none⟩]) <|
 .seq (.keep [0]) <|
 .ret
theorem c19 : Tryz.f19.body.map (fun c => ((compile Tryz.prog kp19 [] kp19 c).map (·.1), fits Tryz.f19.ntmps c)) = some (some s19, true) := by kernel_rfl
theorem r19 : Tryz.f19.results.toList = [.tmp 0] := by kernel_rfl
-- marionette/calls.Known
abbrev kp20 : List Nat := [2]
def s20 : SC :=
 .seq (.ops [⟨some 2, .assign (.const (.bool false)), false, none⟩]) <|
 .seq (.keep [0]) <|
 .seq (.seq (.ops [⟨some 3, .move (.tmp 0), false, none⟩]) <|
 .seq (.keep [0, 3]) <|
 .block 0 <| .seq (.seq (.ops [⟨some 5, .binOp .eql 22 (.tmp 3) (.const (.int .u64 17)) 22, false, none⟩,
  ⟨some 4, .assign (.tmp 5), false, none⟩]) <|
 .seq (.keep [0, 3, 4]) <|
 .cond (.tmp 4) (.skip) <|
 .seq (.ops [⟨some 6, .binOp .eql 22 (.tmp 3) (.const (.int .u64 23)) 22, false, none⟩,
  ⟨some 4, .assign (.tmp 6), false, none⟩]) <|
 .seq (.keep [0, 3, 4]) <|
 .cond (.tmp 4) (.skip) <|
 .seq (.ops [⟨some 7, .binOp .eql 22 (.tmp 3) (.const (.int .u64 24)) 22, false, none⟩,
  ⟨some 4, .assign (.tmp 7), false, none⟩]) <|
 .seq (.keep [0, 3, 4]) <|
 .cond (.tmp 4) (.skip) <|
 .seq (.ops [⟨some 8, .binOp .eql 22 (.tmp 3) (.const (.int .u64 25)) 22, false, none⟩,
  ⟨some 4, .assign (.tmp 8), false, none⟩]) <|
 .seq (.keep [0, 3, 4]) <|
 .cond (.tmp 4) (.skip) <|
 .seq (.ops [⟨some 9, .binOp .eql 22 (.tmp 3) (.const (.int .u64 29)) 22, false, none⟩,
  ⟨some 4, .assign (.tmp 9), false, none⟩]) <|
 .seq (.keep [0, 3, 4]) <|
 .cond (.tmp 4) (.skip) <|
 .seq (.ops [⟨some 10, .binOp .eql 22 (.tmp 3) (.const (.int .u64 34)) 22, false, none⟩,
  ⟨some 4, .assign (.tmp 10), false, none⟩]) <|
 .seq (.keep [0, 3, 4]) <|
 .cond (.tmp 4) (.skip) <|
 .seq (.ops [⟨some 11, .binOp .eql 22 (.tmp 3) (.const (.int .u64 35)) 22, false, none⟩,
  ⟨some 4, .assign (.tmp 11), false, none⟩]) <|
 .seq (.keep [0, 3, 4]) <|
 .cond (.tmp 4) (.skip) <|
 .seq (.ops [⟨some 12, .binOp .eql 22 (.tmp 3) (.const (.int .u64 36)) 22, false, none⟩,
  ⟨some 4, .assign (.tmp 12), false, none⟩]) <|
 .seq (.keep [0, 3, 4]) <|
 .cond (.tmp 4) (.skip) <|
 .seq (.ops [⟨some 13, .binOp .eql 22 (.tmp 3) (.const (.int .u64 37)) 22, false, none⟩,
  ⟨some 4, .assign (.tmp 13), false, none⟩]) <|
 .seq (.keep [0, 3, 4]) <|
 .cond (.tmp 4) (.skip) <|
 .seq (.ops [⟨some 14, .binOp .eql 22 (.tmp 3) (.const (.int .u64 38)) 22, false, none⟩,
  ⟨some 4, .assign (.tmp 14), false, none⟩]) <|
 .seq (.keep [0, 3, 4]) <|
 .cond (.tmp 4) (.skip) <|
 .seq (.ops [⟨some 15, .binOp .eql 22 (.tmp 3) (.const (.int .u64 45)) 22, false, none⟩,
  ⟨some 4, .assign (.tmp 15), false, none⟩]) <|
 .seq (.keep [0, 3, 4]) <|
 .cond (.tmp 4) (.skip) <|
 .seq (.ops [⟨some 16, .binOp .eql 22 (.tmp 3) (.const (.int .u64 46)) 22, false, none⟩,
  ⟨some 4, .assign (.tmp 16), false, none⟩]) <|
 .seq (.keep [0, 3, 4]) <|
 .cond (.tmp 4) (.skip) <|
 .seq (.ops [⟨some 17, .binOp .eql 22 (.tmp 3) (.const (.int .u64 48)) 22, false, none⟩,
  ⟨some 4, .assign (.tmp 17), false, none⟩]) <|
 .seq (.keep [0, 3, 4]) <|
 .cond (.tmp 4) (.skip) <|
 .seq (.ops [⟨some 18, .binOp .eql 22 (.tmp 3) (.const (.int .u64 49)) 22, false, none⟩,
  ⟨some 4, .assign (.tmp 18), false, none⟩]) <|
 .seq (.keep [0, 3, 4]) <|
 .cond (.tmp 4) (.skip) <|
 .seq (.ops [⟨some 19, .binOp .eql 22 (.tmp 3) (.const (.int .u64 50)) 22, false, none⟩,
  ⟨some 4, .assign (.tmp 19), false, none⟩]) <|
 .seq (.keep [0, 3, 4]) <|
 .cond (.tmp 4) (.skip) <|
 .seq (.ops [⟨some 20, .binOp .eql 22 (.tmp 3) (.const (.int .u64 52)) 22, false, none⟩,
  ⟨some 4, .assign (.tmp 20), false, none⟩]) <|
 .seq (.keep [0, 3, 4]) <|
 .cond (.tmp 4) (.skip) <|
 .seq (.ops [⟨some 21, .binOp .eql 22 (.tmp 3) (.const (.int .u64 53)) 22, false, none⟩,
  ⟨some 4, .assign (.tmp 21), false, none⟩]) <|
 .seq (.keep [0, 3, 4]) <|
 .cond (.tmp 4) (.skip) <|
 .seq (.ops [⟨some 22, .binOp .eql 22 (.tmp 3) (.const (.int .u64 56)) 22, false, none⟩,
  ⟨some 4, .assign (.tmp 22), false, none⟩]) <|
 .seq (.keep [0, 3, 4]) <|
 .cond (.tmp 4) (.skip) <|
 .seq (.ops [⟨some 23, .binOp .eql 22 (.tmp 3) (.const (.int .u64 57)) 22, false, none⟩,
  ⟨some 4, .assign (.tmp 23), false, none⟩]) <|
 .seq (.keep [0, 3, 4]) <|
 .cond (.tmp 4) (.skip) <|
 .seq (.ops [⟨some 24, .binOp .eql 22 (.tmp 3) (.const (.int .u64 59)) 22, false, none⟩,
  ⟨some 4, .assign (.tmp 24), false, none⟩]) <|
 .seq (.keep [0, 3, 4]) <|
 .cond (.tmp 4) (.skip) <|
 .seq (.ops [⟨some 25, .binOp .eql 22 (.tmp 3) (.const (.int .u64 61)) 22, false, none⟩,
  ⟨some 4, .assign (.tmp 25), false, none⟩]) <|
 .seq (.keep [0, 3, 4]) <|
 .cond (.tmp 4) (.skip) <|
 .seq (.ops [⟨some 26, .binOp .eql 22 (.tmp 3) (.const (.int .u64 62)) 22, false, none⟩,
  ⟨some 4, .assign (.tmp 26), false, none⟩]) <|
 .seq (.keep [0, 3, 4]) <|
 .cond (.tmp 4) (.skip) <|
 .seq (.ops [⟨some 27, .binOp .eql 22 (.tmp 3) (.const (.int .u64 63)) 22, false, none⟩,
  ⟨some 4, .assign (.tmp 27), false, none⟩]) <|
 .seq (.keep [0, 3, 4]) <|
 .cond (.tmp 4) (.skip) <|
 .seq (.ops [⟨some 28, .binOp .eql 22 (.tmp 3) (.const (.int .u64 64)) 22, false, none⟩,
  ⟨some 4, .assign (.tmp 28), false, none⟩]) <|
 .seq (.keep [0, 3, 4]) <|
 .cond (.tmp 4) (.skip) <|
 .seq (.ops [⟨some 29, .binOp .eql 22 (.tmp 3) (.const (.int .u64 65)) 22, false, none⟩,
  ⟨some 4, .assign (.tmp 29), false, none⟩]) <|
 .seq (.keep [0, 3, 4]) <|
 .cond (.tmp 4) (.skip) <|
 .seq (.ops [⟨some 30, .binOp .eql 22 (.tmp 3) (.const (.int .u64 66)) 22, false, none⟩,
  ⟨some 4, .assign (.tmp 30), false, none⟩]) <|
 .seq (.keep [0, 3, 4]) <|
 .cond (.tmp 4) (.skip) <|
 .seq (.ops [⟨some 31, .binOp .eql 22 (.tmp 3) (.const (.int .u64 67)) 22, false, none⟩,
  ⟨some 4, .assign (.tmp 31), false, none⟩]) <|
 .seq (.keep [0, 3, 4]) <|
 .cond (.tmp 4) (.skip) <|
 .seq (.ops [⟨some 32, .binOp .eql 22 (.tmp 3) (.const (.int .u64 68)) 22, false, none⟩,
  ⟨some 4, .assign (.tmp 32), false, none⟩]) <|
 .seq (.keep [0, 3, 4]) <|
 .cond (.tmp 4) (.skip) <|
 .seq (.ops [⟨some 33, .binOp .eql 22 (.tmp 3) (.const (.int .u64 78)) 22, false, none⟩,
  ⟨some 4, .assign (.tmp 33), false, none⟩]) <|
 .seq (.keep [0, 3, 4]) <|
 .cond (.tmp 4) (.skip) <|
 .seq (.ops [⟨some 34, .binOp .eql 22 (.tmp 3) (.const (.int .u64 79)) 22, false, none⟩,
  ⟨some 4, .assign (.tmp 34), false, none⟩]) <|
 .seq (.keep [0, 3, 4]) <|
 .cond (.tmp 4) (.skip) <|
 .seq (.ops [⟨some 35, .binOp .eql 22 (.tmp 3) (.const (.int .u64 80)) 22, false, none⟩,
  ⟨some 4, .assign (.tmp 35), false, none⟩]) <|
 .seq (.keep [0, 3, 4]) <|
 .cond (.tmp 4) (.skip) <|
 .ops [⟨some 36, .binOp .eql 22 (.tmp 3) (.const (.int .u64 276)) 22, false, none⟩,
  ⟨some 4, .assign (.tmp 36), false, none⟩]) <|
 .seq (.keep [0, 3, 4]) <|
 .cond (.tmp 4) (.seq (.ops [⟨some 2, .assign (.const (.bool true)), false, none⟩]) <|
 .seq (.keep [2]) <|
 .ret) <|
 .seq (.seq (.ops [⟨some 38, .binOp .eql 22 (.tmp 3) (.const (.int .u64 93)) 22, false, none⟩,
  ⟨some 37, .assign (.tmp 38), false, none⟩]) <|
 .seq (.keep [0, 3, 37]) <|
 .cond (.tmp 37) (.skip) <|
 .seq (.ops [⟨some 39, .binOp .eql 22 (.tmp 3) (.const (.int .u64 94)) 22, false, none⟩,
  ⟨some 37, .assign (.tmp 39), false, none⟩]) <|
 .seq (.keep [0, 3, 37]) <|
 .cond (.tmp 37) (.skip) <|
 .seq (.ops [⟨some 40, .binOp .eql 22 (.tmp 3) (.const (.int .u64 96)) 22, false, none⟩,
  ⟨some 37, .assign (.tmp 40), false, none⟩]) <|
 .seq (.keep [0, 3, 37]) <|
 .cond (.tmp 37) (.skip) <|
 .seq (.ops [⟨some 41, .binOp .eql 22 (.tmp 3) (.const (.int .u64 101)) 22, false, none⟩,
  ⟨some 37, .assign (.tmp 41), false, none⟩]) <|
 .seq (.keep [0, 3, 37]) <|
 .cond (.tmp 37) (.skip) <|
 .seq (.ops [⟨some 42, .binOp .eql 22 (.tmp 3) (.const (.int .u64 102)) 22, false, none⟩,
  ⟨some 37, .assign (.tmp 42), false, none⟩]) <|
 .seq (.keep [0, 3, 37]) <|
 .cond (.tmp 37) (.skip) <|
 .seq (.ops [⟨some 43, .binOp .eql 22 (.tmp 3) (.const (.int .u64 103)) 22, false, none⟩,
  ⟨some 37, .assign (.tmp 43), false, none⟩]) <|
 .seq (.keep [0, 3, 37]) <|
 .cond (.tmp 37) (.skip) <|
 .seq (.ops [⟨some 44, .binOp .eql 22 (.tmp 3) (.const (.int .u64 113)) 22, false, none⟩,
  ⟨some 37, .assign (.tmp 44), false, none⟩]) <|
 .seq (.keep [0, 3, 37]) <|
 .cond (.tmp 37) (.skip) <|
 .seq (.ops [⟨some 45, .binOp .eql 22 (.tmp 3) (.const (.int .u64 124)) 22, false, none⟩,
  ⟨some 37, .assign (.tmp 45), false, none⟩]) <|
 .seq (.keep [0, 3, 37]) <|
 .cond (.tmp 37) (.skip) <|
 .seq (.ops [⟨some 46, .binOp .eql 22 (.tmp 3) (.const (.int .u64 129)) 22, false, none⟩,
  ⟨some 37, .assign (.tmp 46), false, none⟩]) <|
 .seq (.keep [0, 3, 37]) <|
 .cond (.tmp 37) (.skip) <|
 .seq (.ops [⟨some 47, .binOp .eql 22 (.tmp 3) (.const (.int .u64 130)) 22, false, none⟩,
  ⟨some 37, .assign (.tmp 47), false, none⟩]) <|
 .seq (.keep [0, 3, 37]) <|
 .cond (.tmp 37) (.skip) <|
 .seq (.ops [⟨some 48, .binOp .eql 22 (.tmp 3) (.const (.int .u64 131)) 22, false, none⟩,
  ⟨some 37, .assign (.tmp 48), false, none⟩]) <|
 .seq (.keep [0, 3, 37]) <|
 .cond (.tmp 37) (.skip) <|
 .seq (.ops [⟨some 49, .binOp .eql 22 (.tmp 3) (.const (.int .u64 132)) 22, false, none⟩,
  ⟨some 37, .assign (.tmp 49), false, none⟩]) <|
 .seq (.keep [0, 3, 37]) <|
 .cond (.tmp 37) (.skip) <|
 .seq (.ops [⟨some 50, .binOp .eql 22 (.tmp 3) (.const (.int .u64 133)) 22, false, none⟩,
  ⟨some 37, .assign (.tmp 50), false, none⟩]) <|
 .seq (.keep [0, 3, 37]) <|
 .cond (.tmp 37) (.skip) <|
 .seq (.ops [⟨some 51, .binOp .eql 22 (.tmp 3) (.const (.int .u64 134)) 22, false, none⟩,
  ⟨some 37, .assign (.tmp 51), false, none⟩]) <|
 .seq (.keep [0, 3, 37]) <|
 .cond (.tmp 37) (.skip) <|
 .seq (.ops [⟨some 52, .binOp .eql 22 (.tmp 3) (.const (.int .u64 135)) 22, false, none⟩,
  ⟨some 37, .assign (.tmp 52), false, none⟩]) <|
 .seq (.keep [0, 3, 37]) <|
 .cond (.tmp 37) (.skip) <|
 .seq (.ops [⟨some 53, .binOp .eql 22 (.tmp 3) (.const (.int .u64 136)) 22, false, none⟩,
  ⟨some 37, .assign (.tmp 53), false, none⟩]) <|
 .seq (.keep [0, 3, 37]) <|
 .cond (.tmp 37) (.skip) <|
 .seq (.ops [⟨some 54, .binOp .eql 22 (.tmp 3) (.const (.int .u64 139)) 22, false, none⟩,
  ⟨some 37, .assign (.tmp 54), false, none⟩]) <|
 .seq (.keep [0, 3, 37]) <|
 .cond (.tmp 37) (.skip) <|
 .seq (.ops [⟨some 55, .binOp .eql 22 (.tmp 3) (.const (.int .u64 160)) 22, false, none⟩,
  ⟨some 37, .assign (.tmp 55), false, none⟩]) <|
 .seq (.keep [0, 3, 37]) <|
 .cond (.tmp 37) (.skip) <|
 .seq (.ops [⟨some 56, .binOp .eql 22 (.tmp 3) (.const (.int .u64 163)) 22, false, none⟩,
  ⟨some 37, .assign (.tmp 56), false, none⟩]) <|
 .seq (.keep [0, 3, 37]) <|
 .cond (.tmp 37) (.skip) <|
 .seq (.ops [⟨some 57, .binOp .eql 22 (.tmp 3) (.const (.int .u64 166)) 22, false, none⟩,
  ⟨some 37, .assign (.tmp 57), false, none⟩]) <|
 .seq (.keep [0, 3, 37]) <|
 .cond (.tmp 37) (.skip) <|
 .seq (.ops [⟨some 58, .binOp .eql 22 (.tmp 3) (.const (.int .u64 169)) 22, false, none⟩,
  ⟨some 37, .assign (.tmp 58), false, none⟩]) <|
 .seq (.keep [0, 3, 37]) <|
 .cond (.tmp 37) (.skip) <|
 .seq (.ops [⟨some 59, .binOp .eql 22 (.tmp 3) (.const (.int .u64 172)) 22, false, none⟩,
  ⟨some 37, .assign (.tmp 59), false, none⟩]) <|
 .seq (.keep [0, 3, 37]) <|
 .cond (.tmp 37) (.skip) <|
 .seq (.ops [⟨some 60, .binOp .eql 22 (.tmp 3) (.const (.int .u64 173)) 22, false, none⟩,
  ⟨some 37, .assign (.tmp 60), false, none⟩]) <|
 .seq (.keep [0, 3, 37]) <|
 .cond (.tmp 37) (.skip) <|
 .seq (.ops [⟨some 61, .binOp .eql 22 (.tmp 3) (.const (.int .u64 178)) 22, false, none⟩,
  ⟨some 37, .assign (.tmp 61), false, none⟩]) <|
 .seq (.keep [0, 3, 37]) <|
 .cond (.tmp 37) (.skip) <|
 .seq (.ops [⟨some 62, .binOp .eql 22 (.tmp 3) (.const (.int .u64 214)) 22, false, none⟩,
  ⟨some 37, .assign (.tmp 62), false, none⟩]) <|
 .seq (.keep [0, 3, 37]) <|
 .cond (.tmp 37) (.skip) <|
 .seq (.ops [⟨some 63, .binOp .eql 22 (.tmp 3) (.const (.int .u64 215)) 22, false, none⟩,
  ⟨some 37, .assign (.tmp 63), false, none⟩]) <|
 .seq (.keep [0, 3, 37]) <|
 .cond (.tmp 37) (.skip) <|
 .seq (.ops [⟨some 64, .binOp .eql 22 (.tmp 3) (.const (.int .u64 222)) 22, false, none⟩,
  ⟨some 37, .assign (.tmp 64), false, none⟩]) <|
 .seq (.keep [0, 3, 37]) <|
 .cond (.tmp 37) (.skip) <|
 .seq (.ops [⟨some 65, .binOp .eql 22 (.tmp 3) (.const (.int .u64 226)) 22, false, none⟩,
  ⟨some 37, .assign (.tmp 65), false, none⟩]) <|
 .seq (.keep [0, 3, 37]) <|
 .cond (.tmp 37) (.skip) <|
 .seq (.ops [⟨some 66, .binOp .eql 22 (.tmp 3) (.const (.int .u64 261)) 22, false, none⟩,
  ⟨some 37, .assign (.tmp 66), false, none⟩]) <|
 .seq (.keep [0, 3, 37]) <|
 .cond (.tmp 37) (.skip) <|
 .ops [⟨some 67, .binOp .eql 22 (.tmp 3) (.const (.int .u64 278)) 22, false, none⟩,
  ⟨some 37, .assign (.tmp 67), false, none⟩]) <|
 .seq (.keep [0, 37]) <|
 .cond (.tmp 37) (.seq (.ops [⟨some 2, .assign (.const (.bool true)), false, none⟩]) <|
 .seq (.keep [2]) <|
 .ret) <|
 .skip) <|
 .seq (.keep [0]) <|
 .seq (.ops [⟨some 68, .move (.tmp 0), false, none⟩,
  ⟨some 69, .binOp .geq 22 (.tmp 68) (.const (.int .u64 174)) 22, false, none⟩,
  ⟨some 70, .move (.tmp 69), false, none⟩,
  ⟨some 71, .move (.tmp 0), false, some (70, true)⟩,
  ⟨some 72, .binOp .leq 22 (.tmp 71) (.const (.int .u64 177)) 22, false, some (70, true)⟩,
  ⟨some 73, .pick (.tmp 70) (.tmp 72) (.const (.bool false)), false, none⟩,
  ⟨some 2, .assign (.tmp 73), false, none⟩]) <|
 .seq (.keep [2]) <|
 .ret
theorem c20 : Tryz.f20.body.map (fun c => ((compile Tryz.prog kp20 [] kp20 c).map (·.1), fits Tryz.f20.ntmps c)) = some (some s20, true) := by kernel_rfl
theorem r20 : Tryz.f20.results.toList = [.tmp 2] := by kernel_rfl
-- marionette/marionettelaw25.known
abbrev kp21 : List Nat := [2]
def s21 : SC :=
 .seq (.ops [⟨some 2, .assign (.const (.bool false)), false, none⟩]) <|
 .seq (.keep [0]) <|
 .seq (.ops [⟨some 5, .buildSlice 86 66 #[(0, (.const (.int .u64 17))), (1, (.const (.int .u64 23))), (2, (.const (.int .u64 24))), (3, (.const (.int .u64 25))), (4, (.const (.int .u64 29))), (5, (.const (.int .u64 34))), (6, (.const (.int .u64 35))), (7, (.const (.int .u64 36))), (8, (.const (.int .u64 37))), (9, (.const (.int .u64 38))), (10, (.const (.int .u64 276))), (11, (.const (.int .u64 45))), (12, (.const (.int .u64 46))), (13, (.const (.int .u64 48))), (14, (.const (.int .u64 49))), (15, (.const (.int .u64 50))), (16, (.const (.int .u64 52))), (17, (.const (.int .u64 53))), (18, (.const (.int .u64 56))), (19, (.const (.int .u64 57))), (20, (.const (.int .u64 59))), (21, (.const (.int .u64 61))), (22, (.const (.int .u64 62))), (23, (.const (.int .u64 63))), (24, (.const (.int .u64 64))), (25, (.const (.int .u64 65))), (26, (.const (.int .u64 66))), (27, (.const (.int .u64 67))), (28, (.const (.int .u64 68))), (29, (.const (.int .u64 78))), (30, (.const (.int .u64 79))), (31, (.const (.int .u64 80))), (32, (.const (.int .u64 93))), (33, (.const (.int .u64 94))), (34, (.const (.int .u64 96))), (35, (.const (.int .u64 178))), (36, (.const (.int .u64 172))), (37, (.const (.int .u64 173))), (38, (.const (.int .u64 174))), (39, (.const (.int .u64 175))), (40, (.const (.int .u64 176))), (41, (.const (.int .u64 177))), (42, (.const (.int .u64 101))), (43, (.const (.int .u64 102))), (44, (.const (.int .u64 103))), (45, (.const (.int .u64 113))), (46, (.const (.int .u64 169))), (47, (.const (.int .u64 124))), (48, (.const (.int .u64 129))), (49, (.const (.int .u64 130))), (50, (.const (.int .u64 131))), (51, (.const (.int .u64 132))), (52, (.const (.int .u64 133))), (53, (.const (.int .u64 134))), (54, (.const (.int .u64 135))), (55, (.const (.int .u64 136))), (56, (.const (.int .u64 139))), (57, (.const (.int .u64 160))), (58, (.const (.int .u64 163))), (59, (.const (.int .u64 261))), (60, (.const (.int .u64 166))), (61, (.const (.int .u64 214))), (62, (.const (.int .u64 215))), (63, (.const (.int .u64 226))), (64, (.const (.int .u64 222))), (65, (.const (.int .u64 278)))], true, none⟩,
  ⟨some 3, .assign (.tmp 5), false, none⟩]) <|
 .seq (.keep [0, 3]) <|
 .seq (.seq (.ops [⟨some 4, .assign (.const (.int .i64 0)), false, none⟩]) <|
 .seq (.keep [0, 3, 4]) <|
 .block 0 <| .loop <| .seq (.seq (.seq (.ops [⟨some 6, .move (.tmp 4), false, none⟩,
  ⟨some 7, .move (.tmp 3), false, none⟩,
  ⟨some 8, .call ⟨.builtin .len, #[(.tmp 7)], #[86]⟩, false, none⟩,
  ⟨some 9, .binOp .lss 3 (.tmp 6) (.tmp 8) 3, false, none⟩]) <|
 .seq (.keep [0, 3, 4, 9]) <|
 .cond (.tmp 9) (.skip) <|
 .exit 0) <|
 .seq (.keep [0, 3, 4]) <|
 .seq (.block 1 <| .seq (.ops [⟨some 12, .move (.tmp 3), false, none⟩,
  ⟨some 13, .move (.tmp 4), false, none⟩,
  ⟨some 14, .indexAddr 86 (.tmp 12) (.tmp 13), false, none⟩,
  ⟨some 15, .load 22 (.tmp 14), false, none⟩,
  ⟨some 16, .move (.tmp 0), false, none⟩,
  ⟨some 17, .binOp .eql 22 (.tmp 15) (.tmp 16) 22, false, none⟩]) <|
 .seq (.keep [0, 3, 4, 17]) <|
 .cond (.tmp 17) (.seq (.ops [⟨some 2, .assign (.const (.bool true)), false, none⟩]) <|
 .seq (.keep [2]) <|
 .ret) <|
 .skip) <|
 .seq (.keep [0, 3, 4]) <|
 .ops [⟨some 10, .move (.tmp 4), false, none⟩,
  ⟨some 11, .binOp .add 3 (.tmp 10) (.const (.int .i64 1)) 3, false, none⟩,
  ⟨some 4, .assign (.tmp 11), false, none⟩]) <|
 .keep [0, 3, 4]) <|
 .seq (.keep []) <|
 .seq (.ops [⟨some 2, .assign (.const (.bool false)), false, none⟩]) <|
 .seq (.keep [2]) <|
 .ret
theorem c21 : Tryz.f21.body.map (fun c => ((compile Tryz.prog kp21 [] kp21 c).map (·.1), fits Tryz.f21.ntmps c)) = some (some s21, true) := by kernel_rfl
theorem r21 : Tryz.f21.results.toList = [.tmp 2] := by kernel_rfl
end Go.SX.G
