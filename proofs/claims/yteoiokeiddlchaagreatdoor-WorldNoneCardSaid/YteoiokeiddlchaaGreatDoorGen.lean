/- The compiled texts of the functions that are walked here, each checked against the loaded program; facts on its types. Printed by a program of this session. -/
import Derived.Test.YteoiokeiddlchaaGreatDoorSxSimp
import Derived.Test.YteoiokeiddlchaaGreatDoorProg
set_option linter.unusedVariables false
namespace Go.SX.G
open Go Go.SX Go.Proofs
theorem mixed : Tryz.prog.follows .mixedOrders = true := by kernel_rfl
theorem ar114 : arE Tryz.prog 114 = some (3, 3, 1) := by kernel_rfl
theorem ar117 : arE Tryz.prog 117 = some (3, 9, 1) := by kernel_rfl
theorem by34 : byP Tryz.prog 34 = some 64 := by kernel_rfl
theorem by5 : byP Tryz.prog 5 = some 1 := by kernel_rfl
theorem by78 : byP Tryz.prog 78 = some 16 := by kernel_rfl
theorem fo27_0 : foff Tryz.prog 27 0 = some 0 := by kernel_rfl
theorem fo55_0 : foff Tryz.prog 55 0 = some 0 := by kernel_rfl
theorem fo55_1 : foff Tryz.prog 55 1 = some 1 := by kernel_rfl
theorem fo55_2 : foff Tryz.prog 55 2 = some 2 := by kernel_rfl
theorem fo55_3 : foff Tryz.prog 55 3 = some 3 := by kernel_rfl
theorem fo55_4 : foff Tryz.prog 55 4 = some 4 := by kernel_rfl
theorem fo55_6 : foff Tryz.prog 55 6 = some 6 := by kernel_rfl
theorem fo55_7 : foff Tryz.prog 55 7 = some 7 := by kernel_rfl
theorem fo55_8 : foff Tryz.prog 55 8 = some 8 := by kernel_rfl
theorem fo55_9 : foff Tryz.prog 55 9 = some 10 := by kernel_rfl
theorem fo71_0 : foff Tryz.prog 71 0 = some 0 := by kernel_rfl
theorem fo71_1 : foff Tryz.prog 71 1 = some 1 := by kernel_rfl
theorem fo71_2 : foff Tryz.prog 71 2 = some 2 := by kernel_rfl
theorem fo71_3 : foff Tryz.prog 71 3 = some 3 := by kernel_rfl
theorem fo71_4 : foff Tryz.prog 71 4 = some 4 := by kernel_rfl
theorem fo71_5 : foff Tryz.prog 71 5 = some 5 := by kernel_rfl
theorem fo71_6 : foff Tryz.prog 71 6 = some 6 := by kernel_rfl
theorem fo71_7 : foff Tryz.prog 71 7 = some 7 := by kernel_rfl
theorem fo71_8 : foff Tryz.prog 71 8 = some 8 := by kernel_rfl
theorem fo78_0 : foff Tryz.prog 78 0 = some 0 := by kernel_rfl
theorem pl30_0 : place Tryz.prog 30 0 = some (0, 1) := by kernel_rfl
theorem pl30_1 : place Tryz.prog 30 1 = some (1, 1) := by kernel_rfl
theorem pl55_3 : place Tryz.prog 55 3 = some (3, 1) := by kernel_rfl
theorem pl55_4 : place Tryz.prog 55 4 = some (4, 1) := by kernel_rfl
theorem pl55_5 : place Tryz.prog 55 5 = some (5, 1) := by kernel_rfl
theorem pl55_6 : place Tryz.prog 55 6 = some (6, 1) := by kernel_rfl
theorem pl71_5 : place Tryz.prog 71 5 = some (5, 1) := by kernel_rfl
theorem sd114 : sized Tryz.prog 114 = true := by kernel_rfl
theorem sd117 : sized Tryz.prog 117 = true := by kernel_rfl
theorem sd27 : sized Tryz.prog 27 = true := by kernel_rfl
theorem sd30 : sized Tryz.prog 30 = true := by kernel_rfl
theorem sd34 : sized Tryz.prog 34 = true := by kernel_rfl
theorem sd55 : sized Tryz.prog 55 = true := by kernel_rfl
theorem sd71 : sized Tryz.prog 71 = true := by kernel_rfl
theorem sh109 : shP Tryz.prog 109 = some (.agg 16) := by kernel_rfl
theorem sh22 : shP Tryz.prog 22 = some .one := by kernel_rfl
theorem sh27 : shP Tryz.prog 27 = some (.agg 3) := by kernel_rfl
theorem sh3 : shP Tryz.prog 3 = some .one := by kernel_rfl
theorem sh30 : shP Tryz.prog 30 = some (.agg 2) := by kernel_rfl
theorem sh34 : shP Tryz.prog 34 = some (.agg 8) := by kernel_rfl
theorem sh39 : shP Tryz.prog 39 = some .one := by kernel_rfl
theorem sh4 : shP Tryz.prog 4 = some .one := by kernel_rfl
theorem sh41 : shP Tryz.prog 41 = some .one := by kernel_rfl
theorem sh49 : shP Tryz.prog 49 = some .one := by kernel_rfl
theorem sh50 : shP Tryz.prog 50 = some .one := by kernel_rfl
theorem sh51 : shP Tryz.prog 51 = some .one := by kernel_rfl
theorem sh52 : shP Tryz.prog 52 = some .one := by kernel_rfl
theorem sh53 : shP Tryz.prog 53 = some .one := by kernel_rfl
theorem sh68 : shP Tryz.prog 68 = some .one := by kernel_rfl
theorem sh69 : shP Tryz.prog 69 = some .one := by kernel_rfl
theorem sh71 : shP Tryz.prog 71 = some (.agg 9) := by kernel_rfl
theorem sh78 : shP Tryz.prog 78 = some (.agg 2) := by kernel_rfl
theorem sh95 : shP Tryz.prog 95 = some (.agg 35) := by kernel_rfl
theorem sl39 : slE Tryz.prog 39 = some (5, 1) := by kernel_rfl
theorem sl41 : slE Tryz.prog 41 = some (34, 8) := by kernel_rfl
theorem sl53 : slE Tryz.prog 53 = some (78, 2) := by kernel_rfl
theorem sz22 : szP Tryz.prog 22 = some 1 := by kernel_rfl
theorem sz27 : szP Tryz.prog 27 = some 3 := by kernel_rfl
theorem sz30 : szP Tryz.prog 30 = some 2 := by kernel_rfl
theorem sz34 : szP Tryz.prog 34 = some 8 := by kernel_rfl
theorem sz4 : szP Tryz.prog 4 = some 1 := by kernel_rfl
theorem sz41 : szP Tryz.prog 41 = some 1 := by kernel_rfl
theorem sz48 : szP Tryz.prog 48 = some 1 := by kernel_rfl
theorem sz49 : szP Tryz.prog 49 = some 1 := by kernel_rfl
theorem sz5 : szP Tryz.prog 5 = some 1 := by kernel_rfl
theorem sz50 : szP Tryz.prog 50 = some 1 := by kernel_rfl
theorem sz78 : szP Tryz.prog 78 = some 2 := by kernel_rfl
theorem sz95 : szP Tryz.prog 95 = some 35 := by kernel_rfl
theorem zc114 : zc Tryz.prog 114 = some [(.int .i64 0), (.int .i64 0), (.int .i64 0)] := by kernel_rfl
theorem zc117 : zc Tryz.prog 117 = some [(.string ⟨#[]⟩), (.string ⟨#[]⟩), (.string ⟨#[]⟩)] := by kernel_rfl
theorem zc27 : zc Tryz.prog 27 = some [(.int .u64 0), (.int .u64 0), (.int .u64 0)] := by kernel_rfl
theorem zc30 : zc Tryz.prog 30 = some [(.int .i64 0), (.int .i64 0)] := by kernel_rfl
theorem zc34 : zc Tryz.prog 34 = some [(.int .u64 0), (.int .u64 0), (.int .u64 0), (.int .u64 0), (.int .u64 0), (.int .u64 0), (.int .u64 0), (.int .u64 0)] := by kernel_rfl
theorem zc55 : zc Tryz.prog 55 = some [(.pointer none), (.pointer none), (.pointer none), (.pointer none), (.pointer none), (.slice none 0 0), (.int .u64 0), (.slice none 0 0), (.int .i64 0), (.int .i64 0), (.bool false)] := by kernel_rfl
theorem zc71 : zc Tryz.prog 71 = some [(.slice none 0 0), (.slice none 0 0), (.slice none 0 0), (.slice none 0 0), (.slice none 0 0), (.int .i64 0), (.int .i64 0), (.int .i64 0), (.bool false)] := by kernel_rfl
theorem zc78 : zc Tryz.prog 78 = some [(.int .i64 0), (.int .u64 0)] := by kernel_rfl
theorem zc95 : zc Tryz.prog 95 = some [(.int .u64 0), (.int .u64 0), (.int .u64 0), (.int .u64 0), (.int .u64 0), (.int .u64 0), (.int .u64 0), (.int .u64 0), (.int .u64 0), (.int .u64 0), (.int .u64 0), (.int .u64 0), (.int .u64 0), (.int .u64 0), (.int .u64 0), (.int .u64 0), (.int .u64 0), (.int .u64 0), (.int .u64 0), (.int .u64 0), (.int .u64 0), (.int .u64 0), (.int .u64 0), (.int .u64 0), (.int .u64 0), (.int .u64 0), (.int .u64 0), (.int .u64 0), (.int .u64 0), (.int .u64 0), (.int .u64 0), (.int .u64 0), (.int .u64 0), (.int .u64 0), (.int .i64 0)] := by kernel_rfl
theorem ze34 : zeroP Tryz.prog 34 = some (.agg #[(.int .u64 0), (.int .u64 0), (.int .u64 0), (.int .u64 0), (.int .u64 0), (.int .u64 0), (.int .u64 0), (.int .u64 0)]) := by kernel_rfl
theorem ze5 : zeroP Tryz.prog 5 = some (.int .u8 0) := by kernel_rfl
theorem ze78 : zeroP Tryz.prog 78 = some (.agg #[(.int .i64 0), (.int .u64 0)]) := by kernel_rfl
-- marionette/marionettelaw24.WorldNone
abbrev kp3 : List Nat := [4]
def s3 : SC :=
 .seq (.ops [⟨some 4, .assign (.const (.bool false)), false, none⟩]) <|
 .seq (.keep [0, 1]) <|
 .seq (.ops [⟨some 5, .assign (.const (.pointer none)), false, none⟩]) <|
 .seq (.keep [0, 1, 5]) <|
 .seq (.ops [⟨some 8, .move (.tmp 5), false, none⟩,
  ⟨some 9, .call ⟨.value (.func 4), #[(.tmp 8)], #[23]⟩, true, none⟩]) <|
 .seq (.keep [0, 1, 5]) <|
 .seq (.ops [⟨some 10, .move (.tmp 5), false, none⟩,
  ⟨some 11, .move (.tmp 0), false, none⟩,
  ⟨some 12, .move (.tmp 1), false, none⟩,
  ⟨some 13, .call ⟨.value (.func 5), #[(.tmp 10), (.tmp 11), (.tmp 12)], #[23, 3, 22]⟩, true, none⟩]) <|
 .seq (.keep [0, 5]) <|
 .seq (.ops [⟨some 14, .move (.tmp 5), false, none⟩,
  ⟨some 15, .call ⟨.value (.func 6), #[(.tmp 14)], #[23]⟩, true, none⟩]) <|
 .seq (.keep [0, 5]) <|
 .seq (.ops [⟨some 16, .move (.tmp 5), false, none⟩,
  ⟨some 17, .move (.tmp 0), false, none⟩,
  ⟨some 18, .build 27 #[], false, none⟩,
  ⟨some 19, .call ⟨.value (.func 7), #[(.tmp 16), (.tmp 17), (.tmp 18)], #[23, 3, 27]⟩, true, none⟩]) <|
 .seq (.keep [0, 5]) <|
 .seq (.ops [⟨some 20, .move (.tmp 5), false, none⟩,
  ⟨some 21, .build 30 #[(0, (.const (.int .i64 1)))], false, none⟩,
  ⟨some 22, .call ⟨.value (.func 8), #[(.tmp 20), (.tmp 21)], #[23, 30]⟩, true, none⟩]) <|
 .seq (.keep [0, 5]) <|
 .seq (.ops [⟨some 23, .move (.tmp 5), false, none⟩,
  ⟨some 24, .build 34 #[], false, none⟩,
  ⟨some 25, .call ⟨.value (.func 9), #[(.tmp 23), (.tmp 24)], #[23, 34]⟩, true, none⟩]) <|
 .seq (.keep [0, 5]) <|
 .seq (.ops [⟨some 27, .move (.tmp 5), false, none⟩,
  ⟨some 28, .call ⟨.value (.func 10), #[(.tmp 27)], #[23]⟩, true, none⟩,
  ⟨some 26, .move (.tmp 28), false, none⟩,
  ⟨some 29, .extract (.tmp 26) 0, false, none⟩,
  ⟨some 30, .extract (.tmp 26) 1, false, none⟩,
  ⟨some 6, .alloc 30, true, none⟩,
  ⟨none, .store 30 (.tmp 6) (.tmp 29), true, none⟩,
  ⟨some 7, .assign (.tmp 30), false, none⟩]) <|
 .seq (.keep [0, 5, 7]) <|
 .seq (.ops [⟨some 31, .call ⟨.value (.func 11), #[], #[]⟩, true, none⟩,
  ⟨some 32, .move (.tmp 31), false, none⟩,
  ⟨some 33, .move (.tmp 5), false, some (32, true)⟩,
  ⟨some 34, .move (.tmp 0), false, some (32, true)⟩,
  ⟨some 35, .call ⟨.value (.func 12), #[(.tmp 33), (.tmp 34)], #[23, 3]⟩, true, some (32, true)⟩,
  ⟨some 36, .binOp .eql 3 (.tmp 35) (.const (.int .i64 0)) 3, false, some (32, true)⟩,
  ⟨some 37, .pick (.tmp 32) (.tmp 36) (.const (.bool false)), false, none⟩,
  ⟨some 38, .move (.tmp 37), false, none⟩,
  ⟨some 39, .move (.tmp 5), false, some (38, true)⟩,
  ⟨some 40, .move (.tmp 0), false, some (38, true)⟩,
  ⟨some 41, .call ⟨.value (.func 13), #[(.tmp 39), (.tmp 40)], #[23, 3]⟩, true, some (38, true)⟩,
  ⟨some 42, .call ⟨.builtin .len, #[(.tmp 41)], #[39]⟩, false, some (38, true)⟩,
  ⟨some 43, .binOp .eql 3 (.tmp 42) (.const (.int .i64 0)) 3, false, some (38, true)⟩,
  ⟨some 44, .pick (.tmp 38) (.tmp 43) (.const (.bool false)), false, none⟩,
  ⟨some 45, .move (.tmp 44), false, none⟩,
  ⟨some 46, .move (.tmp 7), false, some (45, true)⟩,
  ⟨some 47, .unOp .not 4 (.tmp 46), false, some (45, true)⟩,
  ⟨some 48, .pick (.tmp 45) (.tmp 47) (.const (.bool false)), false, none⟩,
  ⟨some 49, .move (.tmp 48), false, none⟩,
  ⟨some 50, .move (.tmp 5), false, some (49, true)⟩,
  ⟨some 51, .call ⟨.value (.func 14), #[(.tmp 50)], #[23]⟩, true, some (49, true)⟩,
  ⟨some 52, .call ⟨.builtin .len, #[(.tmp 51)], #[41]⟩, false, some (49, true)⟩,
  ⟨some 53, .binOp .eql 3 (.tmp 52) (.const (.int .i64 0)) 3, false, some (49, true)⟩,
  ⟨some 54, .pick (.tmp 49) (.tmp 53) (.const (.bool false)), false, none⟩,
  ⟨some 55, .move (.tmp 54), false, none⟩,
  ⟨some 56, .move (.tmp 5), false, some (55, true)⟩,
  ⟨some 57, .call ⟨.value (.func 15), #[(.tmp 56)], #[23]⟩, true, some (55, true)⟩,
  ⟨some 58, .unOp .not 4 (.tmp 57), false, some (55, true)⟩,
  ⟨some 59, .pick (.tmp 55) (.tmp 58) (.const (.bool false)), false, none⟩,
  ⟨some 60, .move (.tmp 59), false, none⟩,
  ⟨some 61, .move (.tmp 5), false, some (60, true)⟩,
  ⟨some 62, .move (.tmp 0), false, some (60, true)⟩,
  ⟨some 63, .call ⟨.value (.func 16), #[(.tmp 61), (.tmp 62)], #[23, 3]⟩, true, some (60, true)⟩,
  ⟨some 64, .binOp .eql 3 (.tmp 63) (.const (.int .i64 0)) 3, false, some (60, true)⟩,
  ⟨some 65, .pick (.tmp 60) (.tmp 64) (.const (.bool false)), false, none⟩,
  ⟨some 4, .assign (.tmp 65), false, none⟩]) <|
 .seq (.keep [4]) <|
 .ret
theorem c3 : Tryz.f3.body.map (fun c => ((compile Tryz.prog kp3 [] kp3 c).map (·.1), fits Tryz.f3.ntmps c)) = some (some s3, true) := by kernel_rfl
theorem r3 : Tryz.f3.results.toList = [.tmp 4] := by kernel_rfl
-- (*marionette/world.Proc).Tick
abbrev kp4 : List Nat := []
def s4 : SC :=
 .seq (.seq (.ops [⟨some 6, .move (.tmp 0), false, none⟩,
  ⟨some 7, .binOp .eql 23 (.tmp 6) (.const (.pointer none)) 23, false, none⟩]) <|
 .seq (.keep [0, 7]) <|
 .cond (.tmp 7) (.ret) <|
 .skip) <|
 .seq (.keep [0]) <|
 .seq (.seq (.ops [⟨some 9, .move (.tmp 0), false, none⟩,
  ⟨some 10, .call ⟨.value (.func 17), #[(.tmp 9), (.const (.int .i64 2))], #[23, 3]⟩, true, none⟩,
  ⟨some 8, .move (.tmp 10), false, none⟩,
  ⟨some 11, .extract (.tmp 8) 0, false, none⟩,
  ⟨some 12, .extract (.tmp 8) 1, false, none⟩,
  ⟨some 2, .assign (.tmp 11), false, none⟩,
  ⟨some 3, .assign (.tmp 12), false, none⟩]) <|
 .seq (.keep [0, 2, 3]) <|
 .seq (.ops [⟨some 13, .move (.tmp 3), false, none⟩]) <|
 .seq (.keep [0, 2, 13]) <|
 .cond (.tmp 13) (.ops [⟨some 14, .move (.tmp 0), false, none⟩,
  ⟨some 15, .move (.tmp 0), false, none⟩,
  ⟨some 16, .nilCheck (.tmp 15), false, none⟩,
  ⟨some 17, .fieldAddr 55 (.tmp 16) 4, false, none⟩,
  ⟨some 18, .load 52 (.tmp 17), false, none⟩,
  ⟨some 19, .move (.tmp 2), false, none⟩,
  ⟨some 20, .call ⟨.builtin .min, #[(.tmp 19), (.const (.int .u64 1099511627776))], #[22, 22]⟩, false, none⟩,
  ⟨some 21, .convert 22 3 (.tmp 20), false, none⟩,
  ⟨some 22, .call ⟨.value (.func 19), #[(.tmp 18), (.tmp 21)], #[52, 3]⟩, true, none⟩,
  ⟨some 23, .call ⟨.value (.func 18), #[(.tmp 14), (.tmp 22)], #[23, 47]⟩, true, none⟩]) <|
 .skip) <|
 .seq (.keep [0]) <|
 .seq (.ops [⟨some 25, .move (.tmp 0), false, none⟩,
  ⟨some 26, .call ⟨.value (.func 17), #[(.tmp 25), (.const (.int .i64 4))], #[23, 3]⟩, true, none⟩,
  ⟨some 24, .move (.tmp 26), false, none⟩,
  ⟨some 27, .extract (.tmp 24) 0, false, none⟩,
  ⟨some 28, .extract (.tmp 24) 1, false, none⟩,
  ⟨some 4, .assign (.tmp 27), false, none⟩,
  ⟨some 5, .assign (.tmp 28), false, none⟩]) <|
 .seq (.keep [0, 4, 5]) <|
 .seq (.ops [⟨some 29, .move (.tmp 5), false, none⟩,
  ⟨some 30, .move (.tmp 29), false, none⟩,
  ⟨some 31, .move (.tmp 4), false, some (30, true)⟩,
  ⟨some 32, .binOp .leq 22 (.tmp 31) (.const (.int .u64 64)) 22, false, some (30, true)⟩,
  ⟨some 33, .pick (.tmp 30) (.tmp 32) (.const (.bool false)), false, none⟩]) <|
 .seq (.keep [0, 4, 33]) <|
 .cond (.tmp 33) (.ops [⟨some 34, .move (.tmp 0), false, none⟩,
  ⟨some 35, .nilCheck (.tmp 34), false, none⟩,
  ⟨some 36, .fieldAddr 55 (.tmp 35) 3, false, none⟩,
  ⟨some 37, .load 51 (.tmp 36), false, none⟩,
  ⟨some 38, .move (.tmp 4), false, none⟩,
  ⟨some 39, .convert 22 3 (.tmp 38), false, none⟩,
  ⟨some 40, .call ⟨.value (.func 20), #[(.tmp 37), (.tmp 39)], #[51, 3]⟩, true, none⟩]) <|
 .skip
theorem c4 : Tryz.f4.body.map (fun c => ((compile Tryz.prog kp4 [] kp4 c).map (·.1), fits Tryz.f4.ntmps c)) = some (some s4, true) := by kernel_rfl
theorem r4 : Tryz.f4.results.toList = [] := by kernel_rfl
-- (*marionette/world.Proc).Force
abbrev kp5 : List Nat := []
def s5 : SC :=
 .seq (.seq (.ops [⟨some 8, .move (.tmp 0), false, none⟩,
  ⟨some 9, .binOp .eql 23 (.tmp 8) (.const (.pointer none)) 23, false, none⟩]) <|
 .seq (.keep [0, 1, 2, 9]) <|
 .cond (.tmp 9) (.ret) <|
 .skip) <|
 .seq (.keep [0, 1, 2]) <|
 .seq (.ops [⟨some 11, .move (.tmp 0), false, none⟩,
  ⟨some 12, .nilCheck (.tmp 11), false, none⟩,
  ⟨some 13, .fieldAddr 55 (.tmp 12) 3, false, none⟩,
  ⟨some 14, .load 51 (.tmp 13), false, none⟩,
  ⟨some 15, .move (.tmp 1), false, none⟩,
  ⟨some 16, .call ⟨.value (.func 21), #[(.tmp 14), (.tmp 15)], #[51, 3]⟩, true, none⟩,
  ⟨some 10, .move (.tmp 16), false, none⟩,
  ⟨some 17, .extract (.tmp 10) 0, false, none⟩,
  ⟨some 18, .extract (.tmp 10) 1, false, none⟩,
  ⟨some 6, .alloc 27, true, none⟩,
  ⟨none, .store 27 (.tmp 6) (.tmp 17), true, none⟩,
  ⟨some 7, .assign (.tmp 18), false, none⟩]) <|
 .seq (.keep [0, 1, 2, 6]) <|
 .seq (.seq (.ops [⟨some 19, .move (.tmp 0), false, none⟩,
  ⟨some 20, .nilCheck (.tmp 19), false, none⟩,
  ⟨some 21, .fieldAddr 55 (.tmp 20) 3, false, none⟩,
  ⟨some 22, .load 51 (.tmp 21), false, none⟩,
  ⟨some 23, .call ⟨.value (.func 22), #[(.tmp 22)], #[51]⟩, true, none⟩,
  ⟨some 24, .move (.tmp 1), false, none⟩,
  ⟨some 25, .call ⟨.value (.func 23), #[(.tmp 24)], #[3]⟩, true, none⟩,
  ⟨some 26, .binOp .and 22 (.tmp 23) (.tmp 25) 22, false, none⟩,
  ⟨some 27, .binOp .neq 22 (.tmp 26) (.const (.int .u64 0)) 22, false, none⟩,
  ⟨some 28, .move (.tmp 27), false, none⟩,
  ⟨some 29, .fieldAddr 27 (.tmp 6) 0, false, some (28, false)⟩,
  ⟨some 30, .load 22 (.tmp 29), false, some (28, false)⟩,
  ⟨some 31, .binOp .leq 22 (.tmp 30) (.const (.int .u64 1)) 22, false, some (28, false)⟩,
  ⟨some 32, .pick (.tmp 28) (.const (.bool true)) (.tmp 31), false, none⟩]) <|
 .seq (.keep [0, 1, 2, 6, 32]) <|
 .cond (.tmp 32) (.seq (.ops [⟨some 33, .move (.tmp 0), false, none⟩,
  ⟨some 34, .move (.tmp 1), false, none⟩,
  ⟨some 35, .build 30 #[(0, (.const (.int .i64 3))), (1, (.tmp 34))], false, none⟩,
  ⟨some 36, .call ⟨.value (.func 8), #[(.tmp 33), (.tmp 35)], #[23, 30]⟩, true, none⟩]) <|
 .seq (.keep []) <|
 .ret) <|
 .skip) <|
 .seq (.keep [0, 1, 2, 6]) <|
 .ops [⟨some 37, .move (.tmp 0), false, none⟩,
  ⟨some 38, .move (.tmp 1), false, none⟩,
  ⟨some 39, .load 27 (.tmp 6), false, none⟩,
  ⟨some 40, .move (.tmp 2), false, none⟩,
  ⟨some 41, .call ⟨.value (.func 24), #[(.tmp 37), (.tmp 38), (.tmp 39), (.tmp 40)], #[23, 3, 27, 22]⟩, true, none⟩]
theorem c5 : Tryz.f5.body.map (fun c => ((compile Tryz.prog kp5 [] kp5 c).map (·.1), fits Tryz.f5.ntmps c)) = some (some s5, true) := by kernel_rfl
theorem r5 : Tryz.f5.results.toList = [] := by kernel_rfl
-- (*marionette/world.Proc).Deliver
abbrev kp6 : List Nat := []
def s6 : SC :=
 .block 0 <| .loop <| .seq (.seq (.seq (.ops [⟨some 5, .move (.tmp 0), false, none⟩,
  ⟨some 6, .binOp .neq 23 (.tmp 5) (.const (.pointer none)) 23, false, none⟩,
  ⟨some 7, .move (.tmp 6), false, none⟩,
  ⟨some 8, .move (.tmp 0), false, some (7, true)⟩,
  ⟨some 9, .nilCheck (.tmp 8), false, some (7, true)⟩,
  ⟨some 10, .fieldAddr 55 (.tmp 9) 9, false, some (7, true)⟩,
  ⟨some 11, .load 4 (.tmp 10), false, some (7, true)⟩,
  ⟨some 12, .unOp .not 4 (.tmp 11), false, some (7, true)⟩,
  ⟨some 13, .pick (.tmp 7) (.tmp 12) (.const (.bool false)), false, none⟩]) <|
 .seq (.keep [0, 13]) <|
 .cond (.tmp 13) (.skip) <|
 .exit 0) <|
 .seq (.keep [0]) <|
 .block 1 <| .seq (.ops [⟨some 15, .move (.tmp 0), false, none⟩,
  ⟨some 16, .nilCheck (.tmp 15), false, none⟩,
  ⟨some 17, .fieldAddr 55 (.tmp 16) 3, false, none⟩,
  ⟨some 18, .load 51 (.tmp 17), false, none⟩,
  ⟨some 19, .call ⟨.value (.func 25), #[(.tmp 18)], #[51]⟩, true, none⟩,
  ⟨some 14, .move (.tmp 19), false, none⟩,
  ⟨some 20, .extract (.tmp 14) 0, false, none⟩,
  ⟨some 21, .extract (.tmp 14) 1, false, none⟩,
  ⟨some 22, .extract (.tmp 14) 2, false, none⟩,
  ⟨some 3, .alloc 27, true, none⟩,
  ⟨some 2, .assign (.tmp 20), false, none⟩,
  ⟨none, .store 27 (.tmp 3) (.tmp 21), true, none⟩,
  ⟨some 4, .assign (.tmp 22), false, none⟩]) <|
 .seq (.keep [0, 2, 3, 4]) <|
 .seq (.seq (.ops [⟨some 23, .move (.tmp 4), false, none⟩,
  ⟨some 24, .unOp .not 4 (.tmp 23), false, none⟩]) <|
 .seq (.keep [0, 2, 3, 24]) <|
 .cond (.tmp 24) (.ret) <|
 .skip) <|
 .seq (.keep [0, 2, 3]) <|
 .ops [⟨some 25, .move (.tmp 0), false, none⟩,
  ⟨some 26, .move (.tmp 2), false, none⟩,
  ⟨some 27, .load 27 (.tmp 3), false, none⟩,
  ⟨some 28, .call ⟨.value (.func 7), #[(.tmp 25), (.tmp 26), (.tmp 27)], #[23, 3, 27]⟩, true, none⟩]) <|
 .keep [0]
theorem c6 : Tryz.f6.body.map (fun c => ((compile Tryz.prog kp6 [] kp6 c).map (·.1), fits Tryz.f6.ntmps c)) = some (some s6, true) := by kernel_rfl
theorem r6 : Tryz.f6.results.toList = [] := by kernel_rfl
-- (*marionette/world.Proc).Enter
abbrev kp7 : List Nat := []
def s7 : SC :=
 .seq (.ops [⟨some 5, .box 27 (.tmp 2), true, none⟩]) <|
 .seq (.keep [0, 1, 5]) <|
 .block 0 <| .seq (.ops [⟨some 11, .move (.tmp 0), false, none⟩,
  ⟨some 12, .binOp .eql 23 (.tmp 11) (.const (.pointer none)) 23, false, none⟩,
  ⟨some 10, .assign (.tmp 12), false, none⟩]) <|
 .seq (.keep [0, 1, 5, 10]) <|
 .cond (.tmp 10) (.skip) <|
 .seq (.ops [⟨some 14, .fieldAddr 27 (.tmp 5) 0, false, none⟩,
  ⟨some 15, .load 22 (.tmp 14), false, none⟩,
  ⟨some 16, .binOp .eql 22 (.tmp 15) (.const (.int .u64 0)) 22, false, none⟩,
  ⟨some 13, .assign (.tmp 16), false, none⟩]) <|
 .seq (.keep [0, 1, 5, 13]) <|
 .cond (.tmp 13) (.ops [⟨some 17, .move (.tmp 0), false, none⟩,
  ⟨some 18, .move (.tmp 1), false, none⟩,
  ⟨some 19, .build 30 #[(0, (.const (.int .i64 3))), (1, (.tmp 18))], false, none⟩,
  ⟨some 20, .call ⟨.value (.func 8), #[(.tmp 17), (.tmp 19)], #[23, 30]⟩, true, none⟩]) <|
 .ops [⟨some 6, .move (.tmp 0), false, none⟩,
  ⟨some 7, .move (.tmp 1), false, none⟩,
  ⟨some 8, .load 27 (.tmp 5), false, none⟩,
  ⟨some 9, .call ⟨.value (.func 24), #[(.tmp 6), (.tmp 7), (.tmp 8), (.const (.int .u64 0))], #[23, 3, 27, 22]⟩, true, none⟩]
theorem c7 : Tryz.f7.body.map (fun c => ((compile Tryz.prog kp7 [] kp7 c).map (·.1), fits Tryz.f7.ntmps c)) = some (some s7, true) := by kernel_rfl
theorem r7 : Tryz.f7.results.toList = [] := by kernel_rfl
-- (*marionette/world.Proc).Exit
abbrev kp8 : List Nat := []
def s8 : SC :=
 .seq (.ops [⟨some 3, .box 30 (.tmp 1), true, none⟩]) <|
 .seq (.keep [0, 3]) <|
 .seq (.ops [⟨some 4, .move (.tmp 0), false, none⟩,
  ⟨some 5, .binOp .neq 23 (.tmp 4) (.const (.pointer none)) 23, false, none⟩,
  ⟨some 6, .move (.tmp 5), false, none⟩,
  ⟨some 7, .move (.tmp 0), false, some (6, true)⟩,
  ⟨some 8, .nilCheck (.tmp 7), false, some (6, true)⟩,
  ⟨some 9, .fieldAddr 55 (.tmp 8) 9, false, some (6, true)⟩,
  ⟨some 10, .load 4 (.tmp 9), false, some (6, true)⟩,
  ⟨some 11, .unOp .not 4 (.tmp 10), false, some (6, true)⟩,
  ⟨some 12, .pick (.tmp 6) (.tmp 11) (.const (.bool false)), false, none⟩]) <|
 .seq (.keep [0, 3, 12]) <|
 .cond (.tmp 12) (.ops [⟨some 13, .move (.tmp 0), false, none⟩,
  ⟨some 14, .move (.tmp 0), false, none⟩,
  ⟨some 15, .load 30 (.tmp 3), false, none⟩,
  ⟨some 16, .nilCheck (.tmp 13), false, none⟩,
  ⟨some 17, .fieldAddr 55 (.tmp 16) 8, false, none⟩,
  ⟨none, .store 30 (.tmp 17) (.tmp 15), true, none⟩,
  ⟨some 18, .nilCheck (.tmp 14), false, none⟩,
  ⟨some 19, .fieldAddr 55 (.tmp 18) 9, false, none⟩,
  ⟨none, .store 4 (.tmp 19) (.const (.bool true)), true, none⟩]) <|
 .skip
theorem c8 : Tryz.f8.body.map (fun c => ((compile Tryz.prog kp8 [] kp8 c).map (·.1), fits Tryz.f8.ntmps c)) = some (some s8, true) := by kernel_rfl
theorem r8 : Tryz.f8.results.toList = [] := by kernel_rfl
-- (*marionette/world.Proc).Note
abbrev kp9 : List Nat := []
def s9 : SC :=
 .seq (.ops [⟨some 3, .box 34 (.tmp 1), true, none⟩]) <|
 .seq (.keep [0, 3]) <|
 .seq (.ops [⟨some 4, .move (.tmp 0), false, none⟩,
  ⟨some 5, .binOp .neq 23 (.tmp 4) (.const (.pointer none)) 23, false, none⟩]) <|
 .seq (.keep [0, 3, 5]) <|
 .cond (.tmp 5) (.seq (.ops [⟨some 6, .move (.tmp 0), false, none⟩]) <|
 .seq (.ops [⟨some 7, .move (.tmp 0), false, none⟩]) <|
 .seq (.ops [⟨some 8, .nilCheck (.tmp 7), false, none⟩]) <|
 .seq (.ops [⟨some 9, .fieldAddr 55 (.tmp 8) 7, false, none⟩]) <|
 .seq (.ops [⟨some 11, .load 34 (.tmp 3), false, none⟩]) <|
 .amb (.seq (.ops [⟨some 10, .load 41 (.tmp 9), false, none⟩]) <|
 .seq (.ops [⟨some 12, .buildSlice 41 1 #[(0, (.tmp 11))], true, none⟩]) <|
 .seq (.ops [⟨some 13, .call ⟨.builtin .append, #[(.tmp 10), (.tmp 12)], #[41, 41]⟩, true, none⟩]) <|
 .seq (.ops [⟨some 14, .nilCheck (.tmp 6), false, none⟩]) <|
 .seq (.ops [⟨some 15, .fieldAddr 55 (.tmp 14) 7, false, none⟩]) <|
 .seq (.ops [⟨none, .store 41 (.tmp 15) (.tmp 13), true, none⟩]) <|
 .skip) (.seq (.ops [⟨some 12, .buildSlice 41 1 #[(0, (.tmp 11))], true, none⟩]) <|
 .seq (.ops [⟨some 10, .load 41 (.tmp 9), false, none⟩]) <|
 .seq (.ops [⟨some 13, .call ⟨.builtin .append, #[(.tmp 10), (.tmp 12)], #[41, 41]⟩, true, none⟩]) <|
 .seq (.ops [⟨some 14, .nilCheck (.tmp 6), false, none⟩]) <|
 .seq (.ops [⟨some 15, .fieldAddr 55 (.tmp 14) 7, false, none⟩]) <|
 .seq (.ops [⟨none, .store 41 (.tmp 15) (.tmp 13), true, none⟩]) <|
 .skip)) <|
 .skip
theorem c9 : Tryz.f9.body.map (fun c => ((compile Tryz.prog kp9 [] kp9 c).map (·.1), fits Tryz.f9.ntmps c)) = some (some s9, true) := by kernel_rfl
theorem r9 : Tryz.f9.results.toList = [] := by kernel_rfl
-- (*marionette/world.Proc).End
abbrev kp10 : List Nat := [2, 3]
def s10 : SC :=
 .seq (.ops [⟨some 2, .alloc 30, true, none⟩,
  ⟨some 3, .assign (.const (.bool false)), false, none⟩]) <|
 .seq (.keep [0, 2]) <|
 .seq (.seq (.ops [⟨some 4, .move (.tmp 0), false, none⟩,
  ⟨some 5, .binOp .eql 23 (.tmp 4) (.const (.pointer none)) 23, false, none⟩]) <|
 .seq (.keep [0, 2, 5]) <|
 .cond (.tmp 5) (.seq (.ops [⟨some 6, .build 30 #[], false, none⟩,
  ⟨none, .store 30 (.tmp 2) (.tmp 6), true, none⟩,
  ⟨some 3, .assign (.const (.bool false)), false, none⟩]) <|
 .seq (.keep [2, 3]) <|
 .ret) <|
 .skip) <|
 .seq (.keep [0, 2]) <|
 .seq (.seq (.ops [⟨some 7, .move (.tmp 0), false, none⟩]) <|
 .seq (.ops [⟨some 8, .nilCheck (.tmp 7), false, none⟩]) <|
 .seq (.ops [⟨some 9, .fieldAddr 55 (.tmp 8) 8, false, none⟩]) <|
 .seq (.ops [⟨some 10, .load 30 (.tmp 9), false, none⟩]) <|
 .seq (.ops [⟨some 11, .move (.tmp 0), false, none⟩]) <|
 .seq (.ops [⟨some 12, .nilCheck (.tmp 11), false, none⟩]) <|
 .seq (.ops [⟨some 13, .fieldAddr 55 (.tmp 12) 9, false, none⟩]) <|
 .amb (.seq (.ops [⟨some 14, .load 4 (.tmp 13), false, none⟩]) <|
 .seq (.ops [⟨none, .store 30 (.tmp 2) (.tmp 10), true, none⟩]) <|
 .seq (.ops [⟨some 3, .assign (.tmp 14), false, none⟩]) <|
 .skip) (.seq (.ops [⟨none, .store 30 (.tmp 2) (.tmp 10), true, none⟩]) <|
 .seq (.ops [⟨some 14, .load 4 (.tmp 13), false, none⟩]) <|
 .seq (.ops [⟨some 3, .assign (.tmp 14), false, none⟩]) <|
 .skip)) <|
 .seq (.keep [2, 3]) <|
 .ret
theorem c10 : Tryz.f10.body.map (fun c => ((compile Tryz.prog kp10 [] kp10 c).map (·.1), fits Tryz.f10.ntmps c)) = some (some s10, true) := by kernel_rfl
theorem r10 : Tryz.f10.results.toList = [.cell 2 30, .tmp 3] := by kernel_rfl
-- marionette/marionettelaw24.answers
abbrev kp11 : List Nat := [0]
def s11 : SC :=
 .seq (.ops [⟨some 0, .assign (.const (.bool false)), false, none⟩]) <|
 .seq (.keep []) <|
 .seq (.ops [⟨some 4, .build 71 #[(5, (.const (.int .i64 (-1))))], false, none⟩,
  ⟨some 5, .call ⟨.value (.func 26), #[(.tmp 4)], #[71]⟩, true, none⟩,
  ⟨some 3, .move (.tmp 5), false, none⟩,
  ⟨some 6, .extract (.tmp 3) 0, false, none⟩,
  ⟨some 7, .extract (.tmp 3) 1, false, none⟩,
  ⟨some 1, .assign (.tmp 6), false, none⟩,
  ⟨some 2, .assign (.tmp 7), false, none⟩]) <|
 .seq (.keep [2]) <|
 .seq (.ops [⟨some 8, .move (.tmp 2), false, none⟩,
  ⟨some 9, .binOp .eql 57 (.tmp 8) (.const (.int .i64 200)) 57, false, none⟩,
  ⟨some 0, .assign (.tmp 9), false, none⟩]) <|
 .seq (.keep [0]) <|
 .ret
theorem c11 : Tryz.f11.body.map (fun c => ((compile Tryz.prog kp11 [] kp11 c).map (·.1), fits Tryz.f11.ntmps c)) = some (some s11, true) := by kernel_rfl
theorem r11 : Tryz.f11.results.toList = [.tmp 0] := by kernel_rfl
-- (*marionette/world.Proc).Short
abbrev kp12 : List Nat := [4]
def s12 : SC :=
 .seq (.ops [⟨some 4, .assign (.const (.int .i64 0)), false, none⟩]) <|
 .seq (.keep [0, 1]) <|
 .seq (.seq (.ops [⟨some 7, .move (.tmp 0), false, none⟩,
  ⟨some 8, .binOp .eql 23 (.tmp 7) (.const (.pointer none)) 23, false, none⟩]) <|
 .seq (.keep [0, 1, 8]) <|
 .cond (.tmp 8) (.seq (.ops [⟨some 4, .assign (.const (.int .i64 0)), false, none⟩]) <|
 .seq (.keep [4]) <|
 .ret) <|
 .skip) <|
 .seq (.keep [0, 1]) <|
 .seq (.seq (.ops [⟨some 10, .move (.tmp 0), false, none⟩,
  ⟨some 11, .call ⟨.value (.func 17), #[(.tmp 10), (.const (.int .i64 1))], #[23, 3]⟩, true, none⟩,
  ⟨some 9, .move (.tmp 11), false, none⟩,
  ⟨some 12, .extract (.tmp 9) 0, false, none⟩,
  ⟨some 13, .extract (.tmp 9) 1, false, none⟩,
  ⟨some 5, .assign (.tmp 12), false, none⟩,
  ⟨some 6, .assign (.tmp 13), false, none⟩]) <|
 .seq (.keep [1, 5, 6]) <|
 .seq (.ops [⟨some 14, .move (.tmp 6), false, none⟩,
  ⟨some 15, .move (.tmp 14), false, none⟩,
  ⟨some 16, .move (.tmp 5), false, some (15, true)⟩,
  ⟨some 17, .move (.tmp 1), false, some (15, true)⟩,
  ⟨some 18, .call ⟨.builtin .max, #[(.tmp 17), (.const (.int .i64 0))], #[3, 3]⟩, false, some (15, true)⟩,
  ⟨some 19, .convert 3 22 (.tmp 18), false, some (15, true)⟩,
  ⟨some 20, .binOp .lss 22 (.tmp 16) (.tmp 19) 22, false, some (15, true)⟩,
  ⟨some 21, .pick (.tmp 15) (.tmp 20) (.const (.bool false)), false, none⟩]) <|
 .seq (.keep [1, 5, 21]) <|
 .cond (.tmp 21) (.seq (.ops [⟨some 22, .move (.tmp 5), false, none⟩,
  ⟨some 23, .convert 22 3 (.tmp 22), false, none⟩,
  ⟨some 4, .assign (.tmp 23), false, none⟩]) <|
 .seq (.keep [4]) <|
 .ret) <|
 .skip) <|
 .seq (.keep [1]) <|
 .seq (.ops [⟨some 24, .move (.tmp 1), false, none⟩,
  ⟨some 4, .assign (.tmp 24), false, none⟩]) <|
 .seq (.keep [4]) <|
 .ret
theorem c12 : Tryz.f12.body.map (fun c => ((compile Tryz.prog kp12 [] kp12 c).map (·.1), fits Tryz.f12.ntmps c)) = some (some s12, true) := by kernel_rfl
theorem r12 : Tryz.f12.results.toList = [.tmp 4] := by kernel_rfl
-- (*marionette/world.Proc).Random
abbrev kp13 : List Nat := [4]
def s13 : SC :=
 .seq (.ops [⟨some 4, .assign (.const (.slice none 0 0)), false, none⟩]) <|
 .seq (.keep [0, 1]) <|
 .seq (.seq (.ops [⟨some 9, .move (.tmp 0), false, none⟩,
  ⟨some 10, .binOp .eql 23 (.tmp 9) (.const (.pointer none)) 23, false, none⟩,
  ⟨some 11, .move (.tmp 10), false, none⟩,
  ⟨some 12, .move (.tmp 1), false, some (11, false)⟩,
  ⟨some 13, .binOp .lss 3 (.tmp 12) (.const (.int .i64 0)) 3, false, some (11, false)⟩,
  ⟨some 14, .pick (.tmp 11) (.const (.bool true)) (.tmp 13), false, none⟩,
  ⟨some 15, .move (.tmp 14), false, none⟩,
  ⟨some 16, .move (.tmp 1), false, some (15, false)⟩,
  ⟨some 17, .binOp .gtr 3 (.tmp 16) (.const (.int .i64 65536)) 3, false, some (15, false)⟩,
  ⟨some 18, .pick (.tmp 15) (.const (.bool true)) (.tmp 17), false, none⟩]) <|
 .seq (.keep [0, 1, 18]) <|
 .cond (.tmp 18) (.seq (.ops [⟨some 4, .assign (.const (.slice none 0 0)), false, none⟩]) <|
 .seq (.keep [4]) <|
 .ret) <|
 .skip) <|
 .seq (.keep [0, 1]) <|
 .seq (.seq (.ops [⟨some 20, .move (.tmp 0), false, none⟩,
  ⟨some 21, .call ⟨.value (.func 17), #[(.tmp 20), (.const (.int .i64 3))], #[23, 3]⟩, true, none⟩,
  ⟨some 19, .move (.tmp 21), false, none⟩,
  ⟨some 22, .extract (.tmp 19) 0, false, none⟩,
  ⟨some 23, .extract (.tmp 19) 1, false, none⟩,
  ⟨some 5, .assign (.tmp 22), false, none⟩,
  ⟨some 6, .assign (.tmp 23), false, none⟩]) <|
 .seq (.keep [0, 1, 5, 6]) <|
 .seq (.ops [⟨some 24, .move (.tmp 6), false, none⟩]) <|
 .seq (.keep [0, 1, 5, 24]) <|
 .cond (.tmp 24) (.ops [⟨some 25, .move (.tmp 0), false, none⟩,
  ⟨some 26, .move (.tmp 5), false, none⟩,
  ⟨some 27, .nilCheck (.tmp 25), false, none⟩,
  ⟨some 28, .fieldAddr 55 (.tmp 27) 6, false, none⟩,
  ⟨none, .store 22 (.tmp 28) (.tmp 26), true, none⟩]) <|
 .skip) <|
 .seq (.keep [0, 1]) <|
 .seq (.ops [⟨some 29, .move (.tmp 1), false, none⟩,
  ⟨some 30, .makeSlice 39 (.tmp 29) (.tmp 29), true, none⟩,
  ⟨some 7, .assign (.tmp 30), false, none⟩]) <|
 .seq (.keep [0, 7]) <|
 .seq (.seq (.ops [⟨some 31, .move (.tmp 7), false, none⟩,
  ⟨some 32, .call ⟨.builtin .len, #[(.tmp 31)], #[39]⟩, false, none⟩,
  ⟨some 33, .move (.const (.int .i64 0)), false, none⟩]) <|
 .seq (.keep [0, 7, 32, 33]) <|
 .block 0 <| .loop <| .seq (.seq (.ops [⟨some 34, .binOp .lss 3 (.tmp 33) (.tmp 32) 3, false, none⟩]) <|
 .seq (.keep [0, 7, 32, 33, 34]) <|
 .seq (.cond (.tmp 34) (.skip) <|
 .exit 0) <|
 .seq (.keep [0, 7, 32, 33]) <|
 .seq (.block 1 <| .seq (.ops [⟨some 35, .move (.tmp 33), false, none⟩,
  ⟨some 8, .assign (.tmp 35), false, none⟩]) <|
 .seq (.keep [0, 7, 8, 32, 33]) <|
 .seq (.ops [⟨some 36, .move (.tmp 0), false, none⟩,
  ⟨some 37, .move (.tmp 0), false, none⟩,
  ⟨some 38, .nilCheck (.tmp 37), false, none⟩,
  ⟨some 39, .fieldAddr 55 (.tmp 38) 6, false, none⟩,
  ⟨some 40, .load 22 (.tmp 39), false, none⟩,
  ⟨some 41, .binOp .mul 22 (.tmp 40) (.const (.int .u64 6364136223846793005)) 22, false, none⟩,
  ⟨some 42, .binOp .add 22 (.tmp 41) (.const (.int .u64 1442695040888963407)) 22, false, none⟩,
  ⟨some 43, .nilCheck (.tmp 36), false, none⟩,
  ⟨some 44, .fieldAddr 55 (.tmp 43) 6, false, none⟩,
  ⟨none, .store 22 (.tmp 44) (.tmp 42), true, none⟩]) <|
 .seq (.keep [0, 7, 8, 32, 33]) <|
 .ops [⟨some 45, .move (.tmp 7), false, none⟩,
  ⟨some 46, .move (.tmp 8), false, none⟩,
  ⟨some 47, .move (.tmp 0), false, none⟩,
  ⟨some 48, .nilCheck (.tmp 47), false, none⟩,
  ⟨some 49, .fieldAddr 55 (.tmp 48) 6, false, none⟩,
  ⟨some 50, .load 22 (.tmp 49), false, none⟩,
  ⟨some 51, .binOp .shr 22 (.tmp 50) (.const (.int .u64 56)) 72, false, none⟩,
  ⟨some 52, .convert 22 5 (.tmp 51), false, none⟩,
  ⟨some 53, .indexAddr 39 (.tmp 45) (.tmp 46), false, none⟩,
  ⟨none, .store 5 (.tmp 53) (.tmp 52), true, none⟩]) <|
 .seq (.keep [0, 7, 32, 33]) <|
 .ops [⟨some 54, .binOp .add 3 (.tmp 33) (.const (.int .i64 1)) 3, false, none⟩,
  ⟨some 33, .move (.tmp 54), false, none⟩]) <|
 .keep [0, 7, 32, 33]) <|
 .seq (.keep [7]) <|
 .seq (.ops [⟨some 55, .move (.tmp 7), false, none⟩,
  ⟨some 4, .assign (.tmp 55), false, none⟩]) <|
 .seq (.keep [4]) <|
 .ret
theorem c13 : Tryz.f13.body.map (fun c => ((compile Tryz.prog kp13 [] kp13 c).map (·.1), fits Tryz.f13.ntmps c)) = some (some s13, true) := by kernel_rfl
theorem r13 : Tryz.f13.results.toList = [.tmp 4] := by kernel_rfl
-- (*marionette/world.Proc).Trace
abbrev kp14 : List Nat := [2]
def s14 : SC :=
 .seq (.ops [⟨some 2, .assign (.const (.slice none 0 0)), false, none⟩]) <|
 .seq (.keep [0]) <|
 .seq (.seq (.ops [⟨some 3, .move (.tmp 0), false, none⟩,
  ⟨some 4, .binOp .eql 23 (.tmp 3) (.const (.pointer none)) 23, false, none⟩]) <|
 .seq (.keep [0, 4]) <|
 .cond (.tmp 4) (.seq (.ops [⟨some 2, .assign (.const (.slice none 0 0)), false, none⟩]) <|
 .seq (.keep [2]) <|
 .ret) <|
 .skip) <|
 .seq (.keep [0]) <|
 .seq (.ops [⟨some 5, .buildSlice 41 0 #[], true, none⟩,
  ⟨some 6, .move (.tmp 0), false, none⟩,
  ⟨some 7, .nilCheck (.tmp 6), false, none⟩,
  ⟨some 8, .fieldAddr 55 (.tmp 7) 7, false, none⟩,
  ⟨some 9, .load 41 (.tmp 8), false, none⟩,
  ⟨some 10, .call ⟨.builtin .append, #[(.tmp 5), (.tmp 9)], #[41, 41]⟩, true, none⟩,
  ⟨some 2, .assign (.tmp 10), false, none⟩]) <|
 .seq (.keep [2]) <|
 .ret
theorem c14 : Tryz.f14.body.map (fun c => ((compile Tryz.prog kp14 [] kp14 c).map (·.1), fits Tryz.f14.ntmps c)) = some (some s14, true) := by kernel_rfl
theorem r14 : Tryz.f14.results.toList = [.tmp 2] := by kernel_rfl
-- (*marionette/world.Proc).Ready
abbrev kp15 : List Nat := [2]
def s15 : SC :=
 .seq (.ops [⟨some 2, .assign (.const (.bool false)), false, none⟩]) <|
 .seq (.keep [0]) <|
 .seq (.seq (.ops [⟨some 6, .move (.tmp 0), false, none⟩,
  ⟨some 7, .binOp .eql 23 (.tmp 6) (.const (.pointer none)) 23, false, none⟩]) <|
 .seq (.keep [0, 7]) <|
 .cond (.tmp 7) (.seq (.ops [⟨some 2, .assign (.const (.bool false)), false, none⟩]) <|
 .seq (.keep [2]) <|
 .ret) <|
 .skip) <|
 .seq (.keep [0]) <|
 .seq (.ops [⟨some 9, .move (.tmp 0), false, none⟩,
  ⟨some 10, .nilCheck (.tmp 9), false, none⟩,
  ⟨some 11, .fieldAddr 55 (.tmp 10) 3, false, none⟩,
  ⟨some 12, .load 51 (.tmp 11), false, none⟩,
  ⟨some 13, .call ⟨.value (.func 27), #[(.tmp 12)], #[51]⟩, true, none⟩,
  ⟨some 14, .call ⟨.value (.func 25), #[(.tmp 13)], #[51]⟩, true, none⟩,
  ⟨some 8, .move (.tmp 14), false, none⟩,
  ⟨some 15, .extract (.tmp 8) 0, false, none⟩,
  ⟨some 16, .extract (.tmp 8) 1, false, none⟩,
  ⟨some 17, .extract (.tmp 8) 2, false, none⟩,
  ⟨some 4, .alloc 27, true, none⟩,
  ⟨some 3, .assign (.tmp 15), false, none⟩,
  ⟨none, .store 27 (.tmp 4) (.tmp 16), true, none⟩,
  ⟨some 5, .assign (.tmp 17), false, none⟩]) <|
 .seq (.keep [5]) <|
 .seq (.ops [⟨some 18, .move (.tmp 5), false, none⟩,
  ⟨some 2, .assign (.tmp 18), false, none⟩]) <|
 .seq (.keep [2]) <|
 .ret
theorem c15 : Tryz.f15.body.map (fun c => ((compile Tryz.prog kp15 [] kp15 c).map (·.1), fits Tryz.f15.ntmps c)) = some (some s15, true) := by kernel_rfl
theorem r15 : Tryz.f15.results.toList = [.tmp 2] := by kernel_rfl
-- (*marionette/world.Proc).Wait
abbrev kp16 : List Nat := [4]
def s16 : SC :=
 .seq (.ops [⟨some 4, .assign (.const (.int .i64 0)), false, none⟩]) <|
 .seq (.keep [0, 1]) <|
 .seq (.seq (.ops [⟨some 8, .move (.tmp 0), false, none⟩,
  ⟨some 9, .binOp .eql 23 (.tmp 8) (.const (.pointer none)) 23, false, none⟩]) <|
 .seq (.keep [0, 1, 9]) <|
 .cond (.tmp 9) (.seq (.ops [⟨some 4, .assign (.const (.int .i64 0)), false, none⟩]) <|
 .seq (.keep [4]) <|
 .ret) <|
 .skip) <|
 .seq (.keep [0, 1]) <|
 .seq (.seq (.ops [⟨some 10, .move (.tmp 0), false, none⟩,
  ⟨some 11, .call ⟨.value (.func 15), #[(.tmp 10)], #[23]⟩, true, none⟩]) <|
 .seq (.keep [0, 1, 11]) <|
 .cond (.tmp 11) (.seq (.ops [⟨some 4, .assign (.const (.int .i64 0)), false, none⟩]) <|
 .seq (.keep [4]) <|
 .ret) <|
 .skip) <|
 .seq (.keep [0, 1]) <|
 .seq (.ops [⟨some 12, .move (.tmp 0), false, none⟩,
  ⟨some 13, .nilCheck (.tmp 12), false, none⟩,
  ⟨some 14, .fieldAddr 55 (.tmp 13) 4, false, none⟩,
  ⟨some 15, .load 52 (.tmp 14), false, none⟩,
  ⟨some 16, .call ⟨.value (.func 28), #[(.tmp 15)], #[52]⟩, true, none⟩,
  ⟨some 5, .assign (.tmp 16), false, none⟩]) <|
 .seq (.keep [0, 1, 5]) <|
 .seq (.seq (.ops [⟨some 18, .move (.tmp 0), false, none⟩,
  ⟨some 19, .nilCheck (.tmp 18), false, none⟩,
  ⟨some 20, .fieldAddr 55 (.tmp 19) 4, false, none⟩,
  ⟨some 21, .load 52 (.tmp 20), false, none⟩,
  ⟨some 22, .call ⟨.value (.func 29), #[(.tmp 21)], #[52]⟩, true, none⟩,
  ⟨some 17, .move (.tmp 22), false, none⟩,
  ⟨some 23, .extract (.tmp 17) 0, false, none⟩,
  ⟨some 24, .extract (.tmp 17) 1, false, none⟩,
  ⟨some 6, .assign (.tmp 23), false, none⟩,
  ⟨some 7, .assign (.tmp 24), false, none⟩]) <|
 .seq (.keep [0, 1, 5, 6, 7]) <|
 .seq (.ops [⟨some 25, .move (.tmp 7), false, none⟩,
  ⟨some 26, .move (.tmp 25), false, none⟩,
  ⟨some 27, .move (.tmp 6), false, some (26, true)⟩,
  ⟨some 28, .move (.tmp 5), false, some (26, true)⟩,
  ⟨some 29, .binOp .sub 3 (.tmp 27) (.tmp 28) 3, false, some (26, true)⟩,
  ⟨some 30, .move (.tmp 1), false, some (26, true)⟩,
  ⟨some 31, .binOp .leq 3 (.tmp 29) (.tmp 30) 3, false, some (26, true)⟩,
  ⟨some 32, .pick (.tmp 26) (.tmp 31) (.const (.bool false)), false, none⟩]) <|
 .seq (.keep [0, 1, 5, 6, 32]) <|
 .cond (.tmp 32) (.ops [⟨some 33, .move (.tmp 0), false, none⟩,
  ⟨some 34, .move (.tmp 0), false, none⟩,
  ⟨some 35, .nilCheck (.tmp 34), false, none⟩,
  ⟨some 36, .fieldAddr 55 (.tmp 35) 4, false, none⟩,
  ⟨some 37, .load 52 (.tmp 36), false, none⟩,
  ⟨some 38, .move (.tmp 6), false, none⟩,
  ⟨some 39, .move (.tmp 5), false, none⟩,
  ⟨some 40, .binOp .sub 3 (.tmp 38) (.tmp 39) 3, false, none⟩,
  ⟨some 41, .call ⟨.value (.func 19), #[(.tmp 37), (.tmp 40)], #[52, 3]⟩, true, none⟩,
  ⟨some 42, .call ⟨.value (.func 18), #[(.tmp 33), (.tmp 41)], #[23, 47]⟩, true, none⟩]) <|
 .skip) <|
 .seq (.keep [0, 1, 5]) <|
 .seq (.seq (.ops [⟨some 43, .move (.tmp 0), false, none⟩,
  ⟨some 44, .call ⟨.value (.func 15), #[(.tmp 43)], #[23]⟩, true, none⟩,
  ⟨some 45, .unOp .not 4 (.tmp 44), false, none⟩]) <|
 .seq (.keep [0, 1, 5, 45]) <|
 .cond (.tmp 45) (.seq (.ops [⟨some 46, .move (.tmp 0), false, none⟩]) <|
 .seq (.ops [⟨some 47, .move (.tmp 0), false, none⟩]) <|
 .seq (.ops [⟨some 48, .nilCheck (.tmp 47), false, none⟩]) <|
 .seq (.ops [⟨some 49, .fieldAddr 55 (.tmp 48) 4, false, none⟩]) <|
 .seq (.ops [⟨some 51, .move (.tmp 1), false, none⟩]) <|
 .seq (.ops [⟨some 52, .move (.tmp 0), false, none⟩]) <|
 .seq (.ops [⟨some 53, .nilCheck (.tmp 52), false, none⟩]) <|
 .seq (.ops [⟨some 54, .fieldAddr 55 (.tmp 53) 4, false, none⟩]) <|
 .seq (.ops [⟨some 55, .load 52 (.tmp 54), false, none⟩]) <|
 .seq (.ops [⟨some 57, .move (.tmp 5), false, none⟩]) <|
 .amb (.seq (.ops [⟨some 50, .load 52 (.tmp 49), false, none⟩]) <|
 .seq (.ops [⟨some 56, .call ⟨.value (.func 28), #[(.tmp 55)], #[52]⟩, true, none⟩]) <|
 .seq (.ops [⟨some 58, .binOp .sub 3 (.tmp 56) (.tmp 57) 3, false, none⟩]) <|
 .seq (.ops [⟨some 59, .binOp .sub 3 (.tmp 51) (.tmp 58) 3, false, none⟩]) <|
 .seq (.ops [⟨some 60, .call ⟨.value (.func 19), #[(.tmp 50), (.tmp 59)], #[52, 3]⟩, true, none⟩]) <|
 .seq (.ops [⟨some 61, .call ⟨.value (.func 18), #[(.tmp 46), (.tmp 60)], #[23, 47]⟩, true, none⟩]) <|
 .skip) (.seq (.ops [⟨some 56, .call ⟨.value (.func 28), #[(.tmp 55)], #[52]⟩, true, none⟩]) <|
 .seq (.ops [⟨some 50, .load 52 (.tmp 49), false, none⟩]) <|
 .seq (.ops [⟨some 58, .binOp .sub 3 (.tmp 56) (.tmp 57) 3, false, none⟩]) <|
 .seq (.ops [⟨some 59, .binOp .sub 3 (.tmp 51) (.tmp 58) 3, false, none⟩]) <|
 .seq (.ops [⟨some 60, .call ⟨.value (.func 19), #[(.tmp 50), (.tmp 59)], #[52, 3]⟩, true, none⟩]) <|
 .seq (.ops [⟨some 61, .call ⟨.value (.func 18), #[(.tmp 46), (.tmp 60)], #[23, 47]⟩, true, none⟩]) <|
 .skip)) <|
 .skip) <|
 .seq (.keep [0, 5]) <|
 .seq (.ops [⟨some 62, .move (.tmp 0), false, none⟩,
  ⟨some 63, .nilCheck (.tmp 62), false, none⟩,
  ⟨some 64, .fieldAddr 55 (.tmp 63) 4, false, none⟩,
  ⟨some 65, .load 52 (.tmp 64), false, none⟩,
  ⟨some 66, .call ⟨.value (.func 28), #[(.tmp 65)], #[52]⟩, true, none⟩,
  ⟨some 67, .move (.tmp 5), false, none⟩,
  ⟨some 68, .binOp .sub 3 (.tmp 66) (.tmp 67) 3, false, none⟩,
  ⟨some 4, .assign (.tmp 68), false, none⟩]) <|
 .seq (.keep [4]) <|
 .ret
theorem c16 : Tryz.f16.body.map (fun c => ((compile Tryz.prog kp16 [] kp16 c).map (·.1), fits Tryz.f16.ntmps c)) = some (some s16, true) := by kernel_rfl
theorem r16 : Tryz.f16.results.toList = [.tmp 4] := by kernel_rfl
-- marionette/world.New
abbrev kp26 : List Nat := [2, 3]
def s26 : SC :=
 .seq (.ops [⟨some 1, .box 71 (.tmp 0), true, none⟩,
  ⟨some 2, .assign (.const (.pointer none)), false, none⟩,
  ⟨some 3, .assign (.const (.int .i64 0)), false, none⟩]) <|
 .seq (.keep [1]) <|
 .seq (.seq (.ops [⟨some 14, .load 71 (.tmp 1), false, none⟩,
  ⟨some 15, .call ⟨.value (.func 37), #[(.tmp 14)], #[71]⟩, true, none⟩,
  ⟨some 16, .unOp .not 4 (.tmp 15), false, none⟩]) <|
 .seq (.keep [1, 16]) <|
 .cond (.tmp 16) (.seq (.ops [⟨some 2, .assign (.const (.pointer none)), false, none⟩,
  ⟨some 3, .assign (.const (.int .i64 200)), false, none⟩]) <|
 .seq (.keep [2, 3]) <|
 .ret) <|
 .skip) <|
 .seq (.keep [1]) <|
 .seq (.ops [⟨some 18, .fieldAddr 71 (.tmp 1) 3, false, none⟩,
  ⟨some 19, .load 69 (.tmp 18), false, none⟩,
  ⟨some 20, .call ⟨.value (.func 38), #[(.tmp 19)], #[69]⟩, true, none⟩,
  ⟨some 17, .move (.tmp 20), false, none⟩,
  ⟨some 21, .extract (.tmp 17) 0, false, none⟩,
  ⟨some 22, .extract (.tmp 17) 1, false, none⟩,
  ⟨some 4, .assign (.tmp 21), false, none⟩,
  ⟨some 5, .assign (.tmp 22), false, none⟩]) <|
 .seq (.keep [1, 4, 5]) <|
 .seq (.seq (.ops [⟨some 23, .move (.tmp 5), false, none⟩,
  ⟨some 24, .binOp .neq 57 (.tmp 23) (.const (.int .i64 0)) 57, false, none⟩]) <|
 .seq (.keep [1, 4, 5, 24]) <|
 .cond (.tmp 24) (.seq (.ops [⟨some 25, .move (.tmp 5), false, none⟩,
  ⟨some 2, .assign (.const (.pointer none)), false, none⟩,
  ⟨some 3, .assign (.tmp 25), false, none⟩]) <|
 .seq (.keep [2, 3]) <|
 .ret) <|
 .skip) <|
 .seq (.keep [1, 4]) <|
 .seq (.seq (.ops [⟨some 29, .fieldAddr 71 (.tmp 1) 4, false, none⟩]) <|
 .amb (.seq (.ops [⟨some 26, .call ⟨.value (.func 39), #[], #[]⟩, true, none⟩]) <|
 .amb (.seq (.ops [⟨some 27, .call ⟨.value (.func 40), #[], #[]⟩, true, none⟩]) <|
 .amb (.seq (.ops [⟨some 28, .buildSlice 53 0 #[], true, none⟩]) <|
 .seq (.ops [⟨some 30, .load 53 (.tmp 29), false, none⟩]) <|
 .seq (.ops [⟨some 31, .call ⟨.builtin .append, #[(.tmp 28), (.tmp 30)], #[53, 53]⟩, true, none⟩]) <|
 .seq (.ops [⟨some 32, .build 55 #[(3, (.tmp 26)), (4, (.tmp 27)), (5, (.tmp 31)), (6, (.const (.int .u64 1)))], false, none⟩]) <|
 .seq (.ops [⟨some 33, .box 55 (.tmp 32), true, none⟩]) <|
 .seq (.ops [⟨some 6, .assign (.tmp 33), false, none⟩]) <|
 .skip) (.seq (.ops [⟨some 30, .load 53 (.tmp 29), false, none⟩]) <|
 .seq (.ops [⟨some 28, .buildSlice 53 0 #[], true, none⟩]) <|
 .seq (.ops [⟨some 31, .call ⟨.builtin .append, #[(.tmp 28), (.tmp 30)], #[53, 53]⟩, true, none⟩]) <|
 .seq (.ops [⟨some 32, .build 55 #[(3, (.tmp 26)), (4, (.tmp 27)), (5, (.tmp 31)), (6, (.const (.int .u64 1)))], false, none⟩]) <|
 .seq (.ops [⟨some 33, .box 55 (.tmp 32), true, none⟩]) <|
 .seq (.ops [⟨some 6, .assign (.tmp 33), false, none⟩]) <|
 .skip)) (.amb (.seq (.ops [⟨some 28, .buildSlice 53 0 #[], true, none⟩]) <|
 .amb (.seq (.ops [⟨some 27, .call ⟨.value (.func 40), #[], #[]⟩, true, none⟩]) <|
 .seq (.ops [⟨some 30, .load 53 (.tmp 29), false, none⟩]) <|
 .seq (.ops [⟨some 31, .call ⟨.builtin .append, #[(.tmp 28), (.tmp 30)], #[53, 53]⟩, true, none⟩]) <|
 .seq (.ops [⟨some 32, .build 55 #[(3, (.tmp 26)), (4, (.tmp 27)), (5, (.tmp 31)), (6, (.const (.int .u64 1)))], false, none⟩]) <|
 .seq (.ops [⟨some 33, .box 55 (.tmp 32), true, none⟩]) <|
 .seq (.ops [⟨some 6, .assign (.tmp 33), false, none⟩]) <|
 .skip) (.seq (.ops [⟨some 30, .load 53 (.tmp 29), false, none⟩]) <|
 .seq (.ops [⟨some 27, .call ⟨.value (.func 40), #[], #[]⟩, true, none⟩]) <|
 .seq (.ops [⟨some 31, .call ⟨.builtin .append, #[(.tmp 28), (.tmp 30)], #[53, 53]⟩, true, none⟩]) <|
 .seq (.ops [⟨some 32, .build 55 #[(3, (.tmp 26)), (4, (.tmp 27)), (5, (.tmp 31)), (6, (.const (.int .u64 1)))], false, none⟩]) <|
 .seq (.ops [⟨some 33, .box 55 (.tmp 32), true, none⟩]) <|
 .seq (.ops [⟨some 6, .assign (.tmp 33), false, none⟩]) <|
 .skip)) (.seq (.ops [⟨some 30, .load 53 (.tmp 29), false, none⟩]) <|
 .amb (.seq (.ops [⟨some 27, .call ⟨.value (.func 40), #[], #[]⟩, true, none⟩]) <|
 .seq (.ops [⟨some 28, .buildSlice 53 0 #[], true, none⟩]) <|
 .seq (.ops [⟨some 31, .call ⟨.builtin .append, #[(.tmp 28), (.tmp 30)], #[53, 53]⟩, true, none⟩]) <|
 .seq (.ops [⟨some 32, .build 55 #[(3, (.tmp 26)), (4, (.tmp 27)), (5, (.tmp 31)), (6, (.const (.int .u64 1)))], false, none⟩]) <|
 .seq (.ops [⟨some 33, .box 55 (.tmp 32), true, none⟩]) <|
 .seq (.ops [⟨some 6, .assign (.tmp 33), false, none⟩]) <|
 .skip) (.seq (.ops [⟨some 28, .buildSlice 53 0 #[], true, none⟩]) <|
 .seq (.ops [⟨some 27, .call ⟨.value (.func 40), #[], #[]⟩, true, none⟩]) <|
 .seq (.ops [⟨some 31, .call ⟨.builtin .append, #[(.tmp 28), (.tmp 30)], #[53, 53]⟩, true, none⟩]) <|
 .seq (.ops [⟨some 32, .build 55 #[(3, (.tmp 26)), (4, (.tmp 27)), (5, (.tmp 31)), (6, (.const (.int .u64 1)))], false, none⟩]) <|
 .seq (.ops [⟨some 33, .box 55 (.tmp 32), true, none⟩]) <|
 .seq (.ops [⟨some 6, .assign (.tmp 33), false, none⟩]) <|
 .skip)))) (.amb (.seq (.ops [⟨some 28, .buildSlice 53 0 #[], true, none⟩]) <|
 .amb (.seq (.ops [⟨some 26, .call ⟨.value (.func 39), #[], #[]⟩, true, none⟩]) <|
 .amb (.seq (.ops [⟨some 27, .call ⟨.value (.func 40), #[], #[]⟩, true, none⟩]) <|
 .seq (.ops [⟨some 30, .load 53 (.tmp 29), false, none⟩]) <|
 .seq (.ops [⟨some 31, .call ⟨.builtin .append, #[(.tmp 28), (.tmp 30)], #[53, 53]⟩, true, none⟩]) <|
 .seq (.ops [⟨some 32, .build 55 #[(3, (.tmp 26)), (4, (.tmp 27)), (5, (.tmp 31)), (6, (.const (.int .u64 1)))], false, none⟩]) <|
 .seq (.ops [⟨some 33, .box 55 (.tmp 32), true, none⟩]) <|
 .seq (.ops [⟨some 6, .assign (.tmp 33), false, none⟩]) <|
 .skip) (.seq (.ops [⟨some 30, .load 53 (.tmp 29), false, none⟩]) <|
 .seq (.ops [⟨some 27, .call ⟨.value (.func 40), #[], #[]⟩, true, none⟩]) <|
 .seq (.ops [⟨some 31, .call ⟨.builtin .append, #[(.tmp 28), (.tmp 30)], #[53, 53]⟩, true, none⟩]) <|
 .seq (.ops [⟨some 32, .build 55 #[(3, (.tmp 26)), (4, (.tmp 27)), (5, (.tmp 31)), (6, (.const (.int .u64 1)))], false, none⟩]) <|
 .seq (.ops [⟨some 33, .box 55 (.tmp 32), true, none⟩]) <|
 .seq (.ops [⟨some 6, .assign (.tmp 33), false, none⟩]) <|
 .skip)) (.seq (.ops [⟨some 30, .load 53 (.tmp 29), false, none⟩]) <|
 .seq (.ops [⟨some 26, .call ⟨.value (.func 39), #[], #[]⟩, true, none⟩]) <|
 .seq (.ops [⟨some 27, .call ⟨.value (.func 40), #[], #[]⟩, true, none⟩]) <|
 .seq (.ops [⟨some 31, .call ⟨.builtin .append, #[(.tmp 28), (.tmp 30)], #[53, 53]⟩, true, none⟩]) <|
 .seq (.ops [⟨some 32, .build 55 #[(3, (.tmp 26)), (4, (.tmp 27)), (5, (.tmp 31)), (6, (.const (.int .u64 1)))], false, none⟩]) <|
 .seq (.ops [⟨some 33, .box 55 (.tmp 32), true, none⟩]) <|
 .seq (.ops [⟨some 6, .assign (.tmp 33), false, none⟩]) <|
 .skip)) (.seq (.ops [⟨some 30, .load 53 (.tmp 29), false, none⟩]) <|
 .amb (.seq (.ops [⟨some 26, .call ⟨.value (.func 39), #[], #[]⟩, true, none⟩]) <|
 .amb (.seq (.ops [⟨some 27, .call ⟨.value (.func 40), #[], #[]⟩, true, none⟩]) <|
 .seq (.ops [⟨some 28, .buildSlice 53 0 #[], true, none⟩]) <|
 .seq (.ops [⟨some 31, .call ⟨.builtin .append, #[(.tmp 28), (.tmp 30)], #[53, 53]⟩, true, none⟩]) <|
 .seq (.ops [⟨some 32, .build 55 #[(3, (.tmp 26)), (4, (.tmp 27)), (5, (.tmp 31)), (6, (.const (.int .u64 1)))], false, none⟩]) <|
 .seq (.ops [⟨some 33, .box 55 (.tmp 32), true, none⟩]) <|
 .seq (.ops [⟨some 6, .assign (.tmp 33), false, none⟩]) <|
 .skip) (.seq (.ops [⟨some 28, .buildSlice 53 0 #[], true, none⟩]) <|
 .seq (.ops [⟨some 27, .call ⟨.value (.func 40), #[], #[]⟩, true, none⟩]) <|
 .seq (.ops [⟨some 31, .call ⟨.builtin .append, #[(.tmp 28), (.tmp 30)], #[53, 53]⟩, true, none⟩]) <|
 .seq (.ops [⟨some 32, .build 55 #[(3, (.tmp 26)), (4, (.tmp 27)), (5, (.tmp 31)), (6, (.const (.int .u64 1)))], false, none⟩]) <|
 .seq (.ops [⟨some 33, .box 55 (.tmp 32), true, none⟩]) <|
 .seq (.ops [⟨some 6, .assign (.tmp 33), false, none⟩]) <|
 .skip)) (.seq (.ops [⟨some 28, .buildSlice 53 0 #[], true, none⟩]) <|
 .seq (.ops [⟨some 26, .call ⟨.value (.func 39), #[], #[]⟩, true, none⟩]) <|
 .seq (.ops [⟨some 27, .call ⟨.value (.func 40), #[], #[]⟩, true, none⟩]) <|
 .seq (.ops [⟨some 31, .call ⟨.builtin .append, #[(.tmp 28), (.tmp 30)], #[53, 53]⟩, true, none⟩]) <|
 .seq (.ops [⟨some 32, .build 55 #[(3, (.tmp 26)), (4, (.tmp 27)), (5, (.tmp 31)), (6, (.const (.int .u64 1)))], false, none⟩]) <|
 .seq (.ops [⟨some 33, .box 55 (.tmp 32), true, none⟩]) <|
 .seq (.ops [⟨some 6, .assign (.tmp 33), false, none⟩]) <|
 .skip)))) <|
 .seq (.keep [1, 4, 6]) <|
 .seq (.cond (.const .nilFunc) (.skip) <|
 .skip) <|
 .seq (.keep [1, 4, 5, 6, 7, 8]) <|
 .seq (.seq (.ops [⟨some 51, .move (.tmp 5), false, none⟩,
  ⟨some 52, .binOp .neq 57 (.tmp 51) (.const (.int .i64 0)) 57, false, none⟩]) <|
 .seq (.keep [1, 4, 5, 6, 7, 8, 52]) <|
 .cond (.tmp 52) (.seq (.ops [⟨some 53, .move (.tmp 5), false, none⟩,
  ⟨some 2, .assign (.const (.pointer none)), false, none⟩,
  ⟨some 3, .assign (.tmp 53), false, none⟩]) <|
 .seq (.keep [2, 3]) <|
 .ret) <|
 .skip) <|
 .seq (.keep [1, 4, 6, 7, 8]) <|
 .seq (.ops [⟨some 54, .move (.tmp 6), false, none⟩,
  ⟨some 55, .move (.tmp 7), false, none⟩,
  ⟨some 56, .nilCheck (.tmp 54), false, none⟩,
  ⟨some 57, .fieldAddr 55 (.tmp 56) 0, false, none⟩,
  ⟨none, .store 48 (.tmp 57) (.tmp 55), true, none⟩]) <|
 .seq (.keep [1, 4, 6, 7, 8]) <|
 .seq (.ops [⟨some 58, .move (.tmp 6), false, none⟩,
  ⟨some 59, .move (.tmp 7), false, none⟩,
  ⟨some 60, .fieldAddr 71 (.tmp 1) 8, false, none⟩,
  ⟨some 61, .load 4 (.tmp 60), false, none⟩,
  ⟨some 62, .call ⟨.value (.func 43), #[(.tmp 61)], #[4]⟩, true, none⟩,
  ⟨some 63, .call ⟨.value (.func 42), #[(.tmp 59), (.tmp 62)], #[48, 111]⟩, true, none⟩,
  ⟨some 64, .nilCheck (.tmp 58), false, none⟩,
  ⟨some 65, .fieldAddr 55 (.tmp 64) 1, false, none⟩,
  ⟨none, .store 49 (.tmp 65) (.tmp 63), true, none⟩]) <|
 .seq (.keep [1, 4, 6, 8]) <|
 .seq (.seq (.ops [⟨some 66, .move (.tmp 6), false, none⟩]) <|
 .seq (.ops [⟨some 67, .nilCheck (.tmp 66), false, none⟩]) <|
 .seq (.ops [⟨some 68, .fieldAddr 55 (.tmp 67) 1, false, none⟩]) <|
 .seq (.ops [⟨some 69, .load 49 (.tmp 68), false, none⟩]) <|
 .seq (.ops [⟨some 70, .load 95 (.tmp 8), false, none⟩]) <|
 .seq (.ops [⟨some 71, .call ⟨.value (.func 34), #[(.tmp 69), (.tmp 70)], #[49, 95]⟩, true, none⟩]) <|
 .skip) <|
 .seq (.keep [1, 4, 6]) <|
 .seq (.ops [⟨some 72, .move (.tmp 6), false, none⟩,
  ⟨some 73, .move (.tmp 4), false, none⟩,
  ⟨some 74, .fieldAddr 71 (.tmp 1) 7, false, none⟩,
  ⟨some 75, .load 3 (.tmp 74), false, none⟩,
  ⟨some 76, .call ⟨.value (.func 44), #[(.tmp 73), (.tmp 75)], #[103, 3]⟩, true, none⟩,
  ⟨some 77, .nilCheck (.tmp 72), false, none⟩,
  ⟨some 78, .fieldAddr 55 (.tmp 77) 2, false, none⟩,
  ⟨none, .store 50 (.tmp 78) (.tmp 76), true, none⟩]) <|
 .seq (.keep [6]) <|
 .seq (.ops [⟨some 9, .assign (.const (.int .i64 1601)), false, none⟩]) <|
 .seq (.keep [6, 9]) <|
 .seq (.seq (.ops [⟨some 79, .move (.tmp 9), false, none⟩,
  ⟨some 80, .move (.tmp 9), false, none⟩,
  ⟨some 81, .build 114 #[(0, (.const (.int .i64 64))), (1, (.tmp 79)), (2, (.tmp 80))], false, none⟩,
  ⟨some 82, .move (.const (.int .i64 0)), false, none⟩]) <|
 .seq (.keep [6, 81, 82]) <|
 .block 0 <| .loop <| .seq (.seq (.ops [⟨some 83, .binOp .lss 3 (.tmp 82) (.const (.int .i64 3)) 3, false, none⟩]) <|
 .seq (.keep [6, 81, 82, 83]) <|
 .seq (.cond (.tmp 83) (.skip) <|
 .exit 0) <|
 .seq (.keep [6, 81, 82]) <|
 .seq (.block 1 <| .seq (.ops [⟨some 84, .move (.tmp 82), false, none⟩,
  ⟨some 85, .index 114 (.tmp 81) (.tmp 82), false, none⟩,
  ⟨some 10, .assign (.tmp 84), false, none⟩,
  ⟨some 11, .assign (.tmp 85), false, none⟩]) <|
 .seq (.keep [6, 10, 11, 81, 82]) <|
 .seq (.seq (.ops [⟨some 87, .move (.tmp 6), false, none⟩]) <|
 .seq (.ops [⟨some 88, .nilCheck (.tmp 87), false, none⟩]) <|
 .seq (.ops [⟨some 89, .fieldAddr 55 (.tmp 88) 2, false, none⟩]) <|
 .seq (.ops [⟨some 90, .load 50 (.tmp 89), false, none⟩]) <|
 .seq (.ops [⟨some 91, .build 117 #[(0, (.const (.string ⟨#[47, 105, 110]⟩))), (1, (.const (.string ⟨#[47, 111, 117, 116]⟩))), (2, (.const (.string ⟨#[47, 101, 114, 114]⟩)))], false, none⟩]) <|
 .seq (.ops [⟨some 92, .move (.tmp 10), false, none⟩]) <|
 .seq (.ops [⟨some 93, .index 117 (.tmp 91) (.tmp 92), false, none⟩]) <|
 .seq (.ops [⟨some 94, .move (.tmp 11), false, none⟩]) <|
 .seq (.ops [⟨some 95, .call ⟨.value (.func 45), #[(.tmp 90), (.const (.int .i64 (-100))), (.tmp 93), (.tmp 94), (.const (.int .i64 420))], #[50, 3, 9, 3, 3]⟩, true, none⟩]) <|
 .seq (.ops [⟨some 86, .move (.tmp 95), false, none⟩]) <|
 .seq (.ops [⟨some 96, .extract (.tmp 86) 0, false, none⟩]) <|
 .seq (.ops [⟨some 97, .extract (.tmp 86) 1, false, none⟩]) <|
 .seq (.ops [⟨some 12, .assign (.tmp 96), false, none⟩]) <|
 .seq (.ops [⟨some 13, .assign (.tmp 97), false, none⟩]) <|
 .skip) <|
 .seq (.keep [6, 13, 81, 82]) <|
 .seq (.ops [⟨some 98, .move (.tmp 13), false, none⟩,
  ⟨some 99, .binOp .neq 57 (.tmp 98) (.const (.int .i64 0)) 57, false, none⟩]) <|
 .seq (.keep [6, 13, 81, 82, 99]) <|
 .cond (.tmp 99) (.seq (.ops [⟨some 100, .move (.tmp 13), false, none⟩,
  ⟨some 2, .assign (.const (.pointer none)), false, none⟩,
  ⟨some 3, .assign (.tmp 100), false, none⟩]) <|
 .seq (.keep [2, 3]) <|
 .ret) <|
 .skip) <|
 .seq (.keep [6, 81, 82]) <|
 .ops [⟨some 101, .binOp .add 3 (.tmp 82) (.const (.int .i64 1)) 3, false, none⟩,
  ⟨some 82, .move (.tmp 101), false, none⟩]) <|
 .keep [6, 81, 82]) <|
 .seq (.keep [6]) <|
 .seq (.ops [⟨some 102, .move (.tmp 6), false, none⟩,
  ⟨some 2, .assign (.tmp 102), false, none⟩,
  ⟨some 3, .assign (.const (.int .i64 0)), false, none⟩]) <|
 .seq (.keep [2, 3]) <|
 .ret
theorem c26 : Tryz.f26.body.map (fun c => ((compile Tryz.prog kp26 [] kp26 c).map (·.1), fits Tryz.f26.ntmps c)) = some (some s26, true) := by kernel_rfl
theorem r26 : Tryz.f26.results.toList = [.tmp 2, .tmp 3] := by kernel_rfl
-- marionette/world.sound
abbrev kp37 : List Nat := [2]
def s37 : SC :=
 .seq (.ops [⟨some 1, .box 71 (.tmp 0), true, none⟩,
  ⟨some 2, .assign (.const (.bool false)), false, none⟩]) <|
 .seq (.keep [1]) <|
 .seq (.seq (.ops [⟨some 5, .fieldAddr 71 (.tmp 1) 5, false, none⟩,
  ⟨some 6, .load 3 (.tmp 5), false, none⟩,
  ⟨some 7, .binOp .lss 3 (.tmp 6) (.const (.int .i64 0)) 3, false, none⟩,
  ⟨some 8, .move (.tmp 7), false, none⟩,
  ⟨some 9, .fieldAddr 71 (.tmp 1) 5, false, some (8, false)⟩,
  ⟨some 10, .load 3 (.tmp 9), false, some (8, false)⟩,
  ⟨some 11, .binOp .gtr 3 (.tmp 10) (.const (.int .i64 4194304)) 3, false, some (8, false)⟩,
  ⟨some 12, .pick (.tmp 8) (.const (.bool true)) (.tmp 11), false, none⟩,
  ⟨some 13, .move (.tmp 12), false, none⟩,
  ⟨some 14, .fieldAddr 71 (.tmp 1) 6, false, some (13, false)⟩,
  ⟨some 15, .load 3 (.tmp 14), false, some (13, false)⟩,
  ⟨some 16, .binOp .lss 3 (.tmp 15) (.const (.int .i64 0)) 3, false, some (13, false)⟩,
  ⟨some 17, .pick (.tmp 13) (.const (.bool true)) (.tmp 16), false, none⟩,
  ⟨some 18, .move (.tmp 17), false, none⟩,
  ⟨some 19, .fieldAddr 71 (.tmp 1) 6, false, some (18, false)⟩,
  ⟨some 20, .load 3 (.tmp 19), false, some (18, false)⟩,
  ⟨some 21, .binOp .gtr 3 (.tmp 20) (.const (.int .i64 4096)) 3, false, some (18, false)⟩,
  ⟨some 22, .pick (.tmp 18) (.const (.bool true)) (.tmp 21), false, none⟩,
  ⟨some 23, .move (.tmp 22), false, none⟩,
  ⟨some 24, .fieldAddr 71 (.tmp 1) 7, false, some (23, false)⟩,
  ⟨some 25, .load 3 (.tmp 24), false, some (23, false)⟩,
  ⟨some 26, .binOp .lss 3 (.tmp 25) (.const (.int .i64 3)) 3, false, some (23, false)⟩,
  ⟨some 27, .pick (.tmp 23) (.const (.bool true)) (.tmp 26), false, none⟩,
  ⟨some 28, .move (.tmp 27), false, none⟩,
  ⟨some 29, .fieldAddr 71 (.tmp 1) 7, false, some (28, false)⟩,
  ⟨some 30, .load 3 (.tmp 29), false, some (28, false)⟩,
  ⟨some 31, .binOp .gtr 3 (.tmp 30) (.const (.int .i64 256)) 3, false, some (28, false)⟩,
  ⟨some 32, .pick (.tmp 28) (.const (.bool true)) (.tmp 31), false, none⟩,
  ⟨some 33, .move (.tmp 32), false, none⟩,
  ⟨some 34, .fieldAddr 71 (.tmp 1) 4, false, some (33, false)⟩,
  ⟨some 35, .load 53 (.tmp 34), false, some (33, false)⟩,
  ⟨some 36, .call ⟨.builtin .len, #[(.tmp 35)], #[53]⟩, false, some (33, false)⟩,
  ⟨some 37, .binOp .gtr 3 (.tmp 36) (.const (.int .i64 65536)) 3, false, some (33, false)⟩,
  ⟨some 38, .pick (.tmp 33) (.const (.bool true)) (.tmp 37), false, none⟩]) <|
 .seq (.keep [1, 38]) <|
 .cond (.tmp 38) (.seq (.ops [⟨some 2, .assign (.const (.bool false)), false, none⟩]) <|
 .seq (.keep [2]) <|
 .ret) <|
 .skip) <|
 .seq (.keep [1]) <|
 .seq (.seq (.ops [⟨some 39, .fieldAddr 71 (.tmp 1) 4, false, none⟩,
  ⟨some 40, .load 53 (.tmp 39), false, none⟩,
  ⟨some 41, .call ⟨.builtin .len, #[(.tmp 40)], #[53]⟩, false, none⟩,
  ⟨some 42, .move (.const (.int .i64 0)), false, none⟩]) <|
 .seq (.keep [40, 41, 42]) <|
 .block 0 <| .loop <| .seq (.seq (.ops [⟨some 43, .binOp .lss 3 (.tmp 42) (.tmp 41) 3, false, none⟩]) <|
 .seq (.keep [40, 41, 42, 43]) <|
 .seq (.cond (.tmp 43) (.skip) <|
 .exit 0) <|
 .seq (.keep [40, 41, 42]) <|
 .seq (.block 1 <| .seq (.ops [⟨some 44, .indexAddr 53 (.tmp 40) (.tmp 42), false, none⟩,
  ⟨some 45, .load 78 (.tmp 44), false, none⟩,
  ⟨some 4, .alloc 78, true, none⟩,
  ⟨none, .store 78 (.tmp 4) (.tmp 45), true, none⟩]) <|
 .seq (.keep [4, 40, 41, 42]) <|
 .seq (.ops [⟨some 46, .fieldAddr 78 (.tmp 4) 0, false, none⟩,
  ⟨some 47, .load 3 (.tmp 46), false, none⟩,
  ⟨some 48, .binOp .lss 3 (.tmp 47) (.const (.int .i64 1)) 3, false, none⟩,
  ⟨some 49, .move (.tmp 48), false, none⟩,
  ⟨some 50, .fieldAddr 78 (.tmp 4) 0, false, some (49, false)⟩,
  ⟨some 51, .load 3 (.tmp 50), false, some (49, false)⟩,
  ⟨some 52, .binOp .gtr 3 (.tmp 51) (.const (.int .i64 4)) 3, false, some (49, false)⟩,
  ⟨some 53, .pick (.tmp 49) (.const (.bool true)) (.tmp 52), false, none⟩]) <|
 .seq (.keep [40, 41, 42, 53]) <|
 .cond (.tmp 53) (.seq (.ops [⟨some 2, .assign (.const (.bool false)), false, none⟩]) <|
 .seq (.keep [2]) <|
 .ret) <|
 .skip) <|
 .seq (.keep [40, 41, 42]) <|
 .ops [⟨some 54, .binOp .add 3 (.tmp 42) (.const (.int .i64 1)) 3, false, none⟩,
  ⟨some 42, .move (.tmp 54), false, none⟩]) <|
 .keep [40, 41, 42]) <|
 .seq (.keep []) <|
 .seq (.ops [⟨some 2, .assign (.const (.bool true)), false, none⟩]) <|
 .seq (.keep [2]) <|
 .ret
theorem c37 : Tryz.f37.body.map (fun c => ((compile Tryz.prog kp37 [] kp37 c).map (·.1), fits Tryz.f37.ntmps c)) = some (some s37, true) := by kernel_rfl
theorem r37 : Tryz.f37.results.toList = [.tmp 2] := by kernel_rfl
end Go.SX.G
