/- The compiled texts of the functions that are walked here, each checked against the loaded program; facts on its types. Printed by a program of this session. -/
import Derived.Test.YtajfhnphhdoobaaSxSimp
import Derived.Test.YtajfhnphhdoobaaProg
set_option linter.unusedVariables false
namespace Go.SX.G
open Go Go.SX Go.Proofs
theorem mixed : Try.prog.follows .mixedOrders = true := by kernel_rfl
theorem ar132 : arE Try.prog 132 = some (4096, 5, 1) := by kernel_rfl
theorem ar172 : arE Try.prog 172 = some (8, 3, 1) := by kernel_rfl
theorem by5 : byP Try.prog 5 = some 1 := by kernel_rfl
theorem by83 : byP Try.prog 83 = some 24 := by kernel_rfl
theorem fo117_0 : foff Try.prog 117 0 = some 0 := by kernel_rfl
theorem fo121_0 : foff Try.prog 121 0 = some 0 := by kernel_rfl
theorem fo121_1 : foff Try.prog 121 1 = some 1 := by kernel_rfl
theorem fo121_2 : foff Try.prog 121 2 = some 2 := by kernel_rfl
theorem fo121_3 : foff Try.prog 121 3 = some 3 := by kernel_rfl
theorem fo34_0 : foff Try.prog 34 0 = some 0 := by kernel_rfl
theorem fo34_1 : foff Try.prog 34 1 = some 1 := by kernel_rfl
theorem fo34_2 : foff Try.prog 34 2 = some 2 := by kernel_rfl
theorem fo34_6 : foff Try.prog 34 6 = some 6 := by kernel_rfl
theorem fo36_0 : foff Try.prog 36 0 = some 0 := by kernel_rfl
theorem fo38_0 : foff Try.prog 38 0 = some 0 := by kernel_rfl
theorem fo78_0 : foff Try.prog 78 0 = some 0 := by kernel_rfl
theorem fo78_1 : foff Try.prog 78 1 = some 1 := by kernel_rfl
theorem fo78_2 : foff Try.prog 78 2 = some 2 := by kernel_rfl
theorem fo83_0 : foff Try.prog 83 0 = some 0 := by kernel_rfl
theorem fo83_1 : foff Try.prog 83 1 = some 1 := by kernel_rfl
theorem fo83_2 : foff Try.prog 83 2 = some 2 := by kernel_rfl
theorem fo88_0 : foff Try.prog 88 0 = some 0 := by kernel_rfl
theorem fo88_1 : foff Try.prog 88 1 = some 1 := by kernel_rfl
theorem fo88_2 : foff Try.prog 88 2 = some 2 := by kernel_rfl
theorem fo90_0 : foff Try.prog 90 0 = some 0 := by kernel_rfl
theorem fo90_1 : foff Try.prog 90 1 = some 7 := by kernel_rfl
theorem fo90_2 : foff Try.prog 90 2 = some 8 := by kernel_rfl
theorem pl117_0 : place Try.prog 117 0 = some (0, 1) := by kernel_rfl
theorem pl121_0 : place Try.prog 121 0 = some (0, 1) := by kernel_rfl
theorem pl121_1 : place Try.prog 121 1 = some (1, 1) := by kernel_rfl
theorem pl34_0 : place Try.prog 34 0 = some (0, 1) := by kernel_rfl
theorem pl34_1 : place Try.prog 34 1 = some (1, 1) := by kernel_rfl
theorem pl34_2 : place Try.prog 34 2 = some (2, 1) := by kernel_rfl
theorem pl34_3 : place Try.prog 34 3 = some (3, 1) := by kernel_rfl
theorem pl34_4 : place Try.prog 34 4 = some (4, 1) := by kernel_rfl
theorem pl34_5 : place Try.prog 34 5 = some (5, 1) := by kernel_rfl
theorem pl36_0 : place Try.prog 36 0 = some (0, 1) := by kernel_rfl
theorem pl36_1 : place Try.prog 36 1 = some (1, 1) := by kernel_rfl
theorem pl38_0 : place Try.prog 38 0 = some (0, 1) := by kernel_rfl
theorem pl38_1 : place Try.prog 38 1 = some (1, 2) := by kernel_rfl
theorem pl78_0 : place Try.prog 78 0 = some (0, 1) := by kernel_rfl
theorem pl78_1 : place Try.prog 78 1 = some (1, 1) := by kernel_rfl
theorem pl78_2 : place Try.prog 78 2 = some (2, 1) := by kernel_rfl
theorem pl83_0 : place Try.prog 83 0 = some (0, 1) := by kernel_rfl
theorem pl83_1 : place Try.prog 83 1 = some (1, 1) := by kernel_rfl
theorem pl83_2 : place Try.prog 83 2 = some (2, 1) := by kernel_rfl
theorem pl88_0 : place Try.prog 88 0 = some (0, 1) := by kernel_rfl
theorem pl88_1 : place Try.prog 88 1 = some (1, 1) := by kernel_rfl
theorem pl90_0 : place Try.prog 90 0 = some (0, 7) := by kernel_rfl
theorem pl90_1 : place Try.prog 90 1 = some (7, 1) := by kernel_rfl
theorem pl90_2 : place Try.prog 90 2 = some (8, 1) := by kernel_rfl
theorem sd117 : sized Try.prog 117 = true := by kernel_rfl
theorem sd121 : sized Try.prog 121 = true := by kernel_rfl
theorem sd132 : sized Try.prog 132 = true := by kernel_rfl
theorem sd172 : sized Try.prog 172 = true := by kernel_rfl
theorem sd34 : sized Try.prog 34 = true := by kernel_rfl
theorem sd36 : sized Try.prog 36 = true := by kernel_rfl
theorem sd38 : sized Try.prog 38 = true := by kernel_rfl
theorem sd78 : sized Try.prog 78 = true := by kernel_rfl
theorem sd83 : sized Try.prog 83 = true := by kernel_rfl
theorem sd88 : sized Try.prog 88 = true := by kernel_rfl
theorem sd90 : sized Try.prog 90 = true := by kernel_rfl
theorem sh115 : shP Try.prog 115 = some .one := by kernel_rfl
theorem sh118 : shP Try.prog 118 = some .one := by kernel_rfl
theorem sh119 : shP Try.prog 119 = some .one := by kernel_rfl
theorem sh23 : shP Try.prog 23 = some .one := by kernel_rfl
theorem sh26 : shP Try.prog 26 = some .one := by kernel_rfl
theorem sh3 : shP Try.prog 3 = some .one := by kernel_rfl
theorem sh34 : shP Try.prog 34 = some (.agg 7) := by kernel_rfl
theorem sh36 : shP Try.prog 36 = some (.agg 2) := by kernel_rfl
theorem sh38 : shP Try.prog 38 = some (.agg 3) := by kernel_rfl
theorem sh4 : shP Try.prog 4 = some .one := by kernel_rfl
theorem sh5 : shP Try.prog 5 = some .one := by kernel_rfl
theorem sh73 : shP Try.prog 73 = some .one := by kernel_rfl
theorem sh75 : shP Try.prog 75 = some .one := by kernel_rfl
theorem sh83 : shP Try.prog 83 = some (.agg 3) := by kernel_rfl
theorem sh86 : shP Try.prog 86 = some .one := by kernel_rfl
theorem sl115 : slE Try.prog 115 = some (83, 3) := by kernel_rfl
theorem sl22 : slE Try.prog 22 = some (5, 1) := by kernel_rfl
theorem sz115 : szP Try.prog 115 = some 1 := by kernel_rfl
theorem sz23 : szP Try.prog 23 = some 1 := by kernel_rfl
theorem sz26 : szP Try.prog 26 = some 1 := by kernel_rfl
theorem sz3 : szP Try.prog 3 = some 1 := by kernel_rfl
theorem sz34 : szP Try.prog 34 = some 7 := by kernel_rfl
theorem sz36 : szP Try.prog 36 = some 2 := by kernel_rfl
theorem sz38 : szP Try.prog 38 = some 3 := by kernel_rfl
theorem sz5 : szP Try.prog 5 = some 1 := by kernel_rfl
theorem sz73 : szP Try.prog 73 = some 1 := by kernel_rfl
theorem sz78 : szP Try.prog 78 = some 5 := by kernel_rfl
theorem sz83 : szP Try.prog 83 = some 3 := by kernel_rfl
theorem sz90 : szP Try.prog 90 = some 9 := by kernel_rfl
theorem zc117 : zc Try.prog 117 = some [(.slice none 0 0)] := by kernel_rfl
theorem zc121 : zc Try.prog 121 = some [(.map none), (.map none), (.int .u64 0), (.int .u64 0)] := by kernel_rfl
theorem zc132 : zc Try.prog 132 = some (repV 4096 (.int .u8 0)) := by kernel_rfl
theorem zc172 : zc Try.prog 172 = some [(.int .i64 0), (.int .i64 0), (.int .i64 0), (.int .i64 0), (.int .i64 0), (.int .i64 0), (.int .i64 0), (.int .i64 0)] := by kernel_rfl
theorem zc34 : zc Try.prog 34 = some [(.int .i64 0), (.int .i64 0), (.int .i64 0), (.int .i64 0), (.int .i64 0), (.int .i64 0), (.int .i64 0)] := by kernel_rfl
theorem zc36 : zc Try.prog 36 = some [(.int .i64 0), (.int .u64 0)] := by kernel_rfl
theorem zc38 : zc Try.prog 38 = some [(.int .i64 0), (.int .i64 0), (.int .u64 0)] := by kernel_rfl
theorem zc78 : zc Try.prog 78 = some [(.pointer none), (.pointer none), (.int .i64 0), (.int .u64 0), (.int .u64 0)] := by kernel_rfl
theorem zc83 : zc Try.prog 83 = some [(.int .u64 0), (.int .u64 0), (.int .i64 0)] := by kernel_rfl
theorem zc88 : zc Try.prog 88 = some [(.bool false), (.map none), (.pointer none)] := by kernel_rfl
theorem zc90 : zc Try.prog 90 = some [(.int .i64 0), (.int .i64 0), (.int .i64 0), (.int .i64 0), (.int .i64 0), (.int .i64 0), (.int .i64 0), (.int .u64 0), (.int .u64 0)] := by kernel_rfl
theorem ze129 : zeroP Try.prog 129 = some (.pointer none) := by kernel_rfl
theorem ze26 : zeroP Try.prog 26 = some (.int .u64 0) := by kernel_rfl
theorem ze5 : zeroP Try.prog 5 = some (.int .u8 0) := by kernel_rfl
theorem ze83 : zeroP Try.prog 83 = some (.agg #[(.int .u64 0), (.int .u64 0), (.int .i64 0)]) := by kernel_rfl
theorem ze90 : zeroP Try.prog 90 = some (.agg #[(.int .i64 0), (.int .i64 0), (.int .i64 0), (.int .i64 0), (.int .i64 0), (.int .i64 0), (.int .i64 0), (.int .u64 0), (.int .u64 0)]) := by kernel_rfl
-- marionette/marionettelaw10.CacheSpaces
abbrev kp3 : List Nat := [6]
def s3 : SC :=
 .seq (.ops [⟨some 6, .assign (.const (.bool false)), false, none⟩]) <|
 .seq (.keep [0, 1, 2]) <|
 .seq (.ops [⟨some 18, .call ⟨.value (.func 7), #[(.const (.int .i64 2))], #[3]⟩, true, none⟩,
  ⟨some 19, .call ⟨.value (.func 7), #[(.const (.int .i64 2))], #[3]⟩, true, none⟩,
  ⟨some 7, .assign (.tmp 18), false, none⟩,
  ⟨some 8, .assign (.tmp 19), false, none⟩]) <|
 .seq (.keep [0, 1, 2, 7, 8]) <|
 .seq (.seq (.ops [⟨some 20, .call ⟨.value (.func 8), #[], #[]⟩, true, none⟩,
  ⟨some 21, .unOp .not 4 (.tmp 20), false, none⟩,
  ⟨some 22, .move (.tmp 21), false, none⟩,
  ⟨some 23, .move (.tmp 7), false, some (22, false)⟩,
  ⟨some 24, .binOp .eql 23 (.tmp 23) (.const (.pointer none)) 23, false, some (22, false)⟩,
  ⟨some 25, .pick (.tmp 22) (.const (.bool true)) (.tmp 24), false, none⟩,
  ⟨some 26, .move (.tmp 25), false, none⟩,
  ⟨some 27, .move (.tmp 8), false, some (26, false)⟩,
  ⟨some 28, .binOp .eql 23 (.tmp 27) (.const (.pointer none)) 23, false, some (26, false)⟩,
  ⟨some 29, .pick (.tmp 26) (.const (.bool true)) (.tmp 28), false, none⟩,
  ⟨some 30, .move (.tmp 29), false, none⟩,
  ⟨some 31, .move (.tmp 0), false, some (30, false)⟩,
  ⟨some 32, .call ⟨.builtin .len, #[(.tmp 31)], #[22]⟩, false, some (30, false)⟩,
  ⟨some 33, .binOp .gtr 3 (.tmp 32) (.const (.int .i64 4000)) 3, false, some (30, false)⟩,
  ⟨some 34, .pick (.tmp 30) (.const (.bool true)) (.tmp 33), false, none⟩,
  ⟨some 35, .move (.tmp 34), false, none⟩,
  ⟨some 36, .move (.tmp 1), false, some (35, false)⟩,
  ⟨some 37, .call ⟨.builtin .len, #[(.tmp 36)], #[22]⟩, false, some (35, false)⟩,
  ⟨some 38, .binOp .gtr 3 (.tmp 37) (.const (.int .i64 4000)) 3, false, some (35, false)⟩,
  ⟨some 39, .pick (.tmp 35) (.const (.bool true)) (.tmp 38), false, none⟩]) <|
 .seq (.keep [0, 1, 2, 7, 8, 39]) <|
 .cond (.tmp 39) (.seq (.ops [⟨some 40, .call ⟨.value (.func 8), #[], #[]⟩, true, none⟩,
  ⟨some 41, .move (.tmp 40), false, none⟩,
  ⟨some 42, .move (.tmp 7), false, some (41, true)⟩,
  ⟨some 43, .binOp .neq 23 (.tmp 42) (.const (.pointer none)) 23, false, some (41, true)⟩,
  ⟨some 44, .pick (.tmp 41) (.tmp 43) (.const (.bool false)), false, none⟩,
  ⟨some 45, .move (.tmp 44), false, none⟩,
  ⟨some 46, .move (.tmp 8), false, some (45, true)⟩,
  ⟨some 47, .binOp .neq 23 (.tmp 46) (.const (.pointer none)) 23, false, some (45, true)⟩,
  ⟨some 48, .pick (.tmp 45) (.tmp 47) (.const (.bool false)), false, none⟩,
  ⟨some 6, .assign (.tmp 48), false, none⟩]) <|
 .seq (.keep [6]) <|
 .ret) <|
 .skip) <|
 .seq (.keep [0, 1, 2, 7, 8]) <|
 .seq (.ops [⟨some 49, .move (.tmp 7), false, none⟩,
  ⟨some 50, .call ⟨.value (.func 9), #[(.tmp 49), (.const (.int .u64 4096)), (.const (.int .u64 4096)), (.const (.int .i64 7)), (.const (.bool true))], #[23, 26, 26, 3, 4]⟩, true, none⟩]) <|
 .seq (.keep [0, 1, 2, 7, 8]) <|
 .seq (.ops [⟨some 51, .move (.tmp 8), false, none⟩,
  ⟨some 52, .call ⟨.value (.func 9), #[(.tmp 51), (.const (.int .u64 4096)), (.const (.int .u64 4096)), (.const (.int .i64 7)), (.const (.bool true))], #[23, 26, 26, 3, 4]⟩, true, none⟩]) <|
 .seq (.keep [0, 1, 2, 7, 8]) <|
 .seq (.ops [⟨some 53, .move (.tmp 7), false, none⟩,
  ⟨some 54, .move (.tmp 0), false, none⟩,
  ⟨some 55, .call ⟨.value (.func 10), #[(.tmp 53), (.const (.int .u64 4096)), (.tmp 54)], #[23, 26, 22]⟩, true, none⟩]) <|
 .seq (.keep [1, 2, 7, 8]) <|
 .seq (.ops [⟨some 56, .move (.tmp 8), false, none⟩,
  ⟨some 57, .move (.tmp 1), false, none⟩,
  ⟨some 58, .call ⟨.value (.func 10), #[(.tmp 56), (.const (.int .u64 4096)), (.tmp 57)], #[23, 26, 22]⟩, true, none⟩]) <|
 .seq (.keep [2, 7, 8]) <|
 .seq (.ops [⟨some 59, .call ⟨.value (.func 11), #[(.const (.bool true))], #[4]⟩, true, none⟩,
  ⟨some 9, .assign (.tmp 59), false, none⟩]) <|
 .seq (.keep [2, 7, 8, 9]) <|
 .seq (.ops [⟨some 10, .assign (.const (.pointer none)), false, none⟩]) <|
 .seq (.keep [2, 7, 8, 9, 10]) <|
 .seq (.seq (.ops [⟨some 11, .assign (.const (.int .i64 0)), false, none⟩]) <|
 .seq (.keep [2, 7, 8, 9, 10, 11]) <|
 .block 0 <| .loop <| .seq (.seq (.seq (.ops [⟨some 60, .move (.tmp 11), false, none⟩,
  ⟨some 61, .move (.tmp 2), false, none⟩,
  ⟨some 62, .call ⟨.builtin .len, #[(.tmp 61)], #[22]⟩, false, none⟩,
  ⟨some 63, .binOp .lss 3 (.tmp 60) (.tmp 62) 3, false, none⟩,
  ⟨some 64, .move (.tmp 63), false, none⟩,
  ⟨some 65, .move (.tmp 11), false, some (64, true)⟩,
  ⟨some 66, .binOp .lss 3 (.tmp 65) (.const (.int .i64 100)) 3, false, some (64, true)⟩,
  ⟨some 67, .pick (.tmp 64) (.tmp 66) (.const (.bool false)), false, none⟩]) <|
 .seq (.keep [2, 7, 8, 9, 10, 11, 67]) <|
 .cond (.tmp 67) (.skip) <|
 .exit 0) <|
 .seq (.keep [2, 7, 8, 9, 10, 11]) <|
 .seq (.block 1 <| .seq (.ops [⟨some 70, .move (.tmp 2), false, none⟩,
  ⟨some 71, .move (.tmp 11), false, none⟩,
  ⟨some 72, .indexAddr 22 (.tmp 70) (.tmp 71), false, none⟩,
  ⟨some 73, .load 5 (.tmp 72), false, none⟩,
  ⟨some 74, .binOp .quo 5 (.tmp 73) (.const (.int .u8 2)) 5, false, none⟩,
  ⟨some 75, .convert 5 26 (.tmp 74), false, none⟩,
  ⟨some 76, .binOp .mul 26 (.tmp 75) (.const (.int .u64 2)) 26, false, none⟩,
  ⟨some 77, .binOp .add 26 (.const (.int .u64 4096)) (.tmp 76) 26, false, none⟩,
  ⟨some 12, .assign (.tmp 77), false, none⟩]) <|
 .seq (.keep [2, 7, 8, 9, 10, 11, 12]) <|
 .seq (.ops [⟨some 78, .move (.tmp 7), false, none⟩,
  ⟨some 13, .assign (.tmp 78), false, none⟩]) <|
 .seq (.keep [2, 7, 8, 9, 10, 11, 12, 13]) <|
 .seq (.seq (.ops [⟨some 79, .move (.tmp 2), false, none⟩,
  ⟨some 80, .move (.tmp 11), false, none⟩,
  ⟨some 81, .indexAddr 22 (.tmp 79) (.tmp 80), false, none⟩,
  ⟨some 82, .load 5 (.tmp 81), false, none⟩,
  ⟨some 83, .binOp .rem 5 (.tmp 82) (.const (.int .u8 2)) 5, false, none⟩,
  ⟨some 84, .binOp .eql 5 (.tmp 83) (.const (.int .u8 1)) 5, false, none⟩]) <|
 .seq (.keep [2, 7, 8, 9, 10, 11, 12, 13, 84]) <|
 .cond (.tmp 84) (.ops [⟨some 85, .move (.tmp 8), false, none⟩,
  ⟨some 13, .assign (.tmp 85), false, none⟩]) <|
 .skip) <|
 .seq (.keep [2, 7, 8, 9, 10, 11, 12, 13]) <|
 .seq (.ops [⟨some 87, .move (.tmp 9), false, none⟩,
  ⟨some 88, .move (.tmp 13), false, none⟩,
  ⟨some 89, .move (.tmp 12), false, none⟩,
  ⟨some 90, .call ⟨.value (.func 12), #[(.tmp 87), (.tmp 88), (.tmp 89)], #[31, 23, 26]⟩, true, none⟩,
  ⟨some 86, .move (.tmp 90), false, none⟩,
  ⟨some 91, .extract (.tmp 86) 0, false, none⟩,
  ⟨some 92, .extract (.tmp 86) 1, false, none⟩,
  ⟨some 14, .alloc 34, true, none⟩,
  ⟨some 15, .alloc 38, true, none⟩,
  ⟨none, .store 34 (.tmp 14) (.tmp 91), true, none⟩,
  ⟨none, .store 38 (.tmp 15) (.tmp 92), true, none⟩]) <|
 .seq (.keep [2, 7, 8, 9, 10, 11, 12, 13, 14, 15]) <|
 .seq (.ops [⟨some 94, .move (.tmp 10), false, none⟩,
  ⟨some 95, .move (.tmp 13), false, none⟩,
  ⟨some 96, .move (.tmp 12), false, none⟩,
  ⟨some 97, .call ⟨.value (.func 12), #[(.tmp 94), (.tmp 95), (.tmp 96)], #[31, 23, 26]⟩, true, none⟩,
  ⟨some 93, .move (.tmp 97), false, none⟩,
  ⟨some 98, .extract (.tmp 93) 0, false, none⟩,
  ⟨some 99, .extract (.tmp 93) 1, false, none⟩,
  ⟨some 16, .alloc 34, true, none⟩,
  ⟨some 17, .alloc 38, true, none⟩,
  ⟨none, .store 34 (.tmp 16) (.tmp 98), true, none⟩,
  ⟨none, .store 38 (.tmp 17) (.tmp 99), true, none⟩]) <|
 .seq (.keep [2, 7, 8, 9, 10, 11, 14, 15, 16, 17]) <|
 .seq (.ops [⟨some 100, .load 34 (.tmp 14), false, none⟩,
  ⟨some 101, .load 34 (.tmp 16), false, none⟩,
  ⟨some 102, .binOp .neq 34 (.tmp 100) (.tmp 101) 34, false, none⟩,
  ⟨some 103, .move (.tmp 102), false, none⟩,
  ⟨some 104, .load 38 (.tmp 15), false, some (103, false)⟩,
  ⟨some 105, .load 38 (.tmp 17), false, some (103, false)⟩,
  ⟨some 106, .binOp .neq 38 (.tmp 104) (.tmp 105) 38, false, some (103, false)⟩,
  ⟨some 107, .pick (.tmp 103) (.const (.bool true)) (.tmp 106), false, none⟩]) <|
 .seq (.keep [2, 7, 8, 9, 10, 11, 107]) <|
 .cond (.tmp 107) (.seq (.ops [⟨some 6, .assign (.const (.bool false)), false, none⟩]) <|
 .seq (.keep [6]) <|
 .ret) <|
 .skip) <|
 .seq (.keep [2, 7, 8, 9, 10, 11]) <|
 .ops [⟨some 68, .move (.tmp 11), false, none⟩,
  ⟨some 69, .binOp .add 3 (.tmp 68) (.const (.int .i64 1)) 3, false, none⟩,
  ⟨some 11, .assign (.tmp 69), false, none⟩]) <|
 .keep [2, 7, 8, 9, 10, 11]) <|
 .seq (.keep []) <|
 .seq (.ops [⟨some 6, .assign (.const (.bool true)), false, none⟩]) <|
 .seq (.keep [6]) <|
 .ret
theorem c3 : Try.f3.body.map (fun c => ((compile Try.prog kp3 [] kp3 c).map (·.1), fits Try.f3.ntmps c)) = some (some s3, true) := by kernel_rfl
theorem r3 : Try.f3.results.toList = [.tmp 6] := by kernel_rfl
-- marionette/marionettelaw10.CacheMany
abbrev kp4 : List Nat := [4]
def s4 : SC :=
 .seq (.ops [⟨some 4, .assign (.const (.bool false)), false, none⟩]) <|
 .seq (.keep [0, 1]) <|
 .seq (.ops [⟨some 16, .call ⟨.value (.func 7), #[(.const (.int .i64 10))], #[3]⟩, true, none⟩,
  ⟨some 5, .assign (.tmp 16), false, none⟩]) <|
 .seq (.keep [0, 1, 5]) <|
 .seq (.seq (.ops [⟨some 17, .call ⟨.value (.func 8), #[], #[]⟩, true, none⟩,
  ⟨some 18, .unOp .not 4 (.tmp 17), false, none⟩,
  ⟨some 19, .move (.tmp 18), false, none⟩,
  ⟨some 20, .move (.tmp 5), false, some (19, false)⟩,
  ⟨some 21, .binOp .eql 23 (.tmp 20) (.const (.pointer none)) 23, false, some (19, false)⟩,
  ⟨some 22, .pick (.tmp 19) (.const (.bool true)) (.tmp 21), false, none⟩]) <|
 .seq (.keep [0, 1, 5, 22]) <|
 .cond (.tmp 22) (.seq (.ops [⟨some 4, .assign (.const (.bool false)), false, none⟩]) <|
 .seq (.keep [4]) <|
 .ret) <|
 .skip) <|
 .seq (.keep [0, 1, 5]) <|
 .seq (.ops [⟨some 23, .move (.tmp 5), false, none⟩,
  ⟨some 24, .call ⟨.value (.func 9), #[(.tmp 23), (.const (.int .u64 4096)), (.const (.int .u64 16384)), (.const (.int .i64 5)), (.const (.bool true))], #[23, 26, 26, 3, 4]⟩, true, none⟩]) <|
 .seq (.keep [0, 1, 5]) <|
 .seq (.ops [⟨some 25, .move (.tmp 1), false, none⟩,
  ⟨some 26, .binOp .andNot 5 (.tmp 25) (.const (.int .u8 3)) 5, false, none⟩,
  ⟨some 27, .binOp .or 5 (.tmp 26) (.const (.int .u8 1)) 5, false, none⟩,
  ⟨some 28, .buildSlice 22 2 #[(0, (.tmp 27)), (1, (.const (.int .u8 69)))], true, none⟩,
  ⟨some 6, .assign (.tmp 28), false, none⟩]) <|
 .seq (.keep [0, 5, 6]) <|
 .seq (.seq (.ops [⟨some 7, .assign (.const (.int .i64 0)), false, none⟩]) <|
 .seq (.keep [0, 5, 6, 7]) <|
 .block 0 <| .loop <| .seq (.seq (.seq (.ops [⟨some 29, .move (.tmp 7), false, none⟩,
  ⟨some 30, .binOp .lss 3 (.tmp 29) (.const (.int .i64 8192)) 3, false, none⟩]) <|
 .seq (.keep [0, 5, 6, 7, 30]) <|
 .cond (.tmp 30) (.skip) <|
 .exit 0) <|
 .seq (.keep [0, 5, 6, 7]) <|
 .seq (.block 1 <| .ops [⟨some 33, .move (.tmp 5), false, none⟩,
  ⟨some 34, .move (.tmp 7), false, none⟩,
  ⟨some 35, .binOp .mul 3 (.const (.int .i64 2)) (.tmp 34) 3, false, none⟩,
  ⟨some 36, .convert 3 26 (.tmp 35), false, none⟩,
  ⟨some 37, .binOp .add 26 (.const (.int .u64 4096)) (.tmp 36) 26, false, none⟩,
  ⟨some 38, .move (.tmp 6), false, none⟩,
  ⟨some 39, .call ⟨.value (.func 10), #[(.tmp 33), (.tmp 37), (.tmp 38)], #[23, 26, 22]⟩, true, none⟩]) <|
 .seq (.keep [0, 5, 6, 7]) <|
 .ops [⟨some 31, .move (.tmp 7), false, none⟩,
  ⟨some 32, .binOp .add 3 (.tmp 31) (.const (.int .i64 1)) 3, false, none⟩,
  ⟨some 7, .assign (.tmp 32), false, none⟩]) <|
 .keep [0, 5, 6, 7]) <|
 .seq (.keep [0, 5]) <|
 .seq (.ops [⟨some 40, .call ⟨.value (.func 11), #[(.const (.bool true))], #[4]⟩, true, none⟩,
  ⟨some 8, .assign (.tmp 40), false, none⟩]) <|
 .seq (.keep [0, 5, 8]) <|
 .seq (.ops [⟨some 9, .assign (.const (.pointer none)), false, none⟩]) <|
 .seq (.keep [0, 5, 8, 9]) <|
 .seq (.seq (.ops [⟨some 10, .assign (.const (.int .i64 0)), false, none⟩]) <|
 .seq (.keep [0, 5, 8, 9, 10]) <|
 .block 2 <| .loop <| .seq (.seq (.seq (.ops [⟨some 41, .move (.tmp 10), false, none⟩,
  ⟨some 42, .move (.tmp 0), false, none⟩,
  ⟨some 43, .binOp .rem 42 (.tmp 42) (.const (.int .u16 9000)) 42, false, none⟩,
  ⟨some 44, .convert 42 3 (.tmp 43), false, none⟩,
  ⟨some 45, .binOp .lss 3 (.tmp 41) (.tmp 44) 3, false, none⟩]) <|
 .seq (.keep [0, 5, 8, 9, 10, 45]) <|
 .cond (.tmp 45) (.skip) <|
 .exit 2) <|
 .seq (.keep [0, 5, 8, 9, 10]) <|
 .seq (.block 3 <| .seq (.ops [⟨some 48, .move (.tmp 10), false, none⟩,
  ⟨some 49, .binOp .mul 3 (.const (.int .i64 2)) (.tmp 48) 3, false, none⟩,
  ⟨some 50, .convert 3 26 (.tmp 49), false, none⟩,
  ⟨some 51, .binOp .add 26 (.const (.int .u64 4096)) (.tmp 50) 26, false, none⟩,
  ⟨some 11, .assign (.tmp 51), false, none⟩]) <|
 .seq (.keep [0, 5, 8, 9, 10, 11]) <|
 .seq (.ops [⟨some 53, .move (.tmp 8), false, none⟩,
  ⟨some 54, .move (.tmp 5), false, none⟩,
  ⟨some 55, .move (.tmp 11), false, none⟩,
  ⟨some 56, .call ⟨.value (.func 12), #[(.tmp 53), (.tmp 54), (.tmp 55)], #[31, 23, 26]⟩, true, none⟩,
  ⟨some 52, .move (.tmp 56), false, none⟩,
  ⟨some 57, .extract (.tmp 52) 0, false, none⟩,
  ⟨some 58, .extract (.tmp 52) 1, false, none⟩,
  ⟨some 12, .alloc 34, true, none⟩,
  ⟨some 13, .alloc 38, true, none⟩,
  ⟨none, .store 34 (.tmp 12) (.tmp 57), true, none⟩,
  ⟨none, .store 38 (.tmp 13) (.tmp 58), true, none⟩]) <|
 .seq (.keep [0, 5, 8, 9, 10, 11, 12, 13]) <|
 .seq (.seq (.ops [⟨some 59, .move (.tmp 10), false, none⟩,
  ⟨some 60, .binOp .rem 3 (.tmp 59) (.const (.int .i64 97)) 3, false, none⟩,
  ⟨some 61, .binOp .eql 3 (.tmp 60) (.const (.int .i64 0)) 3, false, none⟩]) <|
 .seq (.keep [0, 5, 8, 9, 10, 11, 12, 13, 61]) <|
 .cond (.tmp 61) (.seq (.ops [⟨some 63, .move (.tmp 9), false, none⟩,
  ⟨some 64, .move (.tmp 5), false, none⟩,
  ⟨some 65, .move (.tmp 11), false, none⟩,
  ⟨some 66, .call ⟨.value (.func 12), #[(.tmp 63), (.tmp 64), (.tmp 65)], #[31, 23, 26]⟩, true, none⟩,
  ⟨some 62, .move (.tmp 66), false, none⟩,
  ⟨some 67, .extract (.tmp 62) 0, false, none⟩,
  ⟨some 68, .extract (.tmp 62) 1, false, none⟩,
  ⟨some 14, .alloc 34, true, none⟩,
  ⟨some 15, .alloc 38, true, none⟩,
  ⟨none, .store 34 (.tmp 14) (.tmp 67), true, none⟩,
  ⟨none, .store 38 (.tmp 15) (.tmp 68), true, none⟩]) <|
 .seq (.keep [0, 5, 8, 9, 10, 12, 13, 14, 15]) <|
 .seq (.ops [⟨some 69, .load 34 (.tmp 12), false, none⟩,
  ⟨some 70, .load 34 (.tmp 14), false, none⟩,
  ⟨some 71, .binOp .neq 34 (.tmp 69) (.tmp 70) 34, false, none⟩,
  ⟨some 72, .move (.tmp 71), false, none⟩,
  ⟨some 73, .load 38 (.tmp 13), false, some (72, false)⟩,
  ⟨some 74, .load 38 (.tmp 15), false, some (72, false)⟩,
  ⟨some 75, .binOp .neq 38 (.tmp 73) (.tmp 74) 38, false, some (72, false)⟩,
  ⟨some 76, .pick (.tmp 72) (.const (.bool true)) (.tmp 75), false, none⟩]) <|
 .seq (.keep [0, 5, 8, 9, 10, 76]) <|
 .cond (.tmp 76) (.seq (.ops [⟨some 4, .assign (.const (.bool false)), false, none⟩]) <|
 .seq (.keep [4]) <|
 .ret) <|
 .skip) <|
 .skip) <|
 .seq (.keep [0, 5, 8, 9, 10]) <|
 .seq (.ops [⟨some 77, .move (.tmp 8), false, none⟩,
  ⟨some 78, .call ⟨.value (.func 13), #[(.tmp 77)], #[31]⟩, true, none⟩,
  ⟨some 79, .binOp .gtr 3 (.tmp 78) (.const (.int .i64 4096)) 3, false, none⟩]) <|
 .seq (.keep [0, 5, 8, 9, 10, 79]) <|
 .cond (.tmp 79) (.seq (.ops [⟨some 4, .assign (.const (.bool false)), false, none⟩]) <|
 .seq (.keep [4]) <|
 .ret) <|
 .skip) <|
 .seq (.keep [0, 5, 8, 9, 10]) <|
 .ops [⟨some 46, .move (.tmp 10), false, none⟩,
  ⟨some 47, .binOp .add 3 (.tmp 46) (.const (.int .i64 1)) 3, false, none⟩,
  ⟨some 10, .assign (.tmp 47), false, none⟩]) <|
 .keep [0, 5, 8, 9, 10]) <|
 .seq (.keep []) <|
 .seq (.ops [⟨some 4, .assign (.const (.bool true)), false, none⟩]) <|
 .seq (.keep [4]) <|
 .ret
theorem c4 : Try.f4.body.map (fun c => ((compile Try.prog kp4 [] kp4 c).map (·.1), fits Try.f4.ntmps c)) = some (some s4, true) := by kernel_rfl
theorem r4 : Try.f4.results.toList = [.tmp 4] := by kernel_rfl
-- marionette/mem.New
abbrev kp7 : List Nat := [2]
def s7 : SC :=
 .seq (.ops [⟨some 2, .assign (.const (.pointer none)), false, none⟩]) <|
 .seq (.keep [0]) <|
 .seq (.ops [⟨some 3, .call ⟨.value (.func 23), #[], #[]⟩, true, none⟩,
  ⟨some 4, .call ⟨.value (.func 24), #[], #[]⟩, true, none⟩,
  ⟨some 5, .move (.tmp 0), false, none⟩,
  ⟨some 6, .call ⟨.builtin .max, #[(.tmp 5), (.const (.int .i64 0))], #[3, 3]⟩, false, none⟩,
  ⟨some 7, .build 78 #[(0, (.tmp 3)), (1, (.tmp 4)), (2, (.tmp 6))], false, none⟩,
  ⟨some 8, .box 78 (.tmp 7), true, none⟩,
  ⟨some 2, .assign (.tmp 8), false, none⟩]) <|
 .seq (.keep [2]) <|
 .ret
theorem c7 : Try.f7.body.map (fun c => ((compile Try.prog kp7 [] kp7 c).map (·.1), fits Try.f7.ntmps c)) = some (some s7, true) := by kernel_rfl
theorem r7 : Try.f7.results.toList = [.tmp 2] := by kernel_rfl
-- marionette/marionettelaw10.answers
abbrev kp8 : List Nat := [0]
def s8 : SC :=
 .seq (.ops [⟨some 0, .assign (.const (.bool false)), false, none⟩]) <|
 .seq (.keep []) <|
 .seq (.ops [⟨some 4, .call ⟨.value (.func 7), #[(.const (.int .i64 2))], #[3]⟩, true, none⟩,
  ⟨some 1, .assign (.tmp 4), false, none⟩]) <|
 .seq (.keep [1]) <|
 .seq (.ops [⟨some 5, .move (.tmp 1), false, none⟩,
  ⟨some 6, .call ⟨.value (.func 9), #[(.tmp 5), (.const (.int .u64 4096)), (.const (.int .u64 4096)), (.const (.int .i64 7)), (.const (.bool true))], #[23, 26, 26, 3, 4]⟩, true, none⟩]) <|
 .seq (.keep [1]) <|
 .seq (.ops [⟨some 7, .move (.tmp 1), false, none⟩,
  ⟨some 8, .buildSlice 22 2 #[(0, (.const (.int .u8 5))), (1, (.const (.int .u8 69)))], true, none⟩,
  ⟨some 9, .call ⟨.value (.func 10), #[(.tmp 7), (.const (.int .u64 4096)), (.tmp 8)], #[23, 26, 22]⟩, true, none⟩]) <|
 .seq (.keep [1]) <|
 .seq (.ops [⟨some 11, .call ⟨.value (.func 11), #[(.const (.bool true))], #[4]⟩, true, none⟩,
  ⟨some 12, .move (.tmp 1), false, none⟩,
  ⟨some 13, .call ⟨.value (.func 12), #[(.tmp 11), (.tmp 12), (.const (.int .u64 4096))], #[31, 23, 26]⟩, true, none⟩,
  ⟨some 10, .move (.tmp 13), false, none⟩,
  ⟨some 14, .extract (.tmp 10) 0, false, none⟩,
  ⟨some 15, .extract (.tmp 10) 1, false, none⟩,
  ⟨some 2, .alloc 34, true, none⟩,
  ⟨some 3, .alloc 38, true, none⟩,
  ⟨none, .store 34 (.tmp 2) (.tmp 14), true, none⟩,
  ⟨none, .store 38 (.tmp 3) (.tmp 15), true, none⟩]) <|
 .seq (.keep [2, 3]) <|
 .seq (.ops [⟨some 16, .fieldAddr 38 (.tmp 3) 0, false, none⟩,
  ⟨some 17, .load 3 (.tmp 16), false, none⟩,
  ⟨some 18, .binOp .eql 3 (.tmp 17) (.const (.int .i64 0)) 3, false, none⟩,
  ⟨some 19, .move (.tmp 18), false, none⟩,
  ⟨some 20, .fieldAddr 34 (.tmp 2) 0, false, some (19, true)⟩,
  ⟨some 21, .load 3 (.tmp 20), false, some (19, true)⟩,
  ⟨some 22, .binOp .eql 3 (.tmp 21) (.const (.int .i64 22)) 3, false, some (19, true)⟩,
  ⟨some 23, .pick (.tmp 19) (.tmp 22) (.const (.bool false)), false, none⟩,
  ⟨some 24, .move (.tmp 23), false, none⟩,
  ⟨some 25, .fieldAddr 34 (.tmp 2) 1, false, some (24, true)⟩,
  ⟨some 26, .load 3 (.tmp 25), false, some (24, true)⟩,
  ⟨some 27, .binOp .eql 3 (.tmp 26) (.const (.int .i64 10)) 3, false, some (24, true)⟩,
  ⟨some 28, .pick (.tmp 24) (.tmp 27) (.const (.bool false)), false, none⟩,
  ⟨some 0, .assign (.tmp 28), false, none⟩]) <|
 .seq (.keep [0]) <|
 .ret
theorem c8 : Try.f8.body.map (fun c => ((compile Try.prog kp8 [] kp8 c).map (·.1), fits Try.f8.ntmps c)) = some (some s8, true) := by kernel_rfl
theorem r8 : Try.f8.results.toList = [.tmp 0] := by kernel_rfl
-- (*marionette/mem.Space).Map
abbrev kp9 : List Nat := [10, 11]
def s9 : SC :=
 .seq (.ops [⟨some 10, .assign (.const (.int .u64 0)), false, none⟩,
  ⟨some 11, .assign (.const (.int .i64 0)), false, none⟩]) <|
 .seq (.keep [0, 1, 2, 3, 4]) <|
 .seq (.seq (.ops [⟨some 16, .move (.tmp 0), false, none⟩,
  ⟨some 17, .binOp .eql 23 (.tmp 16) (.const (.pointer none)) 23, false, none⟩,
  ⟨some 18, .move (.tmp 17), false, none⟩,
  ⟨some 19, .move (.tmp 1), false, some (18, false)⟩,
  ⟨some 20, .binOp .rem 26 (.tmp 19) (.const (.int .u64 4096)) 26, false, some (18, false)⟩,
  ⟨some 21, .binOp .neq 26 (.tmp 20) (.const (.int .u64 0)) 26, false, some (18, false)⟩,
  ⟨some 22, .pick (.tmp 18) (.const (.bool true)) (.tmp 21), false, none⟩,
  ⟨some 23, .move (.tmp 22), false, none⟩,
  ⟨some 24, .move (.tmp 2), false, some (23, false)⟩,
  ⟨some 25, .binOp .eql 26 (.tmp 24) (.const (.int .u64 0)) 26, false, some (23, false)⟩,
  ⟨some 26, .pick (.tmp 23) (.const (.bool true)) (.tmp 25), false, none⟩,
  ⟨some 27, .move (.tmp 26), false, none⟩,
  ⟨some 28, .move (.tmp 2), false, some (27, false)⟩,
  ⟨some 29, .binOp .gtr 26 (.tmp 28) (.const (.int .u64 274877906944)) 26, false, some (27, false)⟩,
  ⟨some 30, .pick (.tmp 27) (.const (.bool true)) (.tmp 29), false, none⟩,
  ⟨some 31, .move (.tmp 30), false, none⟩,
  ⟨some 32, .move (.tmp 3), false, some (31, false)⟩,
  ⟨some 33, .binOp .lss 3 (.tmp 32) (.const (.int .i64 0)) 3, false, some (31, false)⟩,
  ⟨some 34, .pick (.tmp 31) (.const (.bool true)) (.tmp 33), false, none⟩,
  ⟨some 35, .move (.tmp 34), false, none⟩,
  ⟨some 36, .move (.tmp 3), false, some (35, false)⟩,
  ⟨some 37, .binOp .gtr 3 (.tmp 36) (.const (.int .i64 7)) 3, false, some (35, false)⟩,
  ⟨some 38, .pick (.tmp 35) (.const (.bool true)) (.tmp 37), false, none⟩]) <|
 .seq (.keep [0, 1, 2, 3, 4, 38]) <|
 .cond (.tmp 38) (.seq (.ops [⟨some 10, .assign (.const (.int .u64 0)), false, none⟩,
  ⟨some 11, .assign (.const (.int .i64 22)), false, none⟩]) <|
 .seq (.keep [10, 11]) <|
 .ret) <|
 .skip) <|
 .seq (.keep [0, 1, 2, 3, 4]) <|
 .seq (.seq (.ops [⟨some 39, .move (.tmp 4), false, none⟩,
  ⟨some 40, .unOp .not 4 (.tmp 39), false, none⟩]) <|
 .seq (.keep [0, 1, 2, 3, 40]) <|
 .cond (.tmp 40) (.seq (.ops [⟨some 12, .assign (.const (.bool false)), false, none⟩]) <|
 .seq (.keep [0, 1, 2, 3]) <|
 .seq (.ops [⟨some 42, .move (.tmp 0), false, none⟩,
  ⟨some 43, .move (.tmp 1), false, none⟩,
  ⟨some 44, .move (.tmp 2), false, none⟩,
  ⟨some 45, .call ⟨.value (.func 25), #[(.tmp 42), (.tmp 43), (.tmp 44)], #[23, 26, 26]⟩, true, none⟩,
  ⟨some 41, .move (.tmp 45), false, none⟩,
  ⟨some 46, .extract (.tmp 41) 0, false, none⟩,
  ⟨some 47, .extract (.tmp 41) 1, false, none⟩,
  ⟨some 1, .assign (.tmp 46), false, none⟩,
  ⟨some 12, .assign (.tmp 47), false, none⟩]) <|
 .seq (.keep [0, 1, 2, 3, 12]) <|
 .seq (.ops [⟨some 48, .move (.tmp 12), false, none⟩,
  ⟨some 49, .unOp .not 4 (.tmp 48), false, none⟩]) <|
 .seq (.keep [0, 1, 2, 3, 49]) <|
 .cond (.tmp 49) (.seq (.ops [⟨some 10, .assign (.const (.int .u64 0)), false, none⟩,
  ⟨some 11, .assign (.const (.int .i64 12)), false, none⟩]) <|
 .seq (.keep [10, 11]) <|
 .ret) <|
 .skip) <|
 .skip) <|
 .seq (.keep [0, 1, 2, 3]) <|
 .seq (.ops [⟨some 51, .move (.tmp 1), false, none⟩,
  ⟨some 52, .move (.tmp 2), false, none⟩,
  ⟨some 53, .call ⟨.value (.func 26), #[(.tmp 51), (.tmp 52)], #[26, 26]⟩, true, none⟩,
  ⟨some 50, .move (.tmp 53), false, none⟩,
  ⟨some 54, .extract (.tmp 50) 0, false, none⟩,
  ⟨some 55, .extract (.tmp 50) 1, false, none⟩,
  ⟨some 13, .assign (.tmp 54), false, none⟩,
  ⟨some 14, .assign (.tmp 55), false, none⟩]) <|
 .seq (.keep [0, 1, 3, 13, 14]) <|
 .seq (.seq (.ops [⟨some 56, .move (.tmp 14), false, none⟩,
  ⟨some 57, .unOp .not 4 (.tmp 56), false, none⟩]) <|
 .seq (.keep [0, 1, 3, 13, 57]) <|
 .cond (.tmp 57) (.seq (.ops [⟨some 10, .assign (.const (.int .u64 0)), false, none⟩,
  ⟨some 11, .assign (.const (.int .i64 22)), false, none⟩]) <|
 .seq (.keep [10, 11]) <|
 .ret) <|
 .skip) <|
 .seq (.keep [0, 1, 3, 13]) <|
 .seq (.seq (.ops [⟨some 58, .move (.tmp 0), false, none⟩,
  ⟨some 59, .move (.tmp 1), false, none⟩,
  ⟨some 60, .move (.tmp 13), false, none⟩,
  ⟨some 61, .move (.tmp 3), false, none⟩,
  ⟨some 62, .call ⟨.value (.func 27), #[(.tmp 58), (.tmp 59), (.tmp 60), (.tmp 61)], #[23, 26, 26, 3]⟩, true, none⟩,
  ⟨some 15, .assign (.tmp 62), false, none⟩]) <|
 .seq (.keep [1, 15]) <|
 .seq (.ops [⟨some 63, .move (.tmp 15), false, none⟩,
  ⟨some 64, .binOp .neq 27 (.tmp 63) (.const (.int .i64 0)) 27, false, none⟩]) <|
 .seq (.keep [1, 15, 64]) <|
 .cond (.tmp 64) (.seq (.ops [⟨some 65, .move (.tmp 15), false, none⟩,
  ⟨some 10, .assign (.const (.int .u64 0)), false, none⟩,
  ⟨some 11, .assign (.tmp 65), false, none⟩]) <|
 .seq (.keep [10, 11]) <|
 .ret) <|
 .skip) <|
 .seq (.keep [1]) <|
 .seq (.ops [⟨some 66, .move (.tmp 1), false, none⟩,
  ⟨some 10, .assign (.tmp 66), false, none⟩,
  ⟨some 11, .assign (.const (.int .i64 0)), false, none⟩]) <|
 .seq (.keep [10, 11]) <|
 .ret
theorem c9 : Try.f9.body.map (fun c => ((compile Try.prog kp9 [] kp9 c).map (·.1), fits Try.f9.ntmps c)) = some (some s9, true) := by kernel_rfl
theorem r9 : Try.f9.results.toList = [.tmp 10, .tmp 11] := by kernel_rfl
-- (*marionette/mem.Space).Put
abbrev kp10 : List Nat := []
def s10 : SC :=
 .seq (.seq (.ops [⟨some 9, .move (.tmp 0), false, none⟩,
  ⟨some 10, .binOp .eql 23 (.tmp 9) (.const (.pointer none)) 23, false, none⟩]) <|
 .seq (.keep [0, 1, 2, 10]) <|
 .cond (.tmp 10) (.ret) <|
 .skip) <|
 .seq (.keep [0, 1, 2]) <|
 .block 0 <| .loop <| .seq (.seq (.seq (.ops [⟨some 11, .move (.tmp 2), false, none⟩,
  ⟨some 12, .call ⟨.builtin .len, #[(.tmp 11)], #[22]⟩, false, none⟩,
  ⟨some 13, .binOp .gtr 3 (.tmp 12) (.const (.int .i64 0)) 3, false, none⟩,
  ⟨some 14, .move (.tmp 13), false, none⟩,
  ⟨some 15, .move (.tmp 1), false, some (14, true)⟩,
  ⟨some 16, .binOp .lss 26 (.tmp 15) (.const (.int .u64 274877906944)) 26, false, some (14, true)⟩,
  ⟨some 17, .pick (.tmp 14) (.tmp 16) (.const (.bool false)), false, none⟩]) <|
 .seq (.keep [0, 1, 2, 17]) <|
 .cond (.tmp 17) (.skip) <|
 .exit 0) <|
 .seq (.keep [0, 1, 2]) <|
 .block 1 <| .seq (.ops [⟨some 18, .move (.tmp 2), false, none⟩,
  ⟨some 19, .call ⟨.builtin .len, #[(.tmp 18)], #[22]⟩, false, none⟩,
  ⟨some 20, .convert 3 26 (.tmp 19), false, none⟩,
  ⟨some 21, .move (.tmp 1), false, none⟩,
  ⟨some 22, .binOp .rem 26 (.tmp 21) (.const (.int .u64 4096)) 26, false, none⟩,
  ⟨some 23, .binOp .sub 26 (.const (.int .u64 4096)) (.tmp 22) 26, false, none⟩,
  ⟨some 24, .call ⟨.builtin .min, #[(.tmp 20), (.tmp 23)], #[26, 26]⟩, false, none⟩,
  ⟨some 6, .assign (.tmp 24), false, none⟩]) <|
 .seq (.keep [0, 1, 2, 6]) <|
 .seq (.seq (.ops [⟨some 26, .move (.tmp 0), false, none⟩,
  ⟨some 27, .nilCheck (.tmp 26), false, none⟩,
  ⟨some 28, .fieldAddr 78 (.tmp 27) 0, false, none⟩,
  ⟨some 29, .load 73 (.tmp 28), false, none⟩,
  ⟨some 30, .move (.tmp 1), false, none⟩,
  ⟨some 31, .call ⟨.value (.func 28), #[(.tmp 29), (.tmp 30)], #[73, 26]⟩, true, none⟩,
  ⟨some 25, .move (.tmp 31), false, none⟩,
  ⟨some 32, .extract (.tmp 25) 0, false, none⟩,
  ⟨some 33, .extract (.tmp 25) 1, false, none⟩,
  ⟨some 7, .alloc 83, true, none⟩,
  ⟨none, .store 83 (.tmp 7) (.tmp 32), true, none⟩,
  ⟨some 8, .assign (.tmp 33), false, none⟩]) <|
 .seq (.keep [0, 1, 2, 6, 8]) <|
 .seq (.ops [⟨some 34, .move (.tmp 8), false, none⟩]) <|
 .seq (.keep [0, 1, 2, 6, 34]) <|
 .cond (.tmp 34) (.seq (.ops [⟨some 35, .move (.tmp 0), false, none⟩]) <|
 .seq (.ops [⟨some 36, .nilCheck (.tmp 35), false, none⟩]) <|
 .seq (.ops [⟨some 37, .fieldAddr 78 (.tmp 36) 1, false, none⟩]) <|
 .seq (.ops [⟨some 38, .load 75 (.tmp 37), false, none⟩]) <|
 .seq (.ops [⟨some 39, .move (.tmp 1), false, none⟩]) <|
 .seq (.ops [⟨some 40, .move (.tmp 2), false, none⟩]) <|
 .seq (.ops [⟨some 41, .move (.tmp 6), false, none⟩]) <|
 .seq (.ops [⟨some 42, .slice 22 (.tmp 40) none (some (.tmp 41)) none, false, none⟩]) <|
 .seq (.ops [⟨some 43, .call ⟨.value (.func 29), #[(.tmp 38), (.tmp 39), (.tmp 42)], #[75, 26, 22]⟩, true, none⟩]) <|
 .skip) <|
 .skip) <|
 .seq (.keep [0, 1, 2, 6]) <|
 .seq (.ops [⟨some 44, .move (.tmp 2), false, none⟩,
  ⟨some 45, .move (.tmp 6), false, none⟩,
  ⟨some 46, .slice 22 (.tmp 44) (some (.tmp 45)) none none, false, none⟩,
  ⟨some 2, .assign (.tmp 46), false, none⟩]) <|
 .seq (.keep [0, 1, 2, 6]) <|
 .ops [⟨some 47, .move (.tmp 1), false, none⟩,
  ⟨some 48, .move (.tmp 6), false, none⟩,
  ⟨some 49, .binOp .add 26 (.tmp 47) (.tmp 48) 26, false, none⟩,
  ⟨some 1, .assign (.tmp 49), false, none⟩]) <|
 .keep [0, 1, 2]
theorem c10 : Try.f10.body.map (fun c => ((compile Try.prog kp10 [] kp10 c).map (·.1), fits Try.f10.ntmps c)) = some (some s10, true) := by kernel_rfl
theorem r10 : Try.f10.results.toList = [] := by kernel_rfl
-- marionette/cache.New
abbrev kp11 : List Nat := [2]
def s11 : SC :=
 .seq (.ops [⟨some 2, .assign (.const (.pointer none)), false, none⟩]) <|
 .seq (.keep [0]) <|
 .seq (.ops [⟨some 3, .move (.tmp 0), false, none⟩,
  ⟨some 4, .makeMap 86 none, true, none⟩,
  ⟨some 5, .build 88 #[(0, (.tmp 3)), (1, (.tmp 4))], false, none⟩,
  ⟨some 6, .box 88 (.tmp 5), true, none⟩,
  ⟨some 2, .assign (.tmp 6), false, none⟩]) <|
 .seq (.keep [2]) <|
 .ret
theorem c11 : Try.f11.body.map (fun c => ((compile Try.prog kp11 [] kp11 c).map (·.1), fits Try.f11.ntmps c)) = some (some s11, true) := by kernel_rfl
theorem r11 : Try.f11.results.toList = [.tmp 2] := by kernel_rfl
-- (*marionette/cache.Cache).Fetch
abbrev kp12 : List Nat := [6, 7]
def s12 : SC :=
 .seq (.ops [⟨some 6, .alloc 34, true, none⟩,
  ⟨some 7, .alloc 38, true, none⟩]) <|
 .seq (.keep [0, 1, 2, 6, 7]) <|
 .seq (.seq (.ops [⟨some 14, .move (.tmp 0), false, none⟩,
  ⟨some 15, .binOp .eql 31 (.tmp 14) (.const (.pointer none)) 31, false, none⟩,
  ⟨some 16, .move (.tmp 15), false, none⟩,
  ⟨some 17, .move (.tmp 0), false, some (16, false)⟩,
  ⟨some 18, .nilCheck (.tmp 17), false, some (16, false)⟩,
  ⟨some 19, .fieldAddr 88 (.tmp 18) 0, false, some (16, false)⟩,
  ⟨some 20, .load 4 (.tmp 19), false, some (16, false)⟩,
  ⟨some 21, .unOp .not 4 (.tmp 20), false, some (16, false)⟩,
  ⟨some 22, .pick (.tmp 16) (.const (.bool true)) (.tmp 21), false, none⟩]) <|
 .seq (.keep [0, 1, 2, 6, 7, 22]) <|
 .cond (.tmp 22) (.seq (.ops [⟨some 23, .move (.tmp 1), false, none⟩,
  ⟨some 24, .move (.tmp 2), false, none⟩,
  ⟨some 25, .call ⟨.value (.func 30), #[(.tmp 23), (.tmp 24)], #[23, 26]⟩, true, none⟩,
  ⟨some 26, .extract (.tmp 25) 0, false, none⟩,
  ⟨some 27, .extract (.tmp 25) 1, false, none⟩,
  ⟨none, .store 34 (.tmp 6) (.tmp 26), true, none⟩,
  ⟨none, .store 38 (.tmp 7) (.tmp 27), true, none⟩]) <|
 .seq (.keep [6, 7]) <|
 .ret) <|
 .skip) <|
 .seq (.keep [0, 1, 2, 6, 7]) <|
 .seq (.seq (.ops [⟨some 28, .move (.tmp 0), false, none⟩,
  ⟨some 29, .nilCheck (.tmp 28), false, none⟩,
  ⟨some 30, .fieldAddr 88 (.tmp 29) 2, false, none⟩,
  ⟨some 31, .load 23 (.tmp 30), false, none⟩,
  ⟨some 32, .move (.tmp 1), false, none⟩,
  ⟨some 33, .binOp .neq 23 (.tmp 31) (.tmp 32) 23, false, none⟩]) <|
 .seq (.keep [0, 1, 2, 6, 7, 33]) <|
 .cond (.tmp 33) (.seq (.ops [⟨some 34, .move (.tmp 0), false, none⟩,
  ⟨some 35, .call ⟨.value (.func 31), #[(.tmp 34)], #[31]⟩, true, none⟩]) <|
 .seq (.keep [0, 1, 2, 6, 7]) <|
 .ops [⟨some 36, .move (.tmp 0), false, none⟩,
  ⟨some 37, .move (.tmp 1), false, none⟩,
  ⟨some 38, .nilCheck (.tmp 36), false, none⟩,
  ⟨some 39, .fieldAddr 88 (.tmp 38) 2, false, none⟩,
  ⟨none, .store 23 (.tmp 39) (.tmp 37), true, none⟩]) <|
 .skip) <|
 .seq (.keep [0, 1, 2, 6, 7]) <|
 .seq (.seq (.ops [⟨some 41, .move (.tmp 0), false, none⟩,
  ⟨some 42, .nilCheck (.tmp 41), false, none⟩,
  ⟨some 43, .fieldAddr 88 (.tmp 42) 1, false, none⟩,
  ⟨some 44, .load 86 (.tmp 43), false, none⟩,
  ⟨some 45, .move (.tmp 2), false, none⟩,
  ⟨some 46, .lookup 86 (.tmp 44) (.tmp 45) true, false, none⟩,
  ⟨some 40, .move (.tmp 46), false, none⟩,
  ⟨some 47, .extract (.tmp 40) 0, false, none⟩,
  ⟨some 48, .extract (.tmp 40) 1, false, none⟩,
  ⟨some 8, .alloc 90, true, none⟩,
  ⟨none, .store 90 (.tmp 8) (.tmp 47), true, none⟩,
  ⟨some 9, .assign (.tmp 48), false, none⟩]) <|
 .seq (.keep [0, 1, 2, 6, 7, 8, 9]) <|
 .seq (.ops [⟨some 49, .move (.tmp 9), false, none⟩]) <|
 .seq (.keep [0, 1, 2, 6, 7, 8, 49]) <|
 .cond (.tmp 49) (.seq (.seq (.ops [⟨some 51, .move (.tmp 1), false, none⟩,
  ⟨some 52, .move (.tmp 2), false, none⟩,
  ⟨some 53, .fieldAddr 90 (.tmp 8) 0, false, none⟩,
  ⟨some 54, .fieldAddr 34 (.tmp 53) 6, false, none⟩,
  ⟨some 55, .load 3 (.tmp 54), false, none⟩,
  ⟨some 56, .call ⟨.value (.func 32), #[(.tmp 51), (.tmp 52), (.tmp 55)], #[23, 26, 3]⟩, true, none⟩,
  ⟨some 50, .move (.tmp 56), false, none⟩,
  ⟨some 57, .extract (.tmp 50) 0, false, none⟩,
  ⟨some 58, .extract (.tmp 50) 1, false, none⟩,
  ⟨some 10, .assign (.tmp 57), false, none⟩,
  ⟨some 11, .assign (.tmp 58), false, none⟩]) <|
 .seq (.keep [0, 1, 2, 6, 7, 8, 10, 11]) <|
 .seq (.ops [⟨some 59, .move (.tmp 10), false, none⟩,
  ⟨some 60, .fieldAddr 90 (.tmp 8) 1, false, none⟩,
  ⟨some 61, .load 26 (.tmp 60), false, none⟩,
  ⟨some 62, .binOp .eql 26 (.tmp 59) (.tmp 61) 26, false, none⟩,
  ⟨some 63, .move (.tmp 62), false, none⟩,
  ⟨some 64, .move (.tmp 11), false, some (63, true)⟩,
  ⟨some 65, .fieldAddr 90 (.tmp 8) 2, false, some (63, true)⟩,
  ⟨some 66, .load 26 (.tmp 65), false, some (63, true)⟩,
  ⟨some 67, .binOp .eql 26 (.tmp 64) (.tmp 66) 26, false, some (63, true)⟩,
  ⟨some 68, .pick (.tmp 63) (.tmp 67) (.const (.bool false)), false, none⟩]) <|
 .seq (.keep [0, 1, 2, 6, 7, 8, 68]) <|
 .cond (.tmp 68) (.seq (.ops [⟨some 69, .fieldAddr 90 (.tmp 8) 0, false, none⟩,
  ⟨some 70, .load 34 (.tmp 69), false, none⟩,
  ⟨some 71, .build 38 #[], false, none⟩,
  ⟨none, .store 34 (.tmp 6) (.tmp 70), true, none⟩,
  ⟨none, .store 38 (.tmp 7) (.tmp 71), true, none⟩]) <|
 .seq (.keep [6, 7]) <|
 .ret) <|
 .skip) <|
 .seq (.keep [0, 1, 2, 6, 7]) <|
 .ops [⟨some 72, .move (.tmp 0), false, none⟩,
  ⟨some 73, .nilCheck (.tmp 72), false, none⟩,
  ⟨some 74, .fieldAddr 88 (.tmp 73) 1, false, none⟩,
  ⟨some 75, .load 86 (.tmp 74), false, none⟩,
  ⟨some 76, .move (.tmp 2), false, none⟩,
  ⟨none, .call ⟨.builtin .delete, #[(.tmp 75), (.tmp 76)], #[86, 26]⟩, true, none⟩]) <|
 .skip) <|
 .seq (.keep [0, 1, 2, 6, 7]) <|
 .seq (.ops [⟨some 78, .move (.tmp 1), false, none⟩,
  ⟨some 79, .move (.tmp 2), false, none⟩,
  ⟨some 80, .call ⟨.value (.func 30), #[(.tmp 78), (.tmp 79)], #[23, 26]⟩, true, none⟩,
  ⟨some 77, .move (.tmp 80), false, none⟩,
  ⟨some 81, .extract (.tmp 77) 0, false, none⟩,
  ⟨some 82, .extract (.tmp 77) 1, false, none⟩,
  ⟨none, .store 34 (.tmp 6) (.tmp 81), true, none⟩,
  ⟨none, .store 38 (.tmp 7) (.tmp 82), true, none⟩]) <|
 .seq (.keep [0, 1, 2, 6, 7]) <|
 .seq (.seq (.ops [⟨some 83, .fieldAddr 38 (.tmp 7) 0, false, none⟩,
  ⟨some 84, .load 3 (.tmp 83), false, none⟩,
  ⟨some 85, .binOp .neq 3 (.tmp 84) (.const (.int .i64 0)) 3, false, none⟩]) <|
 .seq (.keep [0, 1, 2, 6, 7, 85]) <|
 .cond (.tmp 85) (.seq (.seq (.ops [⟨some 86, .load 34 (.tmp 6), false, none⟩]) <|
 .amb (.seq (.ops [⟨some 87, .load 38 (.tmp 7), false, none⟩]) <|
 .seq (.ops [⟨none, .store 34 (.tmp 6) (.tmp 86), true, none⟩]) <|
 .seq (.ops [⟨none, .store 38 (.tmp 7) (.tmp 87), true, none⟩]) <|
 .skip) (.seq (.ops [⟨none, .store 34 (.tmp 6) (.tmp 86), true, none⟩]) <|
 .seq (.ops [⟨some 87, .load 38 (.tmp 7), false, none⟩]) <|
 .seq (.ops [⟨none, .store 38 (.tmp 7) (.tmp 87), true, none⟩]) <|
 .skip)) <|
 .seq (.keep [6, 7]) <|
 .ret) <|
 .skip) <|
 .seq (.keep [0, 1, 2, 6, 7]) <|
 .seq (.seq (.ops [⟨some 88, .move (.tmp 0), false, none⟩,
  ⟨some 89, .nilCheck (.tmp 88), false, none⟩,
  ⟨some 90, .fieldAddr 88 (.tmp 89) 1, false, none⟩,
  ⟨some 91, .load 86 (.tmp 90), false, none⟩,
  ⟨some 92, .call ⟨.builtin .len, #[(.tmp 91)], #[86]⟩, false, none⟩,
  ⟨some 93, .binOp .geq 3 (.tmp 92) (.const (.int .i64 4096)) 3, false, none⟩]) <|
 .seq (.keep [0, 1, 2, 6, 7, 93]) <|
 .cond (.tmp 93) (.ops [⟨some 94, .move (.tmp 0), false, none⟩,
  ⟨some 95, .call ⟨.value (.func 31), #[(.tmp 94)], #[31]⟩, true, none⟩]) <|
 .skip) <|
 .seq (.keep [0, 1, 2, 6, 7]) <|
 .seq (.ops [⟨some 97, .move (.tmp 1), false, none⟩,
  ⟨some 98, .move (.tmp 2), false, none⟩,
  ⟨some 99, .fieldAddr 34 (.tmp 6) 6, false, none⟩,
  ⟨some 100, .load 3 (.tmp 99), false, none⟩,
  ⟨some 101, .call ⟨.value (.func 32), #[(.tmp 97), (.tmp 98), (.tmp 100)], #[23, 26, 3]⟩, true, none⟩,
  ⟨some 96, .move (.tmp 101), false, none⟩,
  ⟨some 102, .extract (.tmp 96) 0, false, none⟩,
  ⟨some 103, .extract (.tmp 96) 1, false, none⟩,
  ⟨some 12, .assign (.tmp 102), false, none⟩,
  ⟨some 13, .assign (.tmp 103), false, none⟩]) <|
 .seq (.keep [0, 2, 6, 7, 12, 13]) <|
 .seq (.seq (.ops [⟨some 104, .move (.tmp 0), false, none⟩]) <|
 .seq (.ops [⟨some 105, .nilCheck (.tmp 104), false, none⟩]) <|
 .seq (.ops [⟨some 106, .fieldAddr 88 (.tmp 105) 1, false, none⟩]) <|
 .seq (.ops [⟨some 107, .load 86 (.tmp 106), false, none⟩]) <|
 .seq (.ops [⟨some 108, .move (.tmp 2), false, none⟩]) <|
 .seq (.ops [⟨some 109, .load 34 (.tmp 6), false, none⟩]) <|
 .seq (.ops [⟨some 110, .move (.tmp 12), false, none⟩]) <|
 .seq (.ops [⟨some 111, .move (.tmp 13), false, none⟩]) <|
 .seq (.ops [⟨some 112, .build 90 #[(0, (.tmp 109)), (1, (.tmp 110)), (2, (.tmp 111))], false, none⟩]) <|
 .seq (.ops [⟨none, .mapUpdate 86 (.tmp 107) (.tmp 108) (.tmp 112), true, none⟩]) <|
 .skip) <|
 .seq (.keep [6, 7]) <|
 .seq (.ops [⟨some 113, .load 34 (.tmp 6), false, none⟩,
  ⟨some 114, .build 38 #[], false, none⟩,
  ⟨none, .store 34 (.tmp 6) (.tmp 113), true, none⟩,
  ⟨none, .store 38 (.tmp 7) (.tmp 114), true, none⟩]) <|
 .seq (.keep [6, 7]) <|
 .ret
theorem c12 : Try.f12.body.map (fun c => ((compile Try.prog kp12 [] kp12 c).map (·.1), fits Try.f12.ntmps c)) = some (some s12, true) := by kernel_rfl
theorem r12 : Try.f12.results.toList = [.cell 6 34, .cell 7 38] := by kernel_rfl
-- (*marionette/cache.Cache).Len
abbrev kp13 : List Nat := [2]
def s13 : SC :=
 .seq (.ops [⟨some 2, .assign (.const (.int .i64 0)), false, none⟩]) <|
 .seq (.keep [0]) <|
 .seq (.seq (.ops [⟨some 3, .move (.tmp 0), false, none⟩,
  ⟨some 4, .binOp .eql 31 (.tmp 3) (.const (.pointer none)) 31, false, none⟩]) <|
 .seq (.keep [0, 4]) <|
 .cond (.tmp 4) (.seq (.ops [⟨some 2, .assign (.const (.int .i64 0)), false, none⟩]) <|
 .seq (.keep [2]) <|
 .ret) <|
 .skip) <|
 .seq (.keep [0]) <|
 .seq (.ops [⟨some 5, .move (.tmp 0), false, none⟩,
  ⟨some 6, .nilCheck (.tmp 5), false, none⟩,
  ⟨some 7, .fieldAddr 88 (.tmp 6) 1, false, none⟩,
  ⟨some 8, .load 86 (.tmp 7), false, none⟩,
  ⟨some 9, .call ⟨.builtin .len, #[(.tmp 8)], #[86]⟩, false, none⟩,
  ⟨some 2, .assign (.tmp 9), false, none⟩]) <|
 .seq (.keep [2]) <|
 .ret
theorem c13 : Try.f13.body.map (fun c => ((compile Try.prog kp13 [] kp13 c).map (·.1), fits Try.f13.ntmps c)) = some (some s13, true) := by kernel_rfl
theorem r13 : Try.f13.results.toList = [.tmp 2] := by kernel_rfl
-- (*marionette/mem.Space).Peek
abbrev kp16 : List Nat := [6]
def s16 : SC :=
 .seq (.ops [⟨some 6, .assign (.const (.slice none 0 0)), false, none⟩]) <|
 .seq (.keep [0, 1, 2]) <|
 .seq (.seq (.ops [⟨some 7, .move (.tmp 0), false, none⟩,
  ⟨some 8, .binOp .eql 23 (.tmp 7) (.const (.pointer none)) 23, false, none⟩]) <|
 .seq (.keep [0, 1, 2, 8]) <|
 .cond (.tmp 8) (.seq (.ops [⟨some 6, .assign (.const (.slice none 0 0)), false, none⟩]) <|
 .seq (.keep [6]) <|
 .ret) <|
 .skip) <|
 .seq (.keep [0, 1, 2]) <|
 .seq (.ops [⟨some 9, .move (.tmp 0), false, none⟩,
  ⟨some 10, .nilCheck (.tmp 9), false, none⟩,
  ⟨some 11, .fieldAddr 78 (.tmp 10) 1, false, none⟩,
  ⟨some 12, .load 75 (.tmp 11), false, none⟩,
  ⟨some 13, .move (.tmp 1), false, none⟩,
  ⟨some 14, .move (.tmp 2), false, none⟩,
  ⟨some 15, .call ⟨.value (.func 39), #[(.tmp 12), (.tmp 13), (.tmp 14)], #[75, 26, 3]⟩, true, none⟩,
  ⟨some 6, .assign (.tmp 15), false, none⟩]) <|
 .seq (.keep [6]) <|
 .ret
theorem c16 : Try.f16.body.map (fun c => ((compile Try.prog kp16 [] kp16 c).map (·.1), fits Try.f16.ntmps c)) = some (some s16, true) := by kernel_rfl
theorem r16 : Try.f16.results.toList = [.tmp 6] := by kernel_rfl
-- marionette/region.New
abbrev kp23 : List Nat := [0]
def s23 : SC :=
 .seq (.ops [⟨some 0, .assign (.const (.pointer none)), false, none⟩]) <|
 .seq (.keep []) <|
 .seq (.ops [⟨some 1, .build 117 #[], false, none⟩,
  ⟨some 2, .box 117 (.tmp 1), true, none⟩,
  ⟨some 0, .assign (.tmp 2), false, none⟩]) <|
 .seq (.keep [0]) <|
 .ret
theorem c23 : Try.f23.body.map (fun c => ((compile Try.prog kp23 [] kp23 c).map (·.1), fits Try.f23.ntmps c)) = some (some s23, true) := by kernel_rfl
theorem r23 : Try.f23.results.toList = [.tmp 0] := by kernel_rfl
-- marionette/page.New
abbrev kp24 : List Nat := [0]
def s24 : SC :=
 .seq (.ops [⟨some 0, .assign (.const (.pointer none)), false, none⟩]) <|
 .seq (.keep []) <|
 .seq (.ops [⟨some 1, .makeMap 118 none, true, none⟩,
  ⟨some 2, .makeMap 119 none, true, none⟩,
  ⟨some 3, .build 121 #[(0, (.tmp 1)), (1, (.tmp 2))], false, none⟩,
  ⟨some 4, .box 121 (.tmp 3), true, none⟩,
  ⟨some 0, .assign (.tmp 4), false, none⟩]) <|
 .seq (.keep [0]) <|
 .ret
theorem c24 : Try.f24.body.map (fun c => ((compile Try.prog kp24 [] kp24 c).map (·.1), fits Try.f24.ntmps c)) = some (some s24, true) := by kernel_rfl
theorem r24 : Try.f24.results.toList = [.tmp 0] := by kernel_rfl
-- (*marionette/mem.Space).where
abbrev kp25 : List Nat := [6, 7]
def s25 : SC :=
 .seq (.ops [⟨some 6, .assign (.const (.int .u64 0)), false, none⟩,
  ⟨some 7, .assign (.const (.bool false)), false, none⟩]) <|
 .seq (.keep [0, 1, 2]) <|
 .seq (.seq (.ops [⟨some 11, .move (.tmp 1), false, none⟩,
  ⟨some 12, .move (.tmp 2), false, none⟩,
  ⟨some 13, .call ⟨.value (.func 26), #[(.tmp 11), (.tmp 12)], #[26, 26]⟩, true, none⟩,
  ⟨some 10, .move (.tmp 13), false, none⟩,
  ⟨some 14, .extract (.tmp 10) 0, false, none⟩,
  ⟨some 15, .extract (.tmp 10) 1, false, none⟩,
  ⟨some 8, .assign (.tmp 14), false, none⟩,
  ⟨some 9, .assign (.tmp 15), false, none⟩]) <|
 .seq (.keep [0, 1, 2, 8, 9]) <|
 .seq (.ops [⟨some 16, .move (.tmp 9), false, none⟩,
  ⟨some 17, .move (.tmp 16), false, none⟩,
  ⟨some 18, .move (.tmp 1), false, some (17, true)⟩,
  ⟨some 19, .binOp .neq 26 (.tmp 18) (.const (.int .u64 0)) 26, false, some (17, true)⟩,
  ⟨some 20, .pick (.tmp 17) (.tmp 19) (.const (.bool false)), false, none⟩,
  ⟨some 21, .move (.tmp 20), false, none⟩,
  ⟨some 22, .move (.tmp 0), false, some (21, true)⟩,
  ⟨some 23, .nilCheck (.tmp 22), false, some (21, true)⟩,
  ⟨some 24, .fieldAddr 78 (.tmp 23) 0, false, some (21, true)⟩,
  ⟨some 25, .load 73 (.tmp 24), false, some (21, true)⟩,
  ⟨some 26, .move (.tmp 1), false, some (21, true)⟩,
  ⟨some 27, .move (.tmp 8), false, some (21, true)⟩,
  ⟨some 28, .call ⟨.value (.func 46), #[(.tmp 25), (.tmp 26), (.tmp 27)], #[73, 26, 26]⟩, true, some (21, true)⟩,
  ⟨some 29, .pick (.tmp 21) (.tmp 28) (.const (.bool false)), false, none⟩]) <|
 .seq (.keep [0, 1, 2, 29]) <|
 .cond (.tmp 29) (.seq (.ops [⟨some 30, .move (.tmp 1), false, none⟩,
  ⟨some 6, .assign (.tmp 30), false, none⟩,
  ⟨some 7, .assign (.const (.bool true)), false, none⟩]) <|
 .seq (.keep [6, 7]) <|
 .ret) <|
 .skip) <|
 .seq (.keep [0, 2]) <|
 .seq (.ops [⟨some 31, .move (.tmp 0), false, none⟩,
  ⟨some 32, .nilCheck (.tmp 31), false, none⟩,
  ⟨some 33, .fieldAddr 78 (.tmp 32) 0, false, none⟩,
  ⟨some 34, .load 73 (.tmp 33), false, none⟩,
  ⟨some 35, .move (.tmp 2), false, none⟩,
  ⟨some 36, .call ⟨.value (.func 47), #[(.tmp 34), (.tmp 35), (.const (.int .u64 274877833216))], #[73, 26, 26]⟩, true, none⟩,
  ⟨some 37, .extract (.tmp 36) 0, false, none⟩,
  ⟨some 38, .extract (.tmp 36) 1, false, none⟩,
  ⟨some 6, .assign (.tmp 37), false, none⟩,
  ⟨some 7, .assign (.tmp 38), false, none⟩]) <|
 .seq (.keep [6, 7]) <|
 .ret
theorem c25 : Try.f25.body.map (fun c => ((compile Try.prog kp25 [] kp25 c).map (·.1), fits Try.f25.ntmps c)) = some (some s25, true) := by kernel_rfl
theorem r25 : Try.f25.results.toList = [.tmp 6, .tmp 7] := by kernel_rfl
-- marionette/mem.span
abbrev kp26 : List Nat := [4, 5]
def s26 : SC :=
 .seq (.ops [⟨some 4, .assign (.const (.int .u64 0)), false, none⟩,
  ⟨some 5, .assign (.const (.bool false)), false, none⟩]) <|
 .seq (.keep [0, 1]) <|
 .seq (.ops [⟨some 7, .move (.tmp 1), false, none⟩,
  ⟨some 8, .call ⟨.value (.func 48), #[(.tmp 7)], #[26]⟩, true, none⟩,
  ⟨some 6, .move (.tmp 8), false, none⟩,
  ⟨some 9, .extract (.tmp 6) 0, false, none⟩,
  ⟨some 10, .extract (.tmp 6) 1, false, none⟩,
  ⟨some 1, .assign (.tmp 9), false, none⟩,
  ⟨some 5, .assign (.tmp 10), false, none⟩]) <|
 .seq (.keep [0, 1, 5]) <|
 .seq (.seq (.ops [⟨some 11, .move (.tmp 5), false, none⟩,
  ⟨some 12, .unOp .not 4 (.tmp 11), false, none⟩,
  ⟨some 13, .move (.tmp 12), false, none⟩,
  ⟨some 14, .move (.tmp 0), false, some (13, false)⟩,
  ⟨some 15, .binOp .rem 26 (.tmp 14) (.const (.int .u64 4096)) 26, false, some (13, false)⟩,
  ⟨some 16, .binOp .neq 26 (.tmp 15) (.const (.int .u64 0)) 26, false, some (13, false)⟩,
  ⟨some 17, .pick (.tmp 13) (.const (.bool true)) (.tmp 16), false, none⟩,
  ⟨some 18, .move (.tmp 17), false, none⟩,
  ⟨some 19, .move (.tmp 0), false, some (18, false)⟩,
  ⟨some 20, .binOp .gtr 26 (.tmp 19) (.const (.int .u64 274877906944)) 26, false, some (18, false)⟩,
  ⟨some 21, .pick (.tmp 18) (.const (.bool true)) (.tmp 20), false, none⟩,
  ⟨some 22, .move (.tmp 21), false, none⟩,
  ⟨some 23, .move (.tmp 1), false, some (22, false)⟩,
  ⟨some 24, .binOp .eql 26 (.tmp 23) (.const (.int .u64 0)) 26, false, some (22, false)⟩,
  ⟨some 25, .pick (.tmp 22) (.const (.bool true)) (.tmp 24), false, none⟩,
  ⟨some 26, .move (.tmp 25), false, none⟩,
  ⟨some 27, .move (.tmp 1), false, some (26, false)⟩,
  ⟨some 28, .move (.tmp 0), false, some (26, false)⟩,
  ⟨some 29, .binOp .sub 26 (.const (.int .u64 274877906944)) (.tmp 28) 26, false, some (26, false)⟩,
  ⟨some 30, .binOp .gtr 26 (.tmp 27) (.tmp 29) 26, false, some (26, false)⟩,
  ⟨some 31, .pick (.tmp 26) (.const (.bool true)) (.tmp 30), false, none⟩]) <|
 .seq (.keep [0, 1, 31]) <|
 .cond (.tmp 31) (.seq (.ops [⟨some 4, .assign (.const (.int .u64 0)), false, none⟩,
  ⟨some 5, .assign (.const (.bool false)), false, none⟩]) <|
 .seq (.keep [4, 5]) <|
 .ret) <|
 .skip) <|
 .seq (.keep [0, 1]) <|
 .seq (.ops [⟨some 32, .move (.tmp 0), false, none⟩,
  ⟨some 33, .move (.tmp 1), false, none⟩,
  ⟨some 34, .binOp .add 26 (.tmp 32) (.tmp 33) 26, false, none⟩,
  ⟨some 4, .assign (.tmp 34), false, none⟩,
  ⟨some 5, .assign (.const (.bool true)), false, none⟩]) <|
 .seq (.keep [4, 5]) <|
 .ret
theorem c26 : Try.f26.body.map (fun c => ((compile Try.prog kp26 [] kp26 c).map (·.1), fits Try.f26.ntmps c)) = some (some s26, true) := by kernel_rfl
theorem r26 : Try.f26.results.toList = [.tmp 4, .tmp 5] := by kernel_rfl
-- (*marionette/mem.Space).lay
abbrev kp27 : List Nat := [8]
def s27 : SC :=
 .seq (.ops [⟨some 8, .assign (.const (.int .i64 0)), false, none⟩]) <|
 .seq (.keep [0, 1, 2, 3]) <|
 .seq (.ops [⟨some 11, .move (.tmp 0), false, none⟩,
  ⟨some 12, .nilCheck (.tmp 11), false, none⟩,
  ⟨some 13, .fieldAddr 78 (.tmp 12) 0, false, none⟩,
  ⟨some 14, .load 73 (.tmp 13), false, none⟩,
  ⟨some 15, .call ⟨.value (.func 49), #[(.tmp 14)], #[73]⟩, true, none⟩,
  ⟨some 9, .assign (.tmp 15), false, none⟩]) <|
 .seq (.keep [0, 1, 2, 3, 9]) <|
 .seq (.seq (.ops [⟨some 16, .move (.tmp 9), false, none⟩,
  ⟨some 17, .move (.tmp 1), false, none⟩,
  ⟨some 18, .move (.tmp 2), false, none⟩,
  ⟨some 19, .move (.tmp 3), false, none⟩,
  ⟨some 20, .call ⟨.value (.func 50), #[(.tmp 16), (.tmp 17), (.tmp 18), (.tmp 19)], #[73, 26, 26, 3]⟩, true, none⟩,
  ⟨some 10, .assign (.tmp 20), false, none⟩]) <|
 .seq (.keep [0, 1, 2, 9, 10]) <|
 .seq (.ops [⟨some 21, .move (.tmp 10), false, none⟩,
  ⟨some 22, .binOp .neq 27 (.tmp 21) (.const (.int .i64 0)) 27, false, none⟩]) <|
 .seq (.keep [0, 1, 2, 9, 10, 22]) <|
 .cond (.tmp 22) (.seq (.ops [⟨some 23, .move (.tmp 10), false, none⟩,
  ⟨some 8, .assign (.tmp 23), false, none⟩]) <|
 .seq (.keep [8]) <|
 .ret) <|
 .skip) <|
 .seq (.keep [0, 1, 2, 9]) <|
 .seq (.seq (.seq (.ops [⟨some 24, .move (.tmp 9), false, none⟩]) <|
 .seq (.ops [⟨some 26, .move (.tmp 0), false, none⟩]) <|
 .seq (.ops [⟨some 27, .nilCheck (.tmp 26), false, none⟩]) <|
 .seq (.ops [⟨some 28, .fieldAddr 78 (.tmp 27) 2, false, none⟩]) <|
 .amb (.seq (.ops [⟨some 25, .call ⟨.value (.func 51), #[(.tmp 24)], #[73]⟩, true, none⟩]) <|
 .seq (.ops [⟨some 29, .load 3 (.tmp 28), false, none⟩]) <|
 .seq (.ops [⟨some 30, .binOp .gtr 3 (.tmp 25) (.tmp 29) 3, false, none⟩]) <|
 .skip) (.seq (.ops [⟨some 29, .load 3 (.tmp 28), false, none⟩]) <|
 .seq (.ops [⟨some 25, .call ⟨.value (.func 51), #[(.tmp 24)], #[73]⟩, true, none⟩]) <|
 .seq (.ops [⟨some 30, .binOp .gtr 3 (.tmp 25) (.tmp 29) 3, false, none⟩]) <|
 .skip)) <|
 .seq (.keep [0, 1, 2, 9, 30]) <|
 .cond (.tmp 30) (.seq (.ops [⟨some 8, .assign (.const (.int .i64 12)), false, none⟩]) <|
 .seq (.keep [8]) <|
 .ret) <|
 .skip) <|
 .seq (.keep [0, 1, 2, 9]) <|
 .seq (.ops [⟨some 31, .move (.tmp 0), false, none⟩,
  ⟨some 32, .move (.tmp 9), false, none⟩,
  ⟨some 33, .nilCheck (.tmp 31), false, none⟩,
  ⟨some 34, .fieldAddr 78 (.tmp 33) 0, false, none⟩,
  ⟨none, .store 73 (.tmp 34) (.tmp 32), true, none⟩]) <|
 .seq (.keep [0, 1, 2]) <|
 .seq (.ops [⟨some 35, .move (.tmp 0), false, none⟩,
  ⟨some 36, .nilCheck (.tmp 35), false, none⟩,
  ⟨some 37, .fieldAddr 78 (.tmp 36) 1, false, none⟩,
  ⟨some 38, .load 75 (.tmp 37), false, none⟩,
  ⟨some 39, .move (.tmp 1), false, none⟩,
  ⟨some 40, .move (.tmp 2), false, none⟩,
  ⟨some 41, .call ⟨.value (.func 52), #[(.tmp 38), (.tmp 39), (.tmp 40)], #[75, 26, 26]⟩, true, none⟩]) <|
 .seq (.keep []) <|
 .seq (.ops [⟨some 8, .assign (.const (.int .i64 0)), false, none⟩]) <|
 .seq (.keep [8]) <|
 .ret
theorem c27 : Try.f27.body.map (fun c => ((compile Try.prog kp27 [] kp27 c).map (·.1), fits Try.f27.ntmps c)) = some (some s27, true) := by kernel_rfl
theorem r27 : Try.f27.results.toList = [.tmp 8] := by kernel_rfl
-- (*marionette/region.List).At
abbrev kp28 : List Nat := [4, 5]
def s28 : SC :=
 .seq (.ops [⟨some 3, .box 26 (.tmp 1), true, none⟩,
  ⟨some 4, .alloc 83, true, none⟩,
  ⟨some 5, .assign (.const (.bool false)), false, none⟩]) <|
 .seq (.keep [0, 3, 4]) <|
 .seq (.seq (.ops [⟨some 7, .move (.tmp 0), false, none⟩,
  ⟨some 8, .binOp .eql 73 (.tmp 7) (.const (.pointer none)) 73, false, none⟩]) <|
 .seq (.keep [0, 3, 4, 8]) <|
 .cond (.tmp 8) (.seq (.ops [⟨some 9, .build 83 #[], false, none⟩,
  ⟨none, .store 83 (.tmp 4) (.tmp 9), true, none⟩,
  ⟨some 5, .assign (.const (.bool false)), false, none⟩]) <|
 .seq (.keep [4, 5]) <|
 .ret) <|
 .skip) <|
 .seq (.keep [0, 3, 4]) <|
 .seq (.ops [⟨some 10, .move (.tmp 0), false, none⟩,
  ⟨some 11, .nilCheck (.tmp 10), false, none⟩,
  ⟨some 12, .fieldAddr 117 (.tmp 11) 0, false, none⟩,
  ⟨some 13, .load 115 (.tmp 12), false, none⟩,
  ⟨some 14, .makeFunc (.func 54) #[] #[(.tmp 3)], false, none⟩,
  ⟨some 15, .call ⟨.value (.func 53), #[(.tmp 13), (.tmp 14)], #[115, 126]⟩, true, none⟩,
  ⟨some 6, .assign (.tmp 15), false, none⟩]) <|
 .seq (.keep [0, 4, 6]) <|
 .seq (.seq (.ops [⟨some 16, .move (.tmp 6), false, none⟩,
  ⟨some 17, .binOp .lss 3 (.tmp 16) (.const (.int .i64 0)) 3, false, none⟩]) <|
 .seq (.keep [0, 4, 6, 17]) <|
 .cond (.tmp 17) (.seq (.ops [⟨some 18, .build 83 #[], false, none⟩,
  ⟨none, .store 83 (.tmp 4) (.tmp 18), true, none⟩,
  ⟨some 5, .assign (.const (.bool false)), false, none⟩]) <|
 .seq (.keep [4, 5]) <|
 .ret) <|
 .skip) <|
 .seq (.keep [0, 4, 6]) <|
 .seq (.ops [⟨some 19, .move (.tmp 0), false, none⟩,
  ⟨some 20, .nilCheck (.tmp 19), false, none⟩,
  ⟨some 21, .fieldAddr 117 (.tmp 20) 0, false, none⟩,
  ⟨some 22, .load 115 (.tmp 21), false, none⟩,
  ⟨some 23, .move (.tmp 6), false, none⟩,
  ⟨some 24, .indexAddr 115 (.tmp 22) (.tmp 23), false, none⟩,
  ⟨some 25, .load 83 (.tmp 24), false, none⟩,
  ⟨none, .store 83 (.tmp 4) (.tmp 25), true, none⟩,
  ⟨some 5, .assign (.const (.bool true)), false, none⟩]) <|
 .seq (.keep [4, 5]) <|
 .ret
theorem c28 : Try.f28.body.map (fun c => ((compile Try.prog kp28 [] kp28 c).map (·.1), fits Try.f28.ntmps c)) = some (some s28, true) := by kernel_rfl
theorem r28 : Try.f28.results.toList = [.cell 4 83, .tmp 5] := by kernel_rfl
-- (*marionette/page.Store).Write
abbrev kp29 : List Nat := []
def s29 : SC :=
 .seq (.seq (.ops [⟨some 11, .move (.tmp 0), false, none⟩,
  ⟨some 12, .binOp .eql 75 (.tmp 11) (.const (.pointer none)) 75, false, none⟩,
  ⟨some 13, .move (.tmp 12), false, none⟩,
  ⟨some 14, .move (.tmp 2), false, some (13, false)⟩,
  ⟨some 15, .call ⟨.builtin .len, #[(.tmp 14)], #[22]⟩, false, some (13, false)⟩,
  ⟨some 16, .binOp .gtr 3 (.tmp 15) (.const (.int .i64 4194304)) 3, false, some (13, false)⟩,
  ⟨some 17, .pick (.tmp 13) (.const (.bool true)) (.tmp 16), false, none⟩]) <|
 .seq (.keep [0, 1, 2, 17]) <|
 .cond (.tmp 17) (.ret) <|
 .skip) <|
 .seq (.keep [0, 1, 2]) <|
 .block 0 <| .loop <| .seq (.seq (.seq (.ops [⟨some 18, .move (.tmp 2), false, none⟩,
  ⟨some 19, .call ⟨.builtin .len, #[(.tmp 18)], #[22]⟩, false, none⟩,
  ⟨some 20, .binOp .gtr 3 (.tmp 19) (.const (.int .i64 0)) 3, false, none⟩,
  ⟨some 21, .move (.tmp 20), false, none⟩,
  ⟨some 22, .move (.tmp 1), false, some (21, true)⟩,
  ⟨some 23, .binOp .lss 26 (.tmp 22) (.const (.int .u64 274877906944)) 26, false, some (21, true)⟩,
  ⟨some 24, .pick (.tmp 21) (.tmp 23) (.const (.bool false)), false, none⟩]) <|
 .seq (.keep [0, 1, 2, 24]) <|
 .cond (.tmp 24) (.skip) <|
 .exit 0) <|
 .seq (.keep [0, 1, 2]) <|
 .block 1 <| .seq (.ops [⟨some 26, .move (.tmp 1), false, none⟩,
  ⟨some 27, .move (.tmp 2), false, none⟩,
  ⟨some 28, .call ⟨.builtin .len, #[(.tmp 27)], #[22]⟩, false, none⟩,
  ⟨some 29, .call ⟨.value (.func 55), #[(.tmp 26), (.tmp 28)], #[26, 3]⟩, true, none⟩,
  ⟨some 25, .move (.tmp 29), false, none⟩,
  ⟨some 30, .extract (.tmp 25) 0, false, none⟩,
  ⟨some 31, .extract (.tmp 25) 1, false, none⟩,
  ⟨some 6, .assign (.tmp 30), false, none⟩,
  ⟨some 7, .assign (.tmp 31), false, none⟩]) <|
 .seq (.keep [0, 1, 2, 6, 7]) <|
 .seq (.ops [⟨some 32, .move (.tmp 1), false, none⟩,
  ⟨some 33, .binOp .quo 26 (.tmp 32) (.const (.int .u64 4096)) 26, false, none⟩,
  ⟨some 8, .assign (.tmp 33), false, none⟩]) <|
 .seq (.keep [0, 1, 2, 6, 7, 8]) <|
 .seq (.ops [⟨some 35, .move (.tmp 0), false, none⟩,
  ⟨some 36, .nilCheck (.tmp 35), false, none⟩,
  ⟨some 37, .fieldAddr 121 (.tmp 36) 0, false, none⟩,
  ⟨some 38, .load 118 (.tmp 37), false, none⟩,
  ⟨some 39, .move (.tmp 8), false, none⟩,
  ⟨some 40, .lookup 118 (.tmp 38) (.tmp 39) true, false, none⟩,
  ⟨some 34, .move (.tmp 40), false, none⟩,
  ⟨some 41, .extract (.tmp 34) 0, false, none⟩,
  ⟨some 42, .extract (.tmp 34) 1, false, none⟩,
  ⟨some 9, .assign (.tmp 41), false, none⟩,
  ⟨some 10, .assign (.tmp 42), false, none⟩]) <|
 .seq (.keep [0, 1, 2, 6, 7, 8, 9, 10]) <|
 .seq (.seq (.ops [⟨some 43, .move (.tmp 10), false, none⟩,
  ⟨some 44, .unOp .not 4 (.tmp 43), false, none⟩]) <|
 .seq (.keep [0, 1, 2, 6, 7, 8, 9, 44]) <|
 .cond (.tmp 44) (.seq (.ops [⟨some 45, .build 132 #[], false, none⟩,
  ⟨some 46, .box 132 (.tmp 45), true, none⟩,
  ⟨some 9, .assign (.tmp 46), false, none⟩]) <|
 .seq (.keep [0, 1, 2, 6, 7, 8, 9]) <|
 .ops [⟨some 47, .move (.tmp 0), false, none⟩,
  ⟨some 48, .nilCheck (.tmp 47), false, none⟩,
  ⟨some 49, .fieldAddr 121 (.tmp 48) 0, false, none⟩,
  ⟨some 50, .load 118 (.tmp 49), false, none⟩,
  ⟨some 51, .move (.tmp 8), false, none⟩,
  ⟨some 52, .move (.tmp 9), false, none⟩,
  ⟨none, .mapUpdate 118 (.tmp 50) (.tmp 51) (.tmp 52), true, none⟩]) <|
 .skip) <|
 .seq (.keep [0, 1, 2, 6, 7, 8, 9]) <|
 .seq (.seq (.ops [⟨some 53, .move (.tmp 9), false, none⟩]) <|
 .seq (.ops [⟨some 54, .nilCheck (.tmp 53), false, none⟩]) <|
 .seq (.ops [⟨some 55, .move (.tmp 6), false, none⟩]) <|
 .seq (.ops [⟨some 56, .slice 132 (.tmp 54) (some (.tmp 55)) none none, false, none⟩]) <|
 .seq (.ops [⟨some 57, .move (.tmp 2), false, none⟩]) <|
 .seq (.ops [⟨some 58, .move (.tmp 7), false, none⟩]) <|
 .seq (.ops [⟨some 59, .slice 22 (.tmp 57) none (some (.tmp 58)) none, false, none⟩]) <|
 .seq (.ops [⟨some 60, .call ⟨.builtin .copy, #[(.tmp 56), (.tmp 59)], #[22, 22]⟩, true, none⟩]) <|
 .skip) <|
 .seq (.keep [0, 1, 2, 7, 8]) <|
 .seq (.ops [⟨some 61, .move (.tmp 0), false, none⟩,
  ⟨some 62, .move (.tmp 8), false, none⟩,
  ⟨some 63, .call ⟨.value (.func 56), #[(.tmp 61), (.tmp 62)], #[75, 26]⟩, true, none⟩]) <|
 .seq (.keep [0, 1, 2, 7]) <|
 .seq (.ops [⟨some 64, .move (.tmp 2), false, none⟩,
  ⟨some 65, .move (.tmp 7), false, none⟩,
  ⟨some 66, .slice 22 (.tmp 64) (some (.tmp 65)) none none, false, none⟩,
  ⟨some 2, .assign (.tmp 66), false, none⟩]) <|
 .seq (.keep [0, 1, 2, 7]) <|
 .ops [⟨some 67, .move (.tmp 1), false, none⟩,
  ⟨some 68, .move (.tmp 7), false, none⟩,
  ⟨some 69, .convert 3 26 (.tmp 68), false, none⟩,
  ⟨some 70, .binOp .add 26 (.tmp 67) (.tmp 69) 26, false, none⟩,
  ⟨some 1, .assign (.tmp 70), false, none⟩]) <|
 .keep [0, 1, 2]
theorem c29 : Try.f29.body.map (fun c => ((compile Try.prog kp29 [] kp29 c).map (·.1), fits Try.f29.ntmps c)) = some (some s29, true) := by kernel_rfl
theorem r29 : Try.f29.results.toList = [] := by kernel_rfl
-- marionette/cache.read
abbrev kp30 : List Nat := [4, 5]
def s30 : SC :=
 .seq (.ops [⟨some 4, .alloc 34, true, none⟩,
  ⟨some 5, .alloc 38, true, none⟩]) <|
 .seq (.keep [0, 1, 4, 5]) <|
 .seq (.ops [⟨some 11, .move (.tmp 0), false, none⟩,
  ⟨some 12, .move (.tmp 1), false, none⟩,
  ⟨some 13, .call ⟨.value (.func 57), #[(.tmp 11), (.tmp 12)], #[23, 26]⟩, true, none⟩,
  ⟨some 10, .move (.tmp 13), false, none⟩,
  ⟨some 14, .extract (.tmp 10) 0, false, none⟩,
  ⟨some 15, .extract (.tmp 10) 1, false, none⟩,
  ⟨some 7, .alloc 36, true, none⟩,
  ⟨some 6, .assign (.tmp 14), false, none⟩,
  ⟨none, .store 36 (.tmp 7) (.tmp 15), true, none⟩]) <|
 .seq (.keep [1, 4, 5, 6, 7]) <|
 .seq (.seq (.ops [⟨some 16, .fieldAddr 36 (.tmp 7) 0, false, none⟩,
  ⟨some 17, .load 3 (.tmp 16), false, none⟩,
  ⟨some 18, .binOp .neq 3 (.tmp 17) (.const (.int .i64 0)) 3, false, none⟩]) <|
 .seq (.keep [1, 4, 5, 6, 7, 18]) <|
 .cond (.tmp 18) (.seq (.seq (.ops [⟨some 19, .build 34 #[], false, none⟩]) <|
 .amb (.seq (.ops [⟨some 20, .load 36 (.tmp 7), false, none⟩]) <|
 .seq (.ops [⟨some 21, .build 38 #[(0, (.const (.int .i64 4))), (1, (.tmp 20))], false, none⟩]) <|
 .seq (.ops [⟨none, .store 34 (.tmp 4) (.tmp 19), true, none⟩]) <|
 .seq (.ops [⟨none, .store 38 (.tmp 5) (.tmp 21), true, none⟩]) <|
 .skip) (.seq (.ops [⟨none, .store 34 (.tmp 4) (.tmp 19), true, none⟩]) <|
 .seq (.ops [⟨some 20, .load 36 (.tmp 7), false, none⟩]) <|
 .seq (.ops [⟨some 21, .build 38 #[(0, (.const (.int .i64 4))), (1, (.tmp 20))], false, none⟩]) <|
 .seq (.ops [⟨none, .store 38 (.tmp 5) (.tmp 21), true, none⟩]) <|
 .skip)) <|
 .seq (.keep [4, 5]) <|
 .ret) <|
 .skip) <|
 .seq (.keep [1, 4, 5, 6]) <|
 .seq (.ops [⟨some 23, .move (.tmp 6), false, none⟩,
  ⟨some 24, .call ⟨.value (.func 58), #[(.tmp 23)], #[133]⟩, true, none⟩,
  ⟨some 22, .move (.tmp 24), false, none⟩,
  ⟨some 25, .extract (.tmp 22) 0, false, none⟩,
  ⟨some 26, .extract (.tmp 22) 1, false, none⟩,
  ⟨some 8, .alloc 34, true, none⟩,
  ⟨none, .store 34 (.tmp 8) (.tmp 25), true, none⟩,
  ⟨some 9, .assign (.tmp 26), false, none⟩]) <|
 .seq (.keep [1, 4, 5, 8, 9]) <|
 .seq (.seq (.ops [⟨some 27, .move (.tmp 9), false, none⟩,
  ⟨some 28, .unOp .not 4 (.tmp 27), false, none⟩]) <|
 .seq (.keep [1, 4, 5, 8, 28]) <|
 .cond (.tmp 28) (.seq (.ops [⟨some 29, .build 34 #[], false, none⟩,
  ⟨some 30, .move (.tmp 1), false, none⟩,
  ⟨some 31, .build 36 #[(0, (.const (.int .i64 3))), (1, (.tmp 30))], false, none⟩,
  ⟨some 32, .build 38 #[(0, (.const (.int .i64 3))), (1, (.tmp 31))], false, none⟩,
  ⟨none, .store 34 (.tmp 4) (.tmp 29), true, none⟩,
  ⟨none, .store 38 (.tmp 5) (.tmp 32), true, none⟩]) <|
 .seq (.keep [4, 5]) <|
 .ret) <|
 .skip) <|
 .seq (.keep [4, 5, 8]) <|
 .seq (.ops [⟨some 33, .load 34 (.tmp 8), false, none⟩,
  ⟨some 34, .build 38 #[], false, none⟩,
  ⟨none, .store 34 (.tmp 4) (.tmp 33), true, none⟩,
  ⟨none, .store 38 (.tmp 5) (.tmp 34), true, none⟩]) <|
 .seq (.keep [4, 5]) <|
 .ret
theorem c30 : Try.f30.body.map (fun c => ((compile Try.prog kp30 [] kp30 c).map (·.1), fits Try.f30.ntmps c)) = some (some s30, true) := by kernel_rfl
theorem r30 : Try.f30.results.toList = [.cell 4 34, .cell 5 38] := by kernel_rfl
-- (*marionette/cache.Cache).Clear
abbrev kp31 : List Nat := []
def s31 : SC :=
 .seq (.ops [⟨some 2, .move (.tmp 0), false, none⟩,
  ⟨some 3, .binOp .neq 31 (.tmp 2) (.const (.pointer none)) 31, false, none⟩]) <|
 .seq (.keep [0, 3]) <|
 .cond (.tmp 3) (.ops [⟨some 4, .move (.tmp 0), false, none⟩,
  ⟨some 5, .nilCheck (.tmp 4), false, none⟩,
  ⟨some 6, .fieldAddr 88 (.tmp 5) 1, false, none⟩,
  ⟨some 7, .load 86 (.tmp 6), false, none⟩,
  ⟨none, .call ⟨.builtin .clear, #[(.tmp 7)], #[86]⟩, true, none⟩]) <|
 .skip
theorem c31 : Try.f31.body.map (fun c => ((compile Try.prog kp31 [] kp31 c).map (·.1), fits Try.f31.ntmps c)) = some (some s31, true) := by kernel_rfl
theorem r31 : Try.f31.results.toList = [] := by kernel_rfl
-- marionette/cache.stamps
abbrev kp32 : List Nat := [6, 7]
def s32 : SC :=
 .seq (.ops [⟨some 6, .assign (.const (.int .u64 0)), false, none⟩,
  ⟨some 7, .assign (.const (.int .u64 0)), false, none⟩]) <|
 .seq (.keep [0, 1, 2]) <|
 .seq (.ops [⟨some 8, .move (.tmp 0), false, none⟩,
  ⟨some 9, .move (.tmp 1), false, none⟩,
  ⟨some 10, .binOp .quo 26 (.tmp 9) (.const (.int .u64 4096)) 26, false, none⟩,
  ⟨some 11, .call ⟨.value (.func 59), #[(.tmp 8), (.tmp 10)], #[23, 26]⟩, true, none⟩,
  ⟨some 12, .move (.tmp 0), false, none⟩,
  ⟨some 13, .move (.tmp 1), false, none⟩,
  ⟨some 14, .move (.tmp 2), false, none⟩,
  ⟨some 15, .convert 3 26 (.tmp 14), false, none⟩,
  ⟨some 16, .binOp .add 26 (.tmp 13) (.tmp 15) 26, false, none⟩,
  ⟨some 17, .binOp .sub 26 (.tmp 16) (.const (.int .u64 1)) 26, false, none⟩,
  ⟨some 18, .binOp .quo 26 (.tmp 17) (.const (.int .u64 4096)) 26, false, none⟩,
  ⟨some 19, .call ⟨.value (.func 59), #[(.tmp 12), (.tmp 18)], #[23, 26]⟩, true, none⟩,
  ⟨some 6, .assign (.tmp 11), false, none⟩,
  ⟨some 7, .assign (.tmp 19), false, none⟩]) <|
 .seq (.keep [6, 7]) <|
 .ret
theorem c32 : Try.f32.body.map (fun c => ((compile Try.prog kp32 [] kp32 c).map (·.1), fits Try.f32.ntmps c)) = some (some s32, true) := by kernel_rfl
theorem r32 : Try.f32.results.toList = [.tmp 6, .tmp 7] := by kernel_rfl
-- (*marionette/page.Store).Read
abbrev kp39 : List Nat := [6]
def s39 : SC :=
 .seq (.ops [⟨some 6, .assign (.const (.slice none 0 0)), false, none⟩]) <|
 .seq (.keep [0, 1, 2]) <|
 .seq (.seq (.ops [⟨some 13, .move (.tmp 0), false, none⟩,
  ⟨some 14, .binOp .eql 75 (.tmp 13) (.const (.pointer none)) 75, false, none⟩,
  ⟨some 15, .move (.tmp 14), false, none⟩,
  ⟨some 16, .move (.tmp 2), false, some (15, false)⟩,
  ⟨some 17, .binOp .lss 3 (.tmp 16) (.const (.int .i64 1)) 3, false, some (15, false)⟩,
  ⟨some 18, .pick (.tmp 15) (.const (.bool true)) (.tmp 17), false, none⟩,
  ⟨some 19, .move (.tmp 18), false, none⟩,
  ⟨some 20, .move (.tmp 2), false, some (19, false)⟩,
  ⟨some 21, .binOp .gtr 3 (.tmp 20) (.const (.int .i64 4194304)) 3, false, some (19, false)⟩,
  ⟨some 22, .pick (.tmp 19) (.const (.bool true)) (.tmp 21), false, none⟩]) <|
 .seq (.keep [0, 1, 2, 22]) <|
 .cond (.tmp 22) (.seq (.ops [⟨some 6, .assign (.const (.slice none 0 0)), false, none⟩]) <|
 .seq (.keep [6]) <|
 .ret) <|
 .skip) <|
 .seq (.keep [0, 1, 2]) <|
 .seq (.ops [⟨some 23, .move (.tmp 2), false, none⟩,
  ⟨some 24, .makeSlice 22 (.tmp 23) (.tmp 23), true, none⟩,
  ⟨some 7, .assign (.tmp 24), false, none⟩]) <|
 .seq (.keep [0, 1, 7]) <|
 .seq (.seq (.ops [⟨some 25, .move (.tmp 7), false, none⟩,
  ⟨some 8, .assign (.tmp 25), false, none⟩]) <|
 .seq (.keep [0, 1, 7, 8]) <|
 .block 0 <| .loop <| .seq (.seq (.seq (.ops [⟨some 26, .move (.tmp 8), false, none⟩,
  ⟨some 27, .call ⟨.builtin .len, #[(.tmp 26)], #[22]⟩, false, none⟩,
  ⟨some 28, .binOp .gtr 3 (.tmp 27) (.const (.int .i64 0)) 3, false, none⟩,
  ⟨some 29, .move (.tmp 28), false, none⟩,
  ⟨some 30, .move (.tmp 1), false, some (29, true)⟩,
  ⟨some 31, .binOp .lss 26 (.tmp 30) (.const (.int .u64 274877906944)) 26, false, some (29, true)⟩,
  ⟨some 32, .pick (.tmp 29) (.tmp 31) (.const (.bool false)), false, none⟩]) <|
 .seq (.keep [0, 1, 7, 8, 32]) <|
 .cond (.tmp 32) (.skip) <|
 .exit 0) <|
 .seq (.keep [0, 1, 7, 8]) <|
 .block 1 <| .seq (.ops [⟨some 34, .move (.tmp 1), false, none⟩,
  ⟨some 35, .move (.tmp 8), false, none⟩,
  ⟨some 36, .call ⟨.builtin .len, #[(.tmp 35)], #[22]⟩, false, none⟩,
  ⟨some 37, .call ⟨.value (.func 55), #[(.tmp 34), (.tmp 36)], #[26, 3]⟩, true, none⟩,
  ⟨some 33, .move (.tmp 37), false, none⟩,
  ⟨some 38, .extract (.tmp 33) 0, false, none⟩,
  ⟨some 39, .extract (.tmp 33) 1, false, none⟩,
  ⟨some 9, .assign (.tmp 38), false, none⟩,
  ⟨some 10, .assign (.tmp 39), false, none⟩]) <|
 .seq (.keep [0, 1, 7, 8, 9, 10]) <|
 .seq (.seq (.ops [⟨some 41, .move (.tmp 0), false, none⟩,
  ⟨some 42, .nilCheck (.tmp 41), false, none⟩,
  ⟨some 43, .fieldAddr 121 (.tmp 42) 0, false, none⟩,
  ⟨some 44, .load 118 (.tmp 43), false, none⟩,
  ⟨some 45, .move (.tmp 1), false, none⟩,
  ⟨some 46, .binOp .quo 26 (.tmp 45) (.const (.int .u64 4096)) 26, false, none⟩,
  ⟨some 47, .lookup 118 (.tmp 44) (.tmp 46) true, false, none⟩,
  ⟨some 40, .move (.tmp 47), false, none⟩,
  ⟨some 48, .extract (.tmp 40) 0, false, none⟩,
  ⟨some 49, .extract (.tmp 40) 1, false, none⟩,
  ⟨some 11, .assign (.tmp 48), false, none⟩,
  ⟨some 12, .assign (.tmp 49), false, none⟩]) <|
 .seq (.keep [0, 1, 7, 8, 9, 10, 11, 12]) <|
 .seq (.ops [⟨some 50, .move (.tmp 12), false, none⟩]) <|
 .seq (.keep [0, 1, 7, 8, 9, 10, 11, 50]) <|
 .cond (.tmp 50) (.seq (.ops [⟨some 51, .move (.tmp 8), false, none⟩]) <|
 .seq (.ops [⟨some 52, .move (.tmp 10), false, none⟩]) <|
 .seq (.ops [⟨some 53, .slice 22 (.tmp 51) none (some (.tmp 52)) none, false, none⟩]) <|
 .seq (.ops [⟨some 54, .move (.tmp 11), false, none⟩]) <|
 .seq (.ops [⟨some 55, .nilCheck (.tmp 54), false, none⟩]) <|
 .seq (.ops [⟨some 56, .move (.tmp 9), false, none⟩]) <|
 .seq (.ops [⟨some 57, .slice 132 (.tmp 55) (some (.tmp 56)) none none, false, none⟩]) <|
 .seq (.ops [⟨some 58, .call ⟨.builtin .copy, #[(.tmp 53), (.tmp 57)], #[22, 22]⟩, true, none⟩]) <|
 .skip) <|
 .skip) <|
 .seq (.keep [0, 1, 7, 8, 10]) <|
 .seq (.ops [⟨some 59, .move (.tmp 8), false, none⟩,
  ⟨some 60, .move (.tmp 10), false, none⟩,
  ⟨some 61, .slice 22 (.tmp 59) (some (.tmp 60)) none none, false, none⟩,
  ⟨some 8, .assign (.tmp 61), false, none⟩]) <|
 .seq (.keep [0, 1, 7, 8, 10]) <|
 .ops [⟨some 62, .move (.tmp 1), false, none⟩,
  ⟨some 63, .move (.tmp 10), false, none⟩,
  ⟨some 64, .convert 3 26 (.tmp 63), false, none⟩,
  ⟨some 65, .binOp .add 26 (.tmp 62) (.tmp 64) 26, false, none⟩,
  ⟨some 1, .assign (.tmp 65), false, none⟩]) <|
 .keep [0, 1, 7, 8]) <|
 .seq (.keep [7]) <|
 .seq (.ops [⟨some 66, .move (.tmp 7), false, none⟩,
  ⟨some 6, .assign (.tmp 66), false, none⟩]) <|
 .seq (.keep [6]) <|
 .ret
theorem c39 : Try.f39.body.map (fun c => ((compile Try.prog kp39 [] kp39 c).map (·.1), fits Try.f39.ntmps c)) = some (some s39, true) := by kernel_rfl
theorem r39 : Try.f39.results.toList = [.tmp 6] := by kernel_rfl
-- (*marionette/mem.Space).Out
abbrev kp40 : List Nat := [6]
def s40 : SC :=
 .seq (.ops [⟨some 6, .assign (.const (.int .i64 0)), false, none⟩]) <|
 .seq (.keep [0, 1, 2]) <|
 .seq (.seq (.ops [⟨some 8, .move (.tmp 0), false, none⟩,
  ⟨some 9, .binOp .eql 23 (.tmp 8) (.const (.pointer none)) 23, false, none⟩]) <|
 .seq (.keep [0, 1, 2, 9]) <|
 .cond (.tmp 9) (.seq (.ops [⟨some 6, .assign (.const (.int .i64 14)), false, none⟩]) <|
 .seq (.keep [6]) <|
 .ret) <|
 .skip) <|
 .seq (.keep [0, 1, 2]) <|
 .seq (.ops [⟨some 10, .move (.tmp 0), false, none⟩,
  ⟨some 11, .move (.tmp 1), false, none⟩,
  ⟨some 12, .move (.tmp 2), false, none⟩,
  ⟨some 13, .call ⟨.builtin .len, #[(.tmp 12)], #[22]⟩, false, none⟩,
  ⟨some 14, .call ⟨.value (.func 63), #[(.tmp 10), (.tmp 11), (.tmp 13), (.const (.int .i64 2))], #[23, 26, 3, 3]⟩, true, none⟩,
  ⟨some 7, .assign (.tmp 14), false, none⟩]) <|
 .seq (.keep [0, 1, 2, 7]) <|
 .seq (.seq (.ops [⟨some 15, .move (.tmp 7), false, none⟩,
  ⟨some 16, .binOp .eql 27 (.tmp 15) (.const (.int .i64 0)) 27, false, none⟩]) <|
 .seq (.keep [0, 1, 2, 7, 16]) <|
 .cond (.tmp 16) (.ops [⟨some 17, .move (.tmp 0), false, none⟩,
  ⟨some 18, .nilCheck (.tmp 17), false, none⟩,
  ⟨some 19, .fieldAddr 78 (.tmp 18) 1, false, none⟩,
  ⟨some 20, .load 75 (.tmp 19), false, none⟩,
  ⟨some 21, .move (.tmp 1), false, none⟩,
  ⟨some 22, .move (.tmp 2), false, none⟩,
  ⟨some 23, .call ⟨.value (.func 29), #[(.tmp 20), (.tmp 21), (.tmp 22)], #[75, 26, 22]⟩, true, none⟩]) <|
 .skip) <|
 .seq (.keep [7]) <|
 .seq (.ops [⟨some 24, .move (.tmp 7), false, none⟩,
  ⟨some 6, .assign (.tmp 24), false, none⟩]) <|
 .seq (.keep [6]) <|
 .ret
theorem c40 : Try.f40.body.map (fun c => ((compile Try.prog kp40 [] kp40 c).map (·.1), fits Try.f40.ntmps c)) = some (some s40, true) := by kernel_rfl
theorem r40 : Try.f40.results.toList = [.tmp 6] := by kernel_rfl
-- (*marionette/region.List).Free
abbrev kp46 : List Nat := [6]
def s46 : SC :=
 .seq (.ops [⟨some 4, .box 26 (.tmp 1), true, none⟩,
  ⟨some 5, .box 26 (.tmp 2), true, none⟩,
  ⟨some 6, .assign (.const (.bool false)), false, none⟩]) <|
 .seq (.keep [0, 4, 5]) <|
 .seq (.ops [⟨some 7, .move (.tmp 0), false, none⟩,
  ⟨some 8, .binOp .neq 73 (.tmp 7) (.const (.pointer none)) 73, false, none⟩,
  ⟨some 9, .move (.tmp 8), false, none⟩,
  ⟨some 10, .load 26 (.tmp 4), false, some (9, true)⟩,
  ⟨some 11, .load 26 (.tmp 5), false, some (9, true)⟩,
  ⟨some 12, .call ⟨.value (.func 67), #[(.tmp 10), (.tmp 11)], #[26, 26]⟩, true, some (9, true)⟩,
  ⟨some 13, .pick (.tmp 9) (.tmp 12) (.const (.bool false)), false, none⟩,
  ⟨some 14, .move (.tmp 13), false, none⟩,
  ⟨some 15, .move (.tmp 0), false, some (14, true)⟩,
  ⟨some 16, .nilCheck (.tmp 15), false, some (14, true)⟩,
  ⟨some 17, .fieldAddr 117 (.tmp 16) 0, false, some (14, true)⟩,
  ⟨some 18, .load 115 (.tmp 17), false, some (14, true)⟩,
  ⟨some 19, .makeFunc (.func 69) #[] #[(.tmp 5), (.tmp 4)], false, some (14, true)⟩,
  ⟨some 20, .call ⟨.value (.func 68), #[(.tmp 18), (.tmp 19)], #[115, 126]⟩, true, some (14, true)⟩,
  ⟨some 21, .unOp .not 4 (.tmp 20), false, some (14, true)⟩,
  ⟨some 22, .pick (.tmp 14) (.tmp 21) (.const (.bool false)), false, none⟩,
  ⟨some 6, .assign (.tmp 22), false, none⟩]) <|
 .seq (.keep [6]) <|
 .ret
theorem c46 : Try.f46.body.map (fun c => ((compile Try.prog kp46 [] kp46 c).map (·.1), fits Try.f46.ntmps c)) = some (some s46, true) := by kernel_rfl
theorem r46 : Try.f46.results.toList = [.tmp 6] := by kernel_rfl
-- (*marionette/region.List).Room
abbrev kp47 : List Nat := [6, 7]
def s47 : SC :=
 .seq (.ops [⟨some 6, .assign (.const (.int .u64 0)), false, none⟩,
  ⟨some 7, .assign (.const (.bool false)), false, none⟩]) <|
 .seq (.keep [0, 1, 2]) <|
 .seq (.seq (.ops [⟨some 11, .move (.tmp 0), false, none⟩,
  ⟨some 12, .binOp .eql 73 (.tmp 11) (.const (.pointer none)) 73, false, none⟩,
  ⟨some 13, .move (.tmp 12), false, none⟩,
  ⟨some 14, .move (.tmp 1), false, some (13, false)⟩,
  ⟨some 15, .binOp .gtr 26 (.tmp 14) (.const (.int .u64 274877906944)) 26, false, some (13, false)⟩,
  ⟨some 16, .pick (.tmp 13) (.const (.bool true)) (.tmp 15), false, none⟩]) <|
 .seq (.keep [0, 1, 2, 16]) <|
 .cond (.tmp 16) (.seq (.ops [⟨some 6, .assign (.const (.int .u64 0)), false, none⟩,
  ⟨some 7, .assign (.const (.bool false)), false, none⟩]) <|
 .seq (.keep [6, 7]) <|
 .ret) <|
 .skip) <|
 .seq (.keep [0, 1, 2]) <|
 .seq (.ops [⟨some 17, .move (.tmp 1), false, none⟩,
  ⟨some 18, .binOp .add 26 (.tmp 17) (.const (.int .u64 4096)) 26, false, none⟩,
  ⟨some 19, .binOp .sub 26 (.tmp 18) (.const (.int .u64 1)) 26, false, none⟩,
  ⟨some 20, .binOp .quo 26 (.tmp 19) (.const (.int .u64 4096)) 26, false, none⟩,
  ⟨some 21, .call ⟨.builtin .max, #[(.tmp 20), (.const (.int .u64 1))], #[26, 26]⟩, false, none⟩,
  ⟨some 22, .binOp .mul 26 (.tmp 21) (.const (.int .u64 4096)) 26, false, none⟩,
  ⟨some 1, .assign (.tmp 22), false, none⟩]) <|
 .seq (.keep [0, 1, 2]) <|
 .seq (.ops [⟨some 23, .move (.tmp 2), false, none⟩,
  ⟨some 24, .call ⟨.builtin .min, #[(.tmp 23), (.const (.int .u64 274877906944))], #[26, 26]⟩, false, none⟩,
  ⟨some 25, .binOp .quo 26 (.tmp 24) (.const (.int .u64 4096)) 26, false, none⟩,
  ⟨some 26, .binOp .mul 26 (.tmp 25) (.const (.int .u64 4096)) 26, false, none⟩,
  ⟨some 8, .assign (.tmp 26), false, none⟩]) <|
 .seq (.keep [0, 1, 8]) <|
 .seq (.seq (.ops [⟨some 27, .move (.tmp 0), false, none⟩,
  ⟨some 28, .nilCheck (.tmp 27), false, none⟩,
  ⟨some 29, .fieldAddr 117 (.tmp 28) 0, false, none⟩,
  ⟨some 30, .load 115 (.tmp 29), false, none⟩,
  ⟨some 31, .call ⟨.builtin .len, #[(.tmp 30)], #[115]⟩, false, none⟩,
  ⟨some 9, .assign (.tmp 31), false, none⟩]) <|
 .seq (.keep [0, 1, 8, 9]) <|
 .block 0 <| .loop <| .seq (.seq (.seq (.ops [⟨some 32, .move (.tmp 9), false, none⟩,
  ⟨some 33, .binOp .geq 3 (.tmp 32) (.const (.int .i64 0)) 3, false, none⟩]) <|
 .seq (.keep [0, 1, 8, 9, 33]) <|
 .cond (.tmp 33) (.skip) <|
 .exit 0) <|
 .seq (.keep [0, 1, 8, 9]) <|
 .seq (.block 1 <| .seq (.ops [⟨some 10, .assign (.const (.int .u64 4096)), false, none⟩]) <|
 .seq (.keep [0, 1, 8, 9, 10]) <|
 .seq (.seq (.ops [⟨some 36, .move (.tmp 9), false, none⟩,
  ⟨some 37, .binOp .gtr 3 (.tmp 36) (.const (.int .i64 0)) 3, false, none⟩]) <|
 .seq (.keep [0, 1, 8, 9, 10, 37]) <|
 .cond (.tmp 37) (.ops [⟨some 38, .move (.tmp 10), false, none⟩,
  ⟨some 39, .move (.tmp 0), false, none⟩,
  ⟨some 40, .nilCheck (.tmp 39), false, none⟩,
  ⟨some 41, .fieldAddr 117 (.tmp 40) 0, false, none⟩,
  ⟨some 42, .load 115 (.tmp 41), false, none⟩,
  ⟨some 43, .move (.tmp 9), false, none⟩,
  ⟨some 44, .binOp .sub 3 (.tmp 43) (.const (.int .i64 1)) 3, false, none⟩,
  ⟨some 45, .indexAddr 115 (.tmp 42) (.tmp 44), false, none⟩,
  ⟨some 46, .fieldAddr 83 (.tmp 45) 1, false, none⟩,
  ⟨some 47, .load 26 (.tmp 46), false, none⟩,
  ⟨some 48, .call ⟨.builtin .max, #[(.tmp 38), (.tmp 47)], #[26, 26]⟩, false, none⟩,
  ⟨some 10, .assign (.tmp 48), false, none⟩]) <|
 .skip) <|
 .seq (.keep [0, 1, 8, 9, 10]) <|
 .seq (.seq (.ops [⟨some 49, .move (.tmp 8), false, none⟩,
  ⟨some 50, .move (.tmp 10), false, none⟩,
  ⟨some 51, .binOp .geq 26 (.tmp 49) (.tmp 50) 26, false, none⟩,
  ⟨some 52, .move (.tmp 51), false, none⟩,
  ⟨some 53, .move (.tmp 8), false, some (52, true)⟩,
  ⟨some 54, .move (.tmp 10), false, some (52, true)⟩,
  ⟨some 55, .binOp .sub 26 (.tmp 53) (.tmp 54) 26, false, some (52, true)⟩,
  ⟨some 56, .move (.tmp 1), false, some (52, true)⟩,
  ⟨some 57, .binOp .geq 26 (.tmp 55) (.tmp 56) 26, false, some (52, true)⟩,
  ⟨some 58, .pick (.tmp 52) (.tmp 57) (.const (.bool false)), false, none⟩]) <|
 .seq (.keep [0, 1, 8, 9, 58]) <|
 .cond (.tmp 58) (.seq (.ops [⟨some 59, .move (.tmp 8), false, none⟩,
  ⟨some 60, .move (.tmp 1), false, none⟩,
  ⟨some 61, .binOp .sub 26 (.tmp 59) (.tmp 60) 26, false, none⟩,
  ⟨some 6, .assign (.tmp 61), false, none⟩,
  ⟨some 7, .assign (.const (.bool true)), false, none⟩]) <|
 .seq (.keep [6, 7]) <|
 .ret) <|
 .skip) <|
 .seq (.keep [0, 1, 8, 9]) <|
 .seq (.ops [⟨some 62, .move (.tmp 9), false, none⟩,
  ⟨some 63, .binOp .gtr 3 (.tmp 62) (.const (.int .i64 0)) 3, false, none⟩]) <|
 .seq (.keep [0, 1, 8, 9, 63]) <|
 .cond (.tmp 63) (.ops [⟨some 64, .move (.tmp 8), false, none⟩,
  ⟨some 65, .move (.tmp 0), false, none⟩,
  ⟨some 66, .nilCheck (.tmp 65), false, none⟩,
  ⟨some 67, .fieldAddr 117 (.tmp 66) 0, false, none⟩,
  ⟨some 68, .load 115 (.tmp 67), false, none⟩,
  ⟨some 69, .move (.tmp 9), false, none⟩,
  ⟨some 70, .binOp .sub 3 (.tmp 69) (.const (.int .i64 1)) 3, false, none⟩,
  ⟨some 71, .indexAddr 115 (.tmp 68) (.tmp 70), false, none⟩,
  ⟨some 72, .fieldAddr 83 (.tmp 71) 0, false, none⟩,
  ⟨some 73, .load 26 (.tmp 72), false, none⟩,
  ⟨some 74, .call ⟨.builtin .min, #[(.tmp 64), (.tmp 73)], #[26, 26]⟩, false, none⟩,
  ⟨some 8, .assign (.tmp 74), false, none⟩]) <|
 .skip) <|
 .seq (.keep [0, 1, 8, 9]) <|
 .ops [⟨some 34, .move (.tmp 9), false, none⟩,
  ⟨some 35, .binOp .sub 3 (.tmp 34) (.const (.int .i64 1)) 3, false, none⟩,
  ⟨some 9, .assign (.tmp 35), false, none⟩]) <|
 .keep [0, 1, 8, 9]) <|
 .seq (.keep []) <|
 .seq (.ops [⟨some 6, .assign (.const (.int .u64 0)), false, none⟩,
  ⟨some 7, .assign (.const (.bool false)), false, none⟩]) <|
 .seq (.keep [6, 7]) <|
 .ret
theorem c47 : Try.f47.body.map (fun c => ((compile Try.prog kp47 [] kp47 c).map (·.1), fits Try.f47.ntmps c)) = some (some s47, true) := by kernel_rfl
theorem r47 : Try.f47.results.toList = [.tmp 6, .tmp 7] := by kernel_rfl
-- marionette/mem.up
abbrev kp48 : List Nat := [2, 3]
def s48 : SC :=
 .seq (.ops [⟨some 2, .assign (.const (.int .u64 0)), false, none⟩,
  ⟨some 3, .assign (.const (.bool false)), false, none⟩]) <|
 .seq (.keep [0]) <|
 .seq (.seq (.ops [⟨some 4, .move (.tmp 0), false, none⟩,
  ⟨some 5, .binOp .gtr 26 (.tmp 4) (.const (.int .u64 274877906944)) 26, false, none⟩]) <|
 .seq (.keep [0, 5]) <|
 .cond (.tmp 5) (.seq (.ops [⟨some 2, .assign (.const (.int .u64 0)), false, none⟩,
  ⟨some 3, .assign (.const (.bool false)), false, none⟩]) <|
 .seq (.keep [2, 3]) <|
 .ret) <|
 .skip) <|
 .seq (.keep [0]) <|
 .seq (.ops [⟨some 6, .move (.tmp 0), false, none⟩,
  ⟨some 7, .binOp .add 26 (.tmp 6) (.const (.int .u64 4096)) 26, false, none⟩,
  ⟨some 8, .binOp .sub 26 (.tmp 7) (.const (.int .u64 1)) 26, false, none⟩,
  ⟨some 9, .binOp .quo 26 (.tmp 8) (.const (.int .u64 4096)) 26, false, none⟩,
  ⟨some 10, .binOp .mul 26 (.tmp 9) (.const (.int .u64 4096)) 26, false, none⟩,
  ⟨some 2, .assign (.tmp 10), false, none⟩,
  ⟨some 3, .assign (.const (.bool true)), false, none⟩]) <|
 .seq (.keep [2, 3]) <|
 .ret
theorem c48 : Try.f48.body.map (fun c => ((compile Try.prog kp48 [] kp48 c).map (·.1), fits Try.f48.ntmps c)) = some (some s48, true) := by kernel_rfl
theorem r48 : Try.f48.results.toList = [.tmp 2, .tmp 3] := by kernel_rfl
-- (*marionette/region.List).Copy
abbrev kp49 : List Nat := [2]
def s49 : SC :=
 .seq (.ops [⟨some 2, .assign (.const (.pointer none)), false, none⟩]) <|
 .seq (.keep [0]) <|
 .seq (.seq (.ops [⟨some 3, .move (.tmp 0), false, none⟩,
  ⟨some 4, .binOp .eql 73 (.tmp 3) (.const (.pointer none)) 73, false, none⟩]) <|
 .seq (.keep [0, 4]) <|
 .cond (.tmp 4) (.seq (.ops [⟨some 2, .assign (.const (.pointer none)), false, none⟩]) <|
 .seq (.keep [2]) <|
 .ret) <|
 .skip) <|
 .seq (.keep [0]) <|
 .seq (.ops [⟨some 5, .move (.tmp 0), false, none⟩,
  ⟨some 6, .nilCheck (.tmp 5), false, none⟩,
  ⟨some 7, .fieldAddr 117 (.tmp 6) 0, false, none⟩,
  ⟨some 8, .load 115 (.tmp 7), false, none⟩,
  ⟨some 9, .call ⟨.value (.func 70), #[(.tmp 8)], #[115]⟩, true, none⟩,
  ⟨some 10, .build 117 #[(0, (.tmp 9))], false, none⟩,
  ⟨some 11, .box 117 (.tmp 10), true, none⟩,
  ⟨some 2, .assign (.tmp 11), false, none⟩]) <|
 .seq (.keep [2]) <|
 .ret
theorem c49 : Try.f49.body.map (fun c => ((compile Try.prog kp49 [] kp49 c).map (·.1), fits Try.f49.ntmps c)) = some (some s49, true) := by kernel_rfl
theorem r49 : Try.f49.results.toList = [.tmp 2] := by kernel_rfl
-- (*marionette/region.List).Map
abbrev kp50 : List Nat := [8]
def s50 : SC :=
 .seq (.ops [⟨some 8, .assign (.const (.int .i64 0)), false, none⟩]) <|
 .seq (.keep [0, 1, 2, 3]) <|
 .seq (.seq (.ops [⟨some 9, .move (.tmp 0), false, none⟩,
  ⟨some 10, .binOp .eql 73 (.tmp 9) (.const (.pointer none)) 73, false, none⟩,
  ⟨some 11, .move (.tmp 10), false, none⟩,
  ⟨some 12, .move (.tmp 1), false, some (11, false)⟩,
  ⟨some 13, .move (.tmp 2), false, some (11, false)⟩,
  ⟨some 14, .call ⟨.value (.func 67), #[(.tmp 12), (.tmp 13)], #[26, 26]⟩, true, some (11, false)⟩,
  ⟨some 15, .unOp .not 4 (.tmp 14), false, some (11, false)⟩,
  ⟨some 16, .pick (.tmp 11) (.const (.bool true)) (.tmp 15), false, none⟩,
  ⟨some 17, .move (.tmp 16), false, none⟩,
  ⟨some 18, .move (.tmp 3), false, some (17, false)⟩,
  ⟨some 19, .call ⟨.value (.func 71), #[(.tmp 18)], #[3]⟩, true, some (17, false)⟩,
  ⟨some 20, .unOp .not 4 (.tmp 19), false, some (17, false)⟩,
  ⟨some 21, .pick (.tmp 17) (.const (.bool true)) (.tmp 20), false, none⟩]) <|
 .seq (.keep [0, 1, 2, 3, 21]) <|
 .cond (.tmp 21) (.seq (.ops [⟨some 8, .assign (.const (.int .i64 22)), false, none⟩]) <|
 .seq (.keep [8]) <|
 .ret) <|
 .skip) <|
 .seq (.keep [0, 1, 2, 3]) <|
 .seq (.ops [⟨some 22, .move (.tmp 0), false, none⟩,
  ⟨some 23, .move (.tmp 0), false, none⟩,
  ⟨some 24, .nilCheck (.tmp 23), false, none⟩,
  ⟨some 25, .fieldAddr 117 (.tmp 24) 0, false, none⟩,
  ⟨some 26, .load 115 (.tmp 25), false, none⟩,
  ⟨some 27, .move (.tmp 1), false, none⟩,
  ⟨some 28, .move (.tmp 2), false, none⟩,
  ⟨some 29, .move (.tmp 3), false, none⟩,
  ⟨some 30, .build 83 #[(0, (.tmp 27)), (1, (.tmp 28)), (2, (.tmp 29))], false, none⟩,
  ⟨some 31, .call ⟨.value (.func 73), #[(.tmp 26), (.tmp 30)], #[115, 83]⟩, true, none⟩,
  ⟨some 32, .call ⟨.value (.func 72), #[(.tmp 22), (.tmp 31)], #[73, 115]⟩, true, none⟩,
  ⟨some 8, .assign (.tmp 32), false, none⟩]) <|
 .seq (.keep [8]) <|
 .ret
theorem c50 : Try.f50.body.map (fun c => ((compile Try.prog kp50 [] kp50 c).map (·.1), fits Try.f50.ntmps c)) = some (some s50, true) := by kernel_rfl
theorem r50 : Try.f50.results.toList = [.tmp 8] := by kernel_rfl
-- (*marionette/region.List).Pages
abbrev kp51 : List Nat := [2]
def s51 : SC :=
 .seq (.ops [⟨some 2, .assign (.const (.int .i64 0)), false, none⟩]) <|
 .seq (.keep [0]) <|
 .seq (.seq (.ops [⟨some 6, .move (.tmp 0), false, none⟩,
  ⟨some 7, .binOp .eql 73 (.tmp 6) (.const (.pointer none)) 73, false, none⟩]) <|
 .seq (.keep [0, 7]) <|
 .cond (.tmp 7) (.seq (.ops [⟨some 2, .assign (.const (.int .i64 0)), false, none⟩]) <|
 .seq (.keep [2]) <|
 .ret) <|
 .skip) <|
 .seq (.keep [0]) <|
 .seq (.ops [⟨some 3, .assign (.const (.int .u64 0)), false, none⟩]) <|
 .seq (.keep [0, 3]) <|
 .seq (.seq (.ops [⟨some 8, .move (.tmp 0), false, none⟩,
  ⟨some 9, .nilCheck (.tmp 8), false, none⟩,
  ⟨some 10, .fieldAddr 117 (.tmp 9) 0, false, none⟩,
  ⟨some 11, .load 115 (.tmp 10), false, none⟩,
  ⟨some 12, .call ⟨.builtin .len, #[(.tmp 11)], #[115]⟩, false, none⟩,
  ⟨some 13, .move (.const (.int .i64 0)), false, none⟩]) <|
 .seq (.keep [3, 11, 12, 13]) <|
 .block 0 <| .loop <| .seq (.seq (.ops [⟨some 14, .binOp .lss 3 (.tmp 13) (.tmp 12) 3, false, none⟩]) <|
 .seq (.keep [3, 11, 12, 13, 14]) <|
 .seq (.cond (.tmp 14) (.skip) <|
 .exit 0) <|
 .seq (.keep [3, 11, 12, 13]) <|
 .seq (.block 1 <| .seq (.ops [⟨some 15, .indexAddr 115 (.tmp 11) (.tmp 13), false, none⟩,
  ⟨some 16, .load 83 (.tmp 15), false, none⟩,
  ⟨some 5, .alloc 83, true, none⟩,
  ⟨none, .store 83 (.tmp 5) (.tmp 16), true, none⟩]) <|
 .seq (.keep [3, 5, 11, 12, 13]) <|
 .ops [⟨some 17, .move (.tmp 3), false, none⟩,
  ⟨some 18, .fieldAddr 83 (.tmp 5) 1, false, none⟩,
  ⟨some 19, .load 26 (.tmp 18), false, none⟩,
  ⟨some 20, .fieldAddr 83 (.tmp 5) 0, false, none⟩,
  ⟨some 21, .load 26 (.tmp 20), false, none⟩,
  ⟨some 22, .binOp .sub 26 (.tmp 19) (.tmp 21) 26, false, none⟩,
  ⟨some 23, .binOp .quo 26 (.tmp 22) (.const (.int .u64 4096)) 26, false, none⟩,
  ⟨some 24, .binOp .add 26 (.tmp 17) (.tmp 23) 26, false, none⟩,
  ⟨some 3, .assign (.tmp 24), false, none⟩]) <|
 .seq (.keep [3, 11, 12, 13]) <|
 .ops [⟨some 25, .binOp .add 3 (.tmp 13) (.const (.int .i64 1)) 3, false, none⟩,
  ⟨some 13, .move (.tmp 25), false, none⟩]) <|
 .keep [3, 11, 12, 13]) <|
 .seq (.keep [3]) <|
 .seq (.ops [⟨some 26, .move (.tmp 3), false, none⟩,
  ⟨some 27, .convert 26 3 (.tmp 26), false, none⟩,
  ⟨some 2, .assign (.tmp 27), false, none⟩]) <|
 .seq (.keep [2]) <|
 .ret
theorem c51 : Try.f51.body.map (fun c => ((compile Try.prog kp51 [] kp51 c).map (·.1), fits Try.f51.ntmps c)) = some (some s51, true) := by kernel_rfl
theorem r51 : Try.f51.results.toList = [.tmp 2] := by kernel_rfl
-- (*marionette/page.Store).Clear
abbrev kp52 : List Nat := []
def s52 : SC :=
 .seq (.ops [⟨some 11, .move (.tmp 2), false, none⟩,
  ⟨some 12, .call ⟨.builtin .min, #[(.tmp 11), (.const (.int .u64 274877906944))], #[26, 26]⟩, false, none⟩,
  ⟨some 2, .assign (.tmp 12), false, none⟩]) <|
 .seq (.keep [0, 1, 2]) <|
 .seq (.seq (.ops [⟨some 13, .move (.tmp 0), false, none⟩,
  ⟨some 14, .binOp .eql 75 (.tmp 13) (.const (.pointer none)) 75, false, none⟩,
  ⟨some 15, .move (.tmp 14), false, none⟩,
  ⟨some 16, .move (.tmp 2), false, some (15, false)⟩,
  ⟨some 17, .move (.tmp 1), false, some (15, false)⟩,
  ⟨some 18, .binOp .leq 26 (.tmp 16) (.tmp 17) 26, false, some (15, false)⟩,
  ⟨some 19, .pick (.tmp 15) (.const (.bool true)) (.tmp 18), false, none⟩]) <|
 .seq (.keep [0, 1, 2, 19]) <|
 .cond (.tmp 19) (.ret) <|
 .skip) <|
 .seq (.keep [0, 1, 2]) <|
 .seq (.ops [⟨some 20, .move (.tmp 0), false, none⟩,
  ⟨some 21, .move (.tmp 1), false, none⟩,
  ⟨some 22, .move (.tmp 2), false, none⟩,
  ⟨some 23, .call ⟨.value (.func 74), #[(.tmp 20), (.tmp 21), (.tmp 22)], #[75, 26, 26]⟩, true, none⟩]) <|
 .seq (.keep [0, 1, 2]) <|
 .seq (.ops [⟨some 24, .move (.tmp 0), false, none⟩,
  ⟨some 25, .nilCheck (.tmp 24), false, none⟩,
  ⟨some 26, .fieldAddr 121 (.tmp 25) 0, false, none⟩,
  ⟨some 27, .load 118 (.tmp 26), false, none⟩,
  ⟨some 28, .range 118 (.tmp 27), true, none⟩]) <|
 .seq (.keep [0, 1, 2, 28]) <|
 .block 0 <| .loop <| .seq (.seq (.ops [⟨some 29, .next (.tmp 28) false, true, none⟩,
  ⟨some 30, .extract (.tmp 29) 0, false, none⟩]) <|
 .seq (.keep [0, 1, 2, 28, 30]) <|
 .seq (.cond (.tmp 30) (.skip) <|
 .exit 0) <|
 .seq (.keep [0, 1, 2, 28]) <|
 .block 1 <| .seq (.ops [⟨some 31, .entry (.tmp 28), false, none⟩,
  ⟨some 32, .extract (.tmp 31) 0, false, none⟩,
  ⟨some 33, .extract (.tmp 31) 1, false, none⟩,
  ⟨some 6, .assign (.tmp 32), false, none⟩,
  ⟨some 7, .assign (.tmp 33), false, none⟩]) <|
 .seq (.keep [0, 1, 2, 6, 7, 28]) <|
 .seq (.ops [⟨some 34, .move (.tmp 6), false, none⟩,
  ⟨some 35, .binOp .mul 26 (.tmp 34) (.const (.int .u64 4096)) 26, false, none⟩,
  ⟨some 8, .assign (.tmp 35), false, none⟩]) <|
 .seq (.keep [0, 1, 2, 6, 7, 8, 28]) <|
 .seq (.seq (.ops [⟨some 36, .move (.tmp 8), false, none⟩,
  ⟨some 37, .move (.tmp 2), false, none⟩,
  ⟨some 38, .binOp .geq 26 (.tmp 36) (.tmp 37) 26, false, none⟩,
  ⟨some 39, .move (.tmp 38), false, none⟩,
  ⟨some 40, .move (.tmp 8), false, some (39, false)⟩,
  ⟨some 41, .binOp .add 26 (.tmp 40) (.const (.int .u64 4096)) 26, false, some (39, false)⟩,
  ⟨some 42, .move (.tmp 1), false, some (39, false)⟩,
  ⟨some 43, .binOp .leq 26 (.tmp 41) (.tmp 42) 26, false, some (39, false)⟩,
  ⟨some 44, .pick (.tmp 39) (.const (.bool true)) (.tmp 43), false, none⟩]) <|
 .seq (.keep [0, 1, 2, 6, 7, 8, 28, 44]) <|
 .cond (.tmp 44) (.exit 1) <|
 .skip) <|
 .seq (.keep [0, 1, 2, 6, 7, 8, 28]) <|
 .seq (.seq (.ops [⟨some 45, .move (.tmp 1), false, none⟩,
  ⟨some 46, .move (.tmp 8), false, none⟩,
  ⟨some 47, .binOp .leq 26 (.tmp 45) (.tmp 46) 26, false, none⟩,
  ⟨some 48, .move (.tmp 47), false, none⟩,
  ⟨some 49, .move (.tmp 2), false, some (48, true)⟩,
  ⟨some 50, .move (.tmp 8), false, some (48, true)⟩,
  ⟨some 51, .binOp .add 26 (.tmp 50) (.const (.int .u64 4096)) 26, false, some (48, true)⟩,
  ⟨some 52, .binOp .geq 26 (.tmp 49) (.tmp 51) 26, false, some (48, true)⟩,
  ⟨some 53, .pick (.tmp 48) (.tmp 52) (.const (.bool false)), false, none⟩]) <|
 .seq (.keep [0, 1, 2, 6, 7, 8, 28, 53]) <|
 .cond (.tmp 53) (.seq (.ops [⟨some 54, .move (.tmp 0), false, none⟩,
  ⟨some 55, .nilCheck (.tmp 54), false, none⟩,
  ⟨some 56, .fieldAddr 121 (.tmp 55) 0, false, none⟩,
  ⟨some 57, .load 118 (.tmp 56), false, none⟩,
  ⟨some 58, .move (.tmp 6), false, none⟩,
  ⟨none, .call ⟨.builtin .delete, #[(.tmp 57), (.tmp 58)], #[118, 26]⟩, true, none⟩]) <|
 .seq (.keep [0, 1, 2, 28]) <|
 .exit 1) <|
 .skip) <|
 .seq (.keep [0, 1, 2, 7, 8, 28]) <|
 .seq (.ops [⟨some 59, .move (.tmp 1), false, none⟩,
  ⟨some 60, .move (.tmp 8), false, none⟩,
  ⟨some 61, .call ⟨.builtin .max, #[(.tmp 59), (.tmp 60)], #[26, 26]⟩, false, none⟩,
  ⟨some 62, .move (.tmp 8), false, none⟩,
  ⟨some 63, .binOp .sub 26 (.tmp 61) (.tmp 62) 26, false, none⟩,
  ⟨some 64, .move (.tmp 2), false, none⟩,
  ⟨some 65, .move (.tmp 8), false, none⟩,
  ⟨some 66, .binOp .add 26 (.tmp 65) (.const (.int .u64 4096)) 26, false, none⟩,
  ⟨some 67, .call ⟨.builtin .min, #[(.tmp 64), (.tmp 66)], #[26, 26]⟩, false, none⟩,
  ⟨some 68, .move (.tmp 8), false, none⟩,
  ⟨some 69, .binOp .sub 26 (.tmp 67) (.tmp 68) 26, false, none⟩,
  ⟨some 9, .assign (.tmp 63), false, none⟩,
  ⟨some 10, .assign (.tmp 69), false, none⟩]) <|
 .seq (.keep [0, 1, 2, 7, 9, 10, 28]) <|
 .ops [⟨some 70, .move (.tmp 7), false, none⟩,
  ⟨some 71, .nilCheck (.tmp 70), false, none⟩,
  ⟨some 72, .move (.tmp 9), false, none⟩,
  ⟨some 73, .move (.tmp 10), false, none⟩,
  ⟨some 74, .slice 132 (.tmp 71) (some (.tmp 72)) (some (.tmp 73)) none, false, none⟩,
  ⟨none, .call ⟨.builtin .clear, #[(.tmp 74)], #[22]⟩, true, none⟩]) <|
 .keep [0, 1, 2, 28]
theorem c52 : Try.f52.body.map (fun c => ((compile Try.prog kp52 [] kp52 c).map (·.1), fits Try.f52.ntmps c)) = some (some s52, true) := by kernel_rfl
theorem r52 : Try.f52.results.toList = [] := by kernel_rfl
-- slices.IndexFunc[[]marionette/api.Region,marionette/api.Region]
abbrev kp53 : List Nat := [4]
def s53 : SC :=
 .seq (.ops [⟨some 4, .assign (.const (.int .i64 0)), false, none⟩]) <|
 .seq (.keep [0, 1]) <|
 .seq (.seq (.ops [⟨some 6, .move (.tmp 0), false, none⟩,
  ⟨some 7, .call ⟨.builtin .len, #[(.tmp 6)], #[115]⟩, false, none⟩,
  ⟨some 8, .move (.const (.int .i64 0)), false, none⟩]) <|
 .seq (.keep [0, 1, 7, 8]) <|
 .block 0 <| .loop <| .seq (.seq (.ops [⟨some 9, .binOp .lss 3 (.tmp 8) (.tmp 7) 3, false, none⟩]) <|
 .seq (.keep [0, 1, 7, 8, 9]) <|
 .seq (.cond (.tmp 9) (.skip) <|
 .exit 0) <|
 .seq (.keep [0, 1, 7, 8]) <|
 .seq (.block 1 <| .seq (.ops [⟨some 10, .move (.tmp 8), false, none⟩,
  ⟨some 5, .assign (.tmp 10), false, none⟩]) <|
 .seq (.keep [0, 1, 5, 7, 8]) <|
 .seq (.ops [⟨some 11, .move (.tmp 1), false, none⟩,
  ⟨some 12, .move (.tmp 0), false, none⟩,
  ⟨some 13, .move (.tmp 5), false, none⟩,
  ⟨some 14, .indexAddr 115 (.tmp 12) (.tmp 13), false, none⟩,
  ⟨some 15, .load 83 (.tmp 14), false, none⟩,
  ⟨some 16, .call ⟨.value (.tmp 11), #[(.tmp 15)], #[83]⟩, true, none⟩]) <|
 .seq (.keep [0, 1, 5, 7, 8, 16]) <|
 .cond (.tmp 16) (.seq (.ops [⟨some 17, .move (.tmp 5), false, none⟩,
  ⟨some 4, .assign (.tmp 17), false, none⟩]) <|
 .seq (.keep [4]) <|
 .ret) <|
 .skip) <|
 .seq (.keep [0, 1, 7, 8]) <|
 .ops [⟨some 18, .binOp .add 3 (.tmp 8) (.const (.int .i64 1)) 3, false, none⟩,
  ⟨some 8, .move (.tmp 18), false, none⟩]) <|
 .keep [0, 1, 7, 8]) <|
 .seq (.keep []) <|
 .seq (.ops [⟨some 4, .assign (.const (.int .i64 (-1))), false, none⟩]) <|
 .seq (.keep [4]) <|
 .ret
theorem c53 : Try.f53.body.map (fun c => ((compile Try.prog kp53 [] kp53 c).map (·.1), fits Try.f53.ntmps c)) = some (some s53, true) := by kernel_rfl
theorem r53 : Try.f53.results.toList = [.tmp 4] := by kernel_rfl
-- (*marionette/region.List).At$1
abbrev kp54 : List Nat := [3]
def s54 : SC :=
 .seq (.ops [⟨some 2, .box 83 (.tmp 0), true, none⟩,
  ⟨some 3, .assign (.const (.bool false)), false, none⟩]) <|
 .seq (.keep [1, 2]) <|
 .seq (.ops [⟨some 4, .load 26 (.tmp 1), false, none⟩,
  ⟨some 5, .fieldAddr 83 (.tmp 2) 0, false, none⟩,
  ⟨some 6, .load 26 (.tmp 5), false, none⟩,
  ⟨some 7, .binOp .geq 26 (.tmp 4) (.tmp 6) 26, false, none⟩,
  ⟨some 8, .move (.tmp 7), false, none⟩,
  ⟨some 9, .load 26 (.tmp 1), false, some (8, true)⟩,
  ⟨some 10, .fieldAddr 83 (.tmp 2) 1, false, some (8, true)⟩,
  ⟨some 11, .load 26 (.tmp 10), false, some (8, true)⟩,
  ⟨some 12, .binOp .lss 26 (.tmp 9) (.tmp 11) 26, false, some (8, true)⟩,
  ⟨some 13, .pick (.tmp 8) (.tmp 12) (.const (.bool false)), false, none⟩,
  ⟨some 3, .assign (.tmp 13), false, none⟩]) <|
 .seq (.keep [3]) <|
 .ret
theorem c54 : Try.f54.body.map (fun c => ((compile Try.prog kp54 [] kp54 c).map (·.1), fits Try.f54.ntmps c)) = some (some s54, true) := by kernel_rfl
theorem r54 : Try.f54.results.toList = [.tmp 3] := by kernel_rfl
-- marionette/page.part
abbrev kp55 : List Nat := [4, 5]
def s55 : SC :=
 .seq (.ops [⟨some 4, .assign (.const (.int .i64 0)), false, none⟩,
  ⟨some 5, .assign (.const (.int .i64 0)), false, none⟩]) <|
 .seq (.keep [0, 1]) <|
 .seq (.ops [⟨some 6, .move (.tmp 0), false, none⟩,
  ⟨some 7, .binOp .rem 26 (.tmp 6) (.const (.int .u64 4096)) 26, false, none⟩,
  ⟨some 8, .convert 26 3 (.tmp 7), false, none⟩,
  ⟨some 4, .assign (.tmp 8), false, none⟩]) <|
 .seq (.keep [1, 4]) <|
 .seq (.ops [⟨some 9, .move (.tmp 4), false, none⟩,
  ⟨some 10, .move (.tmp 1), false, none⟩,
  ⟨some 11, .move (.tmp 4), false, none⟩,
  ⟨some 12, .binOp .sub 3 (.const (.int .i64 4096)) (.tmp 11) 3, false, none⟩,
  ⟨some 13, .call ⟨.builtin .min, #[(.tmp 10), (.tmp 12)], #[3, 3]⟩, false, none⟩,
  ⟨some 4, .assign (.tmp 9), false, none⟩,
  ⟨some 5, .assign (.tmp 13), false, none⟩]) <|
 .seq (.keep [4, 5]) <|
 .ret
theorem c55 : Try.f55.body.map (fun c => ((compile Try.prog kp55 [] kp55 c).map (·.1), fits Try.f55.ntmps c)) = some (some s55, true) := by kernel_rfl
theorem r55 : Try.f55.results.toList = [.tmp 4, .tmp 5] := by kernel_rfl
-- (*marionette/page.Store).mark
abbrev kp56 : List Nat := []
def s56 : SC :=
 .seq (.ops [⟨some 4, .move (.tmp 0), false, none⟩,
  ⟨some 5, .nilCheck (.tmp 4), false, none⟩,
  ⟨some 6, .fieldAddr 121 (.tmp 5) 2, false, none⟩,
  ⟨some 7, .load 26 (.tmp 6), false, none⟩,
  ⟨some 8, .binOp .add 26 (.tmp 7) (.const (.int .u64 1)) 26, false, none⟩,
  ⟨some 9, .nilCheck (.tmp 4), false, none⟩,
  ⟨some 10, .fieldAddr 121 (.tmp 9) 2, false, none⟩,
  ⟨none, .store 26 (.tmp 10) (.tmp 8), true, none⟩]) <|
 .seq (.keep [0, 1]) <|
 .seq (.ops [⟨some 11, .move (.tmp 0), false, none⟩]) <|
 .seq (.ops [⟨some 12, .nilCheck (.tmp 11), false, none⟩]) <|
 .seq (.ops [⟨some 13, .fieldAddr 121 (.tmp 12) 1, false, none⟩]) <|
 .seq (.ops [⟨some 14, .load 119 (.tmp 13), false, none⟩]) <|
 .seq (.ops [⟨some 15, .move (.tmp 1), false, none⟩]) <|
 .seq (.ops [⟨some 16, .move (.tmp 0), false, none⟩]) <|
 .seq (.ops [⟨some 17, .nilCheck (.tmp 16), false, none⟩]) <|
 .seq (.ops [⟨some 18, .fieldAddr 121 (.tmp 17) 2, false, none⟩]) <|
 .seq (.ops [⟨some 19, .load 26 (.tmp 18), false, none⟩]) <|
 .seq (.ops [⟨none, .mapUpdate 119 (.tmp 14) (.tmp 15) (.tmp 19), true, none⟩]) <|
 .skip
theorem c56 : Try.f56.body.map (fun c => ((compile Try.prog kp56 [] kp56 c).map (·.1), fits Try.f56.ntmps c)) = some (some s56, true) := by kernel_rfl
theorem r56 : Try.f56.results.toList = [] := by kernel_rfl
-- (*marionette/mem.Space).Fetch
abbrev kp57 : List Nat := [4, 5]
def s57 : SC :=
 .seq (.ops [⟨some 4, .assign (.const (.int .u32 0)), false, none⟩,
  ⟨some 5, .alloc 36, true, none⟩]) <|
 .seq (.keep [0, 1, 5]) <|
 .seq (.seq (.ops [⟨some 9, .move (.tmp 0), false, none⟩,
  ⟨some 10, .binOp .eql 23 (.tmp 9) (.const (.pointer none)) 23, false, none⟩,
  ⟨some 11, .move (.tmp 10), false, none⟩,
  ⟨some 12, .move (.tmp 1), false, some (11, false)⟩,
  ⟨some 13, .binOp .rem 26 (.tmp 12) (.const (.int .u64 2)) 26, false, some (11, false)⟩,
  ⟨some 14, .binOp .neq 26 (.tmp 13) (.const (.int .u64 0)) 26, false, some (11, false)⟩,
  ⟨some 15, .pick (.tmp 11) (.const (.bool true)) (.tmp 14), false, none⟩]) <|
 .seq (.keep [0, 1, 5, 15]) <|
 .cond (.tmp 15) (.seq (.ops [⟨some 16, .move (.tmp 1), false, none⟩,
  ⟨some 17, .build 36 #[(0, (.const (.int .i64 3))), (1, (.tmp 16))], false, none⟩,
  ⟨some 4, .assign (.const (.int .u32 0)), false, none⟩,
  ⟨none, .store 36 (.tmp 5) (.tmp 17), true, none⟩]) <|
 .seq (.keep [4, 5]) <|
 .ret) <|
 .skip) <|
 .seq (.keep [0, 1, 5]) <|
 .seq (.ops [⟨some 19, .move (.tmp 0), false, none⟩,
  ⟨some 20, .move (.tmp 1), false, none⟩,
  ⟨some 21, .call ⟨.value (.func 75), #[(.tmp 19), (.tmp 20)], #[23, 26]⟩, true, none⟩,
  ⟨some 18, .move (.tmp 21), false, none⟩,
  ⟨some 22, .extract (.tmp 18) 0, false, none⟩,
  ⟨some 23, .extract (.tmp 18) 1, false, none⟩,
  ⟨some 7, .alloc 36, true, none⟩,
  ⟨some 6, .assign (.tmp 22), false, none⟩,
  ⟨none, .store 36 (.tmp 7) (.tmp 23), true, none⟩]) <|
 .seq (.keep [0, 1, 5, 6, 7]) <|
 .seq (.seq (.ops [⟨some 24, .fieldAddr 36 (.tmp 7) 0, false, none⟩,
  ⟨some 25, .load 3 (.tmp 24), false, none⟩,
  ⟨some 26, .binOp .neq 3 (.tmp 25) (.const (.int .i64 0)) 3, false, none⟩,
  ⟨some 27, .move (.tmp 26), false, none⟩,
  ⟨some 28, .move (.tmp 6), false, some (27, false)⟩,
  ⟨some 29, .binOp .and 133 (.tmp 28) (.const (.int .u32 3)) 133, false, some (27, false)⟩,
  ⟨some 30, .binOp .neq 133 (.tmp 29) (.const (.int .u32 3)) 133, false, some (27, false)⟩,
  ⟨some 31, .pick (.tmp 27) (.const (.bool true)) (.tmp 30), false, none⟩]) <|
 .seq (.keep [0, 1, 5, 6, 7, 31]) <|
 .cond (.tmp 31) (.seq (.seq (.ops [⟨some 32, .move (.tmp 6), false, none⟩]) <|
 .seq (.ops [⟨some 33, .load 36 (.tmp 7), false, none⟩]) <|
 .seq (.ops [⟨some 4, .assign (.tmp 32), false, none⟩]) <|
 .seq (.ops [⟨none, .store 36 (.tmp 5) (.tmp 33), true, none⟩]) <|
 .skip) <|
 .seq (.keep [4, 5]) <|
 .ret) <|
 .skip) <|
 .seq (.keep [0, 1, 5, 6, 7]) <|
 .seq (.ops [⟨some 35, .move (.tmp 0), false, none⟩,
  ⟨some 36, .move (.tmp 1), false, none⟩,
  ⟨some 37, .binOp .add 26 (.tmp 36) (.const (.int .u64 2)) 26, false, none⟩,
  ⟨some 38, .call ⟨.value (.func 75), #[(.tmp 35), (.tmp 37)], #[23, 26]⟩, true, none⟩,
  ⟨some 34, .move (.tmp 38), false, none⟩,
  ⟨some 39, .extract (.tmp 34) 0, false, none⟩,
  ⟨some 40, .extract (.tmp 34) 1, false, none⟩,
  ⟨some 8, .assign (.tmp 39), false, none⟩,
  ⟨none, .store 36 (.tmp 7) (.tmp 40), true, none⟩]) <|
 .seq (.keep [5, 6, 7, 8]) <|
 .seq (.seq (.ops [⟨some 41, .fieldAddr 36 (.tmp 7) 0, false, none⟩,
  ⟨some 42, .load 3 (.tmp 41), false, none⟩,
  ⟨some 43, .binOp .neq 3 (.tmp 42) (.const (.int .i64 0)) 3, false, none⟩]) <|
 .seq (.keep [5, 6, 7, 8, 43]) <|
 .cond (.tmp 43) (.seq (.seq (.ops [⟨some 44, .load 36 (.tmp 7), false, none⟩]) <|
 .seq (.ops [⟨some 4, .assign (.const (.int .u32 0)), false, none⟩]) <|
 .seq (.ops [⟨none, .store 36 (.tmp 5) (.tmp 44), true, none⟩]) <|
 .skip) <|
 .seq (.keep [4, 5]) <|
 .ret) <|
 .skip) <|
 .seq (.keep [5, 6, 8]) <|
 .seq (.ops [⟨some 45, .move (.tmp 8), false, none⟩,
  ⟨some 46, .binOp .shl 133 (.tmp 45) (.const (.int .u64 16)) 146, false, none⟩,
  ⟨some 47, .move (.tmp 6), false, none⟩,
  ⟨some 48, .binOp .or 133 (.tmp 46) (.tmp 47) 133, false, none⟩,
  ⟨some 49, .build 36 #[], false, none⟩,
  ⟨some 4, .assign (.tmp 48), false, none⟩,
  ⟨none, .store 36 (.tmp 5) (.tmp 49), true, none⟩]) <|
 .seq (.keep [4, 5]) <|
 .ret
theorem c57 : Try.f57.body.map (fun c => ((compile Try.prog kp57 [] kp57 c).map (·.1), fits Try.f57.ntmps c)) = some (some s57, true) := by kernel_rfl
theorem r57 : Try.f57.results.toList = [.tmp 4, .cell 5 36] := by kernel_rfl
-- marionette/cache.decode
abbrev kp58 : List Nat := [2, 3]
def s58 : SC :=
 .seq (.ops [⟨some 2, .alloc 34, true, none⟩,
  ⟨some 3, .assign (.const (.bool false)), false, none⟩]) <|
 .seq (.keep [0, 2]) <|
 .seq (.seq (.ops [⟨some 4, .move (.tmp 0), false, none⟩,
  ⟨some 5, .convert 133 42 (.tmp 4), false, none⟩,
  ⟨some 6, .call ⟨.value (.func 76), #[(.tmp 5)], #[42]⟩, true, none⟩]) <|
 .seq (.keep [0, 2, 6]) <|
 .cond (.tmp 6) (.seq (.ops [⟨some 7, .move (.tmp 0), false, none⟩,
  ⟨some 8, .convert 133 42 (.tmp 7), false, none⟩,
  ⟨some 9, .call ⟨.value (.func 77), #[(.tmp 8)], #[42]⟩, true, none⟩,
  ⟨some 10, .extract (.tmp 9) 0, false, none⟩,
  ⟨some 11, .extract (.tmp 9) 1, false, none⟩,
  ⟨none, .store 34 (.tmp 2) (.tmp 10), true, none⟩,
  ⟨some 3, .assign (.tmp 11), false, none⟩]) <|
 .seq (.keep [2, 3]) <|
 .ret) <|
 .skip) <|
 .seq (.keep [0, 2]) <|
 .seq (.ops [⟨some 12, .move (.tmp 0), false, none⟩,
  ⟨some 13, .call ⟨.value (.func 78), #[(.tmp 12)], #[133]⟩, true, none⟩,
  ⟨some 14, .extract (.tmp 13) 0, false, none⟩,
  ⟨some 15, .extract (.tmp 13) 1, false, none⟩,
  ⟨none, .store 34 (.tmp 2) (.tmp 14), true, none⟩,
  ⟨some 3, .assign (.tmp 15), false, none⟩]) <|
 .seq (.keep [2, 3]) <|
 .ret
theorem c58 : Try.f58.body.map (fun c => ((compile Try.prog kp58 [] kp58 c).map (·.1), fits Try.f58.ntmps c)) = some (some s58, true) := by kernel_rfl
theorem r58 : Try.f58.results.toList = [.cell 2 34, .tmp 3] := by kernel_rfl
-- (*marionette/mem.Space).Stamp
abbrev kp59 : List Nat := [4]
def s59 : SC :=
 .seq (.ops [⟨some 4, .assign (.const (.int .u64 0)), false, none⟩]) <|
 .seq (.keep [0, 1]) <|
 .seq (.seq (.ops [⟨some 5, .move (.tmp 0), false, none⟩,
  ⟨some 6, .binOp .eql 23 (.tmp 5) (.const (.pointer none)) 23, false, none⟩]) <|
 .seq (.keep [0, 1, 6]) <|
 .cond (.tmp 6) (.seq (.ops [⟨some 4, .assign (.const (.int .u64 0)), false, none⟩]) <|
 .seq (.keep [4]) <|
 .ret) <|
 .skip) <|
 .seq (.keep [0, 1]) <|
 .seq (.ops [⟨some 7, .move (.tmp 0), false, none⟩,
  ⟨some 8, .nilCheck (.tmp 7), false, none⟩,
  ⟨some 9, .fieldAddr 78 (.tmp 8) 1, false, none⟩,
  ⟨some 10, .load 75 (.tmp 9), false, none⟩,
  ⟨some 11, .move (.tmp 1), false, none⟩,
  ⟨some 12, .call ⟨.value (.func 79), #[(.tmp 10), (.tmp 11)], #[75, 26]⟩, true, none⟩,
  ⟨some 4, .assign (.tmp 12), false, none⟩]) <|
 .seq (.keep [4]) <|
 .ret
theorem c59 : Try.f59.body.map (fun c => ((compile Try.prog kp59 [] kp59 c).map (·.1), fits Try.f59.ntmps c)) = some (some s59, true) := by kernel_rfl
theorem r59 : Try.f59.results.toList = [.tmp 4] := by kernel_rfl
-- (*marionette/mem.Space).reach
abbrev kp63 : List Nat := [8]
def s63 : SC :=
 .seq (.ops [⟨some 8, .assign (.const (.int .i64 0)), false, none⟩]) <|
 .seq (.keep [0, 1, 2, 3]) <|
 .seq (.block 0 <| .seq (.ops [⟨some 12, .move (.tmp 2), false, none⟩,
  ⟨some 13, .binOp .lss 3 (.tmp 12) (.const (.int .i64 0)) 3, false, none⟩,
  ⟨some 14, .move (.tmp 13), false, none⟩,
  ⟨some 15, .move (.tmp 2), false, some (14, false)⟩,
  ⟨some 16, .binOp .gtr 3 (.tmp 15) (.const (.int .i64 4194304)) 3, false, some (14, false)⟩,
  ⟨some 17, .pick (.tmp 14) (.const (.bool true)) (.tmp 16), false, none⟩,
  ⟨some 11, .assign (.tmp 17), false, none⟩]) <|
 .seq (.keep [0, 1, 2, 3, 11]) <|
 .cond (.tmp 11) (.seq (.ops [⟨some 8, .assign (.const (.int .i64 22)), false, none⟩]) <|
 .seq (.keep [8]) <|
 .ret) <|
 .seq (.ops [⟨some 19, .move (.tmp 2), false, none⟩,
  ⟨some 20, .binOp .eql 3 (.tmp 19) (.const (.int .i64 0)) 3, false, none⟩,
  ⟨some 18, .assign (.tmp 20), false, none⟩]) <|
 .seq (.keep [0, 1, 2, 3, 18]) <|
 .cond (.tmp 18) (.seq (.ops [⟨some 8, .assign (.const (.int .i64 0)), false, none⟩]) <|
 .seq (.keep [8]) <|
 .ret) <|
 .seq (.ops [⟨some 22, .move (.tmp 1), false, none⟩,
  ⟨some 23, .binOp .geq 26 (.tmp 22) (.const (.int .u64 274877906944)) 26, false, none⟩,
  ⟨some 24, .move (.tmp 23), false, none⟩,
  ⟨some 25, .move (.tmp 2), false, some (24, false)⟩,
  ⟨some 26, .convert 3 26 (.tmp 25), false, some (24, false)⟩,
  ⟨some 27, .move (.tmp 1), false, some (24, false)⟩,
  ⟨some 28, .binOp .sub 26 (.const (.int .u64 274877906944)) (.tmp 27) 26, false, some (24, false)⟩,
  ⟨some 29, .binOp .gtr 26 (.tmp 26) (.tmp 28) 26, false, some (24, false)⟩,
  ⟨some 30, .pick (.tmp 24) (.const (.bool true)) (.tmp 29), false, none⟩,
  ⟨some 21, .assign (.tmp 30), false, none⟩]) <|
 .seq (.keep [0, 1, 2, 3, 21]) <|
 .cond (.tmp 21) (.seq (.ops [⟨some 8, .assign (.const (.int .i64 14)), false, none⟩]) <|
 .seq (.keep [8]) <|
 .ret) <|
 .skip) <|
 .seq (.keep [0, 1, 2, 3]) <|
 .seq (.seq (.ops [⟨some 32, .move (.tmp 0), false, none⟩,
  ⟨some 33, .nilCheck (.tmp 32), false, none⟩,
  ⟨some 34, .fieldAddr 78 (.tmp 33) 0, false, none⟩,
  ⟨some 35, .load 73 (.tmp 34), false, none⟩,
  ⟨some 36, .move (.tmp 1), false, none⟩,
  ⟨some 37, .move (.tmp 1), false, none⟩,
  ⟨some 38, .move (.tmp 2), false, none⟩,
  ⟨some 39, .convert 3 26 (.tmp 38), false, none⟩,
  ⟨some 40, .binOp .add 26 (.tmp 37) (.tmp 39) 26, false, none⟩,
  ⟨some 41, .move (.tmp 3), false, none⟩,
  ⟨some 42, .call ⟨.value (.func 80), #[(.tmp 35), (.tmp 36), (.tmp 40), (.tmp 41)], #[73, 26, 26, 3]⟩, true, none⟩,
  ⟨some 31, .move (.tmp 42), false, none⟩,
  ⟨some 43, .extract (.tmp 31) 0, false, none⟩,
  ⟨some 44, .extract (.tmp 31) 1, false, none⟩,
  ⟨some 9, .assign (.tmp 43), false, none⟩,
  ⟨some 10, .assign (.tmp 44), false, none⟩]) <|
 .seq (.keep [10]) <|
 .seq (.ops [⟨some 45, .move (.tmp 10), false, none⟩]) <|
 .seq (.keep [45]) <|
 .cond (.tmp 45) (.seq (.ops [⟨some 8, .assign (.const (.int .i64 14)), false, none⟩]) <|
 .seq (.keep [8]) <|
 .ret) <|
 .skip) <|
 .seq (.keep []) <|
 .seq (.ops [⟨some 8, .assign (.const (.int .i64 0)), false, none⟩]) <|
 .seq (.keep [8]) <|
 .ret
theorem c63 : Try.f63.body.map (fun c => ((compile Try.prog kp63 [] kp63 c).map (·.1), fits Try.f63.ntmps c)) = some (some s63, true) := by kernel_rfl
theorem r63 : Try.f63.results.toList = [.tmp 8] := by kernel_rfl
-- marionette/word.Get
abbrev kp66 : List Nat := [4]
def s66 : SC :=
 .seq (.ops [⟨some 4, .assign (.const (.int .u64 0)), false, none⟩]) <|
 .seq (.keep [0, 1]) <|
 .seq (.seq (.ops [⟨some 8, .move (.tmp 1), false, none⟩,
  ⟨some 9, .binOp .lss 3 (.tmp 8) (.const (.int .i64 1)) 3, false, none⟩,
  ⟨some 10, .move (.tmp 9), false, none⟩,
  ⟨some 11, .move (.tmp 1), false, some (10, false)⟩,
  ⟨some 12, .binOp .gtr 3 (.tmp 11) (.const (.int .i64 8)) 3, false, some (10, false)⟩,
  ⟨some 13, .pick (.tmp 10) (.const (.bool true)) (.tmp 12), false, none⟩]) <|
 .seq (.keep [0, 1, 13]) <|
 .cond (.tmp 13) (.seq (.ops [⟨some 4, .assign (.const (.int .u64 0)), false, none⟩]) <|
 .seq (.keep [4]) <|
 .ret) <|
 .skip) <|
 .seq (.keep [0, 1]) <|
 .seq (.ops [⟨some 5, .assign (.const (.int .u64 0)), false, none⟩]) <|
 .seq (.keep [0, 1, 5]) <|
 .seq (.seq (.ops [⟨some 14, .move (.tmp 0), false, none⟩,
  ⟨some 15, .move (.tmp 1), false, none⟩,
  ⟨some 16, .move (.tmp 0), false, none⟩,
  ⟨some 17, .call ⟨.builtin .len, #[(.tmp 16)], #[22]⟩, false, none⟩,
  ⟨some 18, .call ⟨.builtin .min, #[(.tmp 15), (.tmp 17)], #[3, 3]⟩, false, none⟩,
  ⟨some 19, .slice 22 (.tmp 14) none (some (.tmp 18)) none, false, none⟩,
  ⟨some 20, .call ⟨.builtin .len, #[(.tmp 19)], #[22]⟩, false, none⟩,
  ⟨some 21, .move (.const (.int .i64 0)), false, none⟩]) <|
 .seq (.keep [5, 19, 20, 21]) <|
 .block 0 <| .loop <| .seq (.seq (.ops [⟨some 22, .binOp .lss 3 (.tmp 21) (.tmp 20) 3, false, none⟩]) <|
 .seq (.keep [5, 19, 20, 21, 22]) <|
 .seq (.cond (.tmp 22) (.skip) <|
 .exit 0) <|
 .seq (.keep [5, 19, 20, 21]) <|
 .seq (.block 1 <| .seq (.ops [⟨some 23, .move (.tmp 21), false, none⟩,
  ⟨some 24, .indexAddr 22 (.tmp 19) (.tmp 21), false, none⟩,
  ⟨some 25, .load 5 (.tmp 24), false, none⟩,
  ⟨some 6, .assign (.tmp 23), false, none⟩,
  ⟨some 7, .assign (.tmp 25), false, none⟩]) <|
 .seq (.keep [5, 6, 7, 19, 20, 21]) <|
 .ops [⟨some 26, .move (.tmp 5), false, none⟩,
  ⟨some 27, .move (.tmp 7), false, none⟩,
  ⟨some 28, .convert 5 26 (.tmp 27), false, none⟩,
  ⟨some 29, .move (.tmp 6), false, none⟩,
  ⟨some 30, .binOp .mul 3 (.const (.int .i64 8)) (.tmp 29) 3, false, none⟩,
  ⟨some 31, .binOp .shl 26 (.tmp 28) (.tmp 30) 3, false, none⟩,
  ⟨some 32, .binOp .or 26 (.tmp 26) (.tmp 31) 26, false, none⟩,
  ⟨some 5, .assign (.tmp 32), false, none⟩]) <|
 .seq (.keep [5, 19, 20, 21]) <|
 .ops [⟨some 33, .binOp .add 3 (.tmp 21) (.const (.int .i64 1)) 3, false, none⟩,
  ⟨some 21, .move (.tmp 33), false, none⟩]) <|
 .keep [5, 19, 20, 21]) <|
 .seq (.keep [5]) <|
 .seq (.ops [⟨some 34, .move (.tmp 5), false, none⟩,
  ⟨some 4, .assign (.tmp 34), false, none⟩]) <|
 .seq (.keep [4]) <|
 .ret
theorem c66 : Try.f66.body.map (fun c => ((compile Try.prog kp66 [] kp66 c).map (·.1), fits Try.f66.ntmps c)) = some (some s66, true) := by kernel_rfl
theorem r66 : Try.f66.results.toList = [.tmp 4] := by kernel_rfl
-- marionette/region.span
abbrev kp67 : List Nat := [4]
def s67 : SC :=
 .seq (.ops [⟨some 4, .assign (.const (.bool false)), false, none⟩]) <|
 .seq (.keep [0, 1]) <|
 .seq (.ops [⟨some 5, .move (.tmp 0), false, none⟩,
  ⟨some 6, .binOp .rem 26 (.tmp 5) (.const (.int .u64 4096)) 26, false, none⟩,
  ⟨some 7, .binOp .eql 26 (.tmp 6) (.const (.int .u64 0)) 26, false, none⟩,
  ⟨some 8, .move (.tmp 7), false, none⟩,
  ⟨some 9, .move (.tmp 1), false, some (8, true)⟩,
  ⟨some 10, .binOp .rem 26 (.tmp 9) (.const (.int .u64 4096)) 26, false, some (8, true)⟩,
  ⟨some 11, .binOp .eql 26 (.tmp 10) (.const (.int .u64 0)) 26, false, some (8, true)⟩,
  ⟨some 12, .pick (.tmp 8) (.tmp 11) (.const (.bool false)), false, none⟩,
  ⟨some 13, .move (.tmp 12), false, none⟩,
  ⟨some 14, .move (.tmp 0), false, some (13, true)⟩,
  ⟨some 15, .move (.tmp 1), false, some (13, true)⟩,
  ⟨some 16, .binOp .lss 26 (.tmp 14) (.tmp 15) 26, false, some (13, true)⟩,
  ⟨some 17, .pick (.tmp 13) (.tmp 16) (.const (.bool false)), false, none⟩,
  ⟨some 18, .move (.tmp 17), false, none⟩,
  ⟨some 19, .move (.tmp 1), false, some (18, true)⟩,
  ⟨some 20, .binOp .leq 26 (.tmp 19) (.const (.int .u64 274877906944)) 26, false, some (18, true)⟩,
  ⟨some 21, .pick (.tmp 18) (.tmp 20) (.const (.bool false)), false, none⟩,
  ⟨some 4, .assign (.tmp 21), false, none⟩]) <|
 .seq (.keep [4]) <|
 .ret
theorem c67 : Try.f67.body.map (fun c => ((compile Try.prog kp67 [] kp67 c).map (·.1), fits Try.f67.ntmps c)) = some (some s67, true) := by kernel_rfl
theorem r67 : Try.f67.results.toList = [.tmp 4] := by kernel_rfl
-- slices.ContainsFunc[[]marionette/api.Region,marionette/api.Region]
abbrev kp68 : List Nat := [4]
def s68 : SC :=
 .seq (.ops [⟨some 4, .assign (.const (.bool false)), false, none⟩]) <|
 .seq (.keep [0, 1]) <|
 .seq (.ops [⟨some 5, .move (.tmp 0), false, none⟩,
  ⟨some 6, .move (.tmp 1), false, none⟩,
  ⟨some 7, .call ⟨.value (.func 53), #[(.tmp 5), (.tmp 6)], #[115, 126]⟩, true, none⟩,
  ⟨some 8, .binOp .geq 3 (.tmp 7) (.const (.int .i64 0)) 3, false, none⟩,
  ⟨some 4, .assign (.tmp 8), false, none⟩]) <|
 .seq (.keep [4]) <|
 .ret
theorem c68 : Try.f68.body.map (fun c => ((compile Try.prog kp68 [] kp68 c).map (·.1), fits Try.f68.ntmps c)) = some (some s68, true) := by kernel_rfl
theorem r68 : Try.f68.results.toList = [.tmp 4] := by kernel_rfl
-- (*marionette/region.List).Free$1
abbrev kp69 : List Nat := [4]
def s69 : SC :=
 .seq (.ops [⟨some 3, .box 83 (.tmp 0), true, none⟩,
  ⟨some 4, .assign (.const (.bool false)), false, none⟩]) <|
 .seq (.keep [1, 2, 3]) <|
 .seq (.ops [⟨some 5, .fieldAddr 83 (.tmp 3) 0, false, none⟩,
  ⟨some 6, .load 26 (.tmp 5), false, none⟩,
  ⟨some 7, .load 26 (.tmp 1), false, none⟩,
  ⟨some 8, .binOp .lss 26 (.tmp 6) (.tmp 7) 26, false, none⟩,
  ⟨some 9, .move (.tmp 8), false, none⟩,
  ⟨some 10, .fieldAddr 83 (.tmp 3) 1, false, some (9, true)⟩,
  ⟨some 11, .load 26 (.tmp 10), false, some (9, true)⟩,
  ⟨some 12, .load 26 (.tmp 2), false, some (9, true)⟩,
  ⟨some 13, .binOp .gtr 26 (.tmp 11) (.tmp 12) 26, false, some (9, true)⟩,
  ⟨some 14, .pick (.tmp 9) (.tmp 13) (.const (.bool false)), false, none⟩,
  ⟨some 4, .assign (.tmp 14), false, none⟩]) <|
 .seq (.keep [4]) <|
 .ret
theorem c69 : Try.f69.body.map (fun c => ((compile Try.prog kp69 [] kp69 c).map (·.1), fits Try.f69.ntmps c)) = some (some s69, true) := by kernel_rfl
theorem r69 : Try.f69.results.toList = [.tmp 4] := by kernel_rfl
-- slices.Clone[[]marionette/api.Region,marionette/api.Region]
abbrev kp70 : List Nat := [2]
def s70 : SC :=
 .seq (.ops [⟨some 2, .assign (.const (.slice none 0 0)), false, none⟩]) <|
 .seq (.keep [0]) <|
 .seq (.seq (.ops [⟨some 3, .move (.tmp 0), false, none⟩,
  ⟨some 4, .binOp .eql 115 (.tmp 3) (.const (.slice none 0 0)) 115, false, none⟩]) <|
 .seq (.keep [0, 4]) <|
 .cond (.tmp 4) (.seq (.ops [⟨some 2, .assign (.const (.slice none 0 0)), false, none⟩]) <|
 .seq (.keep [2]) <|
 .ret) <|
 .skip) <|
 .seq (.keep [0]) <|
 .seq (.ops [⟨some 5, .buildSlice 115 0 #[], true, none⟩,
  ⟨some 6, .move (.tmp 0), false, none⟩,
  ⟨some 7, .call ⟨.builtin .append, #[(.tmp 5), (.tmp 6)], #[115, 115]⟩, true, none⟩,
  ⟨some 2, .assign (.tmp 7), false, none⟩]) <|
 .seq (.keep [2]) <|
 .ret
theorem c70 : Try.f70.body.map (fun c => ((compile Try.prog kp70 [] kp70 c).map (·.1), fits Try.f70.ntmps c)) = some (some s70, true) := by kernel_rfl
theorem r70 : Try.f70.results.toList = [.tmp 2] := by kernel_rfl
-- marionette/region.prots
abbrev kp71 : List Nat := [2]
def s71 : SC :=
 .seq (.ops [⟨some 2, .assign (.const (.bool false)), false, none⟩]) <|
 .seq (.keep [0]) <|
 .seq (.ops [⟨some 3, .move (.tmp 0), false, none⟩,
  ⟨some 4, .binOp .geq 3 (.tmp 3) (.const (.int .i64 0)) 3, false, none⟩,
  ⟨some 5, .move (.tmp 4), false, none⟩,
  ⟨some 6, .move (.tmp 0), false, some (5, true)⟩,
  ⟨some 7, .binOp .leq 3 (.tmp 6) (.const (.int .i64 7)) 3, false, some (5, true)⟩,
  ⟨some 8, .pick (.tmp 5) (.tmp 7) (.const (.bool false)), false, none⟩,
  ⟨some 2, .assign (.tmp 8), false, none⟩]) <|
 .seq (.keep [2]) <|
 .ret
theorem c71 : Try.f71.body.map (fun c => ((compile Try.prog kp71 [] kp71 c).map (·.1), fits Try.f71.ntmps c)) = some (some s71, true) := by kernel_rfl
theorem r71 : Try.f71.results.toList = [.tmp 2] := by kernel_rfl
-- (*marionette/region.List).take
abbrev kp72 : List Nat := [4]
def s72 : SC :=
 .seq (.ops [⟨some 4, .assign (.const (.int .i64 0)), false, none⟩]) <|
 .seq (.keep [0, 1]) <|
 .seq (.ops [⟨some 5, .move (.tmp 1), false, none⟩,
  ⟨some 6, .call ⟨.value (.func 82), #[(.tmp 5)], #[115]⟩, true, none⟩,
  ⟨some 1, .assign (.tmp 6), false, none⟩]) <|
 .seq (.keep [0, 1]) <|
 .seq (.seq (.ops [⟨some 7, .move (.tmp 1), false, none⟩,
  ⟨some 8, .call ⟨.builtin .len, #[(.tmp 7)], #[115]⟩, false, none⟩,
  ⟨some 9, .binOp .gtr 3 (.tmp 8) (.const (.int .i64 256)) 3, false, none⟩]) <|
 .seq (.keep [0, 1, 9]) <|
 .cond (.tmp 9) (.seq (.ops [⟨some 4, .assign (.const (.int .i64 12)), false, none⟩]) <|
 .seq (.keep [4]) <|
 .ret) <|
 .skip) <|
 .seq (.keep [0, 1]) <|
 .seq (.ops [⟨some 10, .move (.tmp 0), false, none⟩,
  ⟨some 11, .move (.tmp 1), false, none⟩,
  ⟨some 12, .nilCheck (.tmp 10), false, none⟩,
  ⟨some 13, .fieldAddr 117 (.tmp 12) 0, false, none⟩,
  ⟨none, .store 115 (.tmp 13) (.tmp 11), true, none⟩]) <|
 .seq (.keep []) <|
 .seq (.ops [⟨some 4, .assign (.const (.int .i64 0)), false, none⟩]) <|
 .seq (.keep [4]) <|
 .ret
theorem c72 : Try.f72.body.map (fun c => ((compile Try.prog kp72 [] kp72 c).map (·.1), fits Try.f72.ntmps c)) = some (some s72, true) := by kernel_rfl
theorem r72 : Try.f72.results.toList = [.tmp 4] := by kernel_rfl
-- marionette/region.with
abbrev kp73 : List Nat := [4]
def s73 : SC :=
 .seq (.ops [⟨some 3, .box 83 (.tmp 1), true, none⟩,
  ⟨some 4, .assign (.const (.slice none 0 0)), false, none⟩]) <|
 .seq (.keep [0, 3]) <|
 .seq (.ops [⟨some 7, .move (.tmp 0), false, none⟩,
  ⟨some 8, .fieldAddr 83 (.tmp 3) 0, false, none⟩,
  ⟨some 9, .load 26 (.tmp 8), false, none⟩,
  ⟨some 10, .fieldAddr 83 (.tmp 3) 1, false, none⟩,
  ⟨some 11, .load 26 (.tmp 10), false, none⟩,
  ⟨some 12, .call ⟨.value (.func 83), #[(.tmp 7), (.tmp 9), (.tmp 11)], #[115, 26, 26]⟩, true, none⟩,
  ⟨some 5, .assign (.tmp 12), false, none⟩]) <|
 .seq (.keep [3, 5]) <|
 .seq (.ops [⟨some 13, .move (.tmp 5), false, none⟩,
  ⟨some 14, .makeFunc (.func 84) #[] #[(.tmp 3)], false, none⟩,
  ⟨some 15, .call ⟨.value (.func 53), #[(.tmp 13), (.tmp 14)], #[115, 126]⟩, true, none⟩,
  ⟨some 6, .assign (.tmp 15), false, none⟩]) <|
 .seq (.keep [3, 5, 6]) <|
 .seq (.seq (.ops [⟨some 16, .move (.tmp 6), false, none⟩,
  ⟨some 17, .binOp .lss 3 (.tmp 16) (.const (.int .i64 0)) 3, false, none⟩]) <|
 .seq (.keep [3, 5, 6, 17]) <|
 .cond (.tmp 17) (.ops [⟨some 18, .move (.tmp 5), false, none⟩,
  ⟨some 19, .call ⟨.builtin .len, #[(.tmp 18)], #[115]⟩, false, none⟩,
  ⟨some 6, .assign (.tmp 19), false, none⟩]) <|
 .skip) <|
 .seq (.keep [3, 5, 6]) <|
 .seq (.ops [⟨some 20, .move (.tmp 5), false, none⟩,
  ⟨some 21, .move (.tmp 6), false, none⟩,
  ⟨some 22, .load 83 (.tmp 3), false, none⟩,
  ⟨some 23, .buildSlice 115 1 #[(0, (.tmp 22))], true, none⟩,
  ⟨some 24, .call ⟨.value (.func 85), #[(.tmp 20), (.tmp 21), (.tmp 23)], #[115, 3, 115]⟩, true, none⟩,
  ⟨some 4, .assign (.tmp 24), false, none⟩]) <|
 .seq (.keep [4]) <|
 .ret
theorem c73 : Try.f73.body.map (fun c => ((compile Try.prog kp73 [] kp73 c).map (·.1), fits Try.f73.ntmps c)) = some (some s73, true) := by kernel_rfl
theorem r73 : Try.f73.results.toList = [.tmp 4] := by kernel_rfl
-- (*marionette/page.Store).Touch
abbrev kp74 : List Nat := []
def s74 : SC :=
 .seq (.ops [⟨some 7, .move (.tmp 2), false, none⟩,
  ⟨some 8, .call ⟨.builtin .min, #[(.tmp 7), (.const (.int .u64 274877906944))], #[26, 26]⟩, false, none⟩,
  ⟨some 2, .assign (.tmp 8), false, none⟩]) <|
 .seq (.keep [0, 1, 2]) <|
 .seq (.seq (.ops [⟨some 9, .move (.tmp 0), false, none⟩,
  ⟨some 10, .binOp .eql 75 (.tmp 9) (.const (.pointer none)) 75, false, none⟩,
  ⟨some 11, .move (.tmp 10), false, none⟩,
  ⟨some 12, .move (.tmp 2), false, some (11, false)⟩,
  ⟨some 13, .move (.tmp 1), false, some (11, false)⟩,
  ⟨some 14, .binOp .leq 26 (.tmp 12) (.tmp 13) 26, false, some (11, false)⟩,
  ⟨some 15, .pick (.tmp 11) (.const (.bool true)) (.tmp 14), false, none⟩]) <|
 .seq (.keep [0, 1, 2, 15]) <|
 .cond (.tmp 15) (.ret) <|
 .skip) <|
 .seq (.keep [0, 1, 2]) <|
 .seq (.seq (.ops [⟨some 16, .move (.tmp 1), false, none⟩,
  ⟨some 17, .move (.tmp 2), false, none⟩,
  ⟨some 18, .call ⟨.value (.func 86), #[(.tmp 16), (.tmp 17)], #[26, 26]⟩, true, none⟩]) <|
 .seq (.keep [0, 1, 2, 18]) <|
 .cond (.tmp 18) (.seq (.ops [⟨some 19, .move (.tmp 0), false, none⟩,
  ⟨some 20, .nilCheck (.tmp 19), false, none⟩,
  ⟨some 21, .fieldAddr 121 (.tmp 20) 2, false, none⟩,
  ⟨some 22, .load 26 (.tmp 21), false, none⟩,
  ⟨some 23, .binOp .add 26 (.tmp 22) (.const (.int .u64 1)) 26, false, none⟩,
  ⟨some 24, .nilCheck (.tmp 19), false, none⟩,
  ⟨some 25, .fieldAddr 121 (.tmp 24) 2, false, none⟩,
  ⟨none, .store 26 (.tmp 25) (.tmp 23), true, none⟩]) <|
 .seq (.keep [0]) <|
 .seq (.ops [⟨some 26, .move (.tmp 0), false, none⟩,
  ⟨some 27, .move (.tmp 0), false, none⟩,
  ⟨some 28, .nilCheck (.tmp 27), false, none⟩,
  ⟨some 29, .fieldAddr 121 (.tmp 28) 2, false, none⟩,
  ⟨some 30, .load 26 (.tmp 29), false, none⟩,
  ⟨some 31, .nilCheck (.tmp 26), false, none⟩,
  ⟨some 32, .fieldAddr 121 (.tmp 31) 3, false, none⟩,
  ⟨none, .store 26 (.tmp 32) (.tmp 30), true, none⟩]) <|
 .seq (.keep []) <|
 .ret) <|
 .skip) <|
 .seq (.keep [0, 1, 2]) <|
 .seq (.ops [⟨some 33, .move (.tmp 1), false, none⟩,
  ⟨some 34, .binOp .quo 26 (.tmp 33) (.const (.int .u64 4096)) 26, false, none⟩,
  ⟨some 6, .assign (.tmp 34), false, none⟩]) <|
 .seq (.keep [0, 2, 6]) <|
 .block 0 <| .loop <| .seq (.seq (.seq (.ops [⟨some 35, .move (.tmp 6), false, none⟩,
  ⟨some 36, .binOp .mul 26 (.tmp 35) (.const (.int .u64 4096)) 26, false, none⟩,
  ⟨some 37, .move (.tmp 2), false, none⟩,
  ⟨some 38, .binOp .lss 26 (.tmp 36) (.tmp 37) 26, false, none⟩]) <|
 .seq (.keep [0, 2, 6, 38]) <|
 .cond (.tmp 38) (.skip) <|
 .exit 0) <|
 .seq (.keep [0, 2, 6]) <|
 .seq (.block 1 <| .ops [⟨some 41, .move (.tmp 0), false, none⟩,
  ⟨some 42, .move (.tmp 6), false, none⟩,
  ⟨some 43, .call ⟨.value (.func 56), #[(.tmp 41), (.tmp 42)], #[75, 26]⟩, true, none⟩]) <|
 .seq (.keep [0, 2, 6]) <|
 .ops [⟨some 39, .move (.tmp 6), false, none⟩,
  ⟨some 40, .binOp .add 26 (.tmp 39) (.const (.int .u64 1)) 26, false, none⟩,
  ⟨some 6, .assign (.tmp 40), false, none⟩]) <|
 .keep [0, 2, 6]
theorem c74 : Try.f74.body.map (fun c => ((compile Try.prog kp74 [] kp74 c).map (·.1), fits Try.f74.ntmps c)) = some (some s74, true) := by kernel_rfl
theorem r74 : Try.f74.results.toList = [] := by kernel_rfl
-- (*marionette/mem.Space).half
abbrev kp75 : List Nat := [4, 5]
def s75 : SC :=
 .seq (.ops [⟨some 4, .assign (.const (.int .u32 0)), false, none⟩,
  ⟨some 5, .alloc 36, true, none⟩]) <|
 .seq (.keep [0, 1, 5]) <|
 .seq (.seq (.ops [⟨some 9, .move (.tmp 0), false, none⟩,
  ⟨some 10, .move (.tmp 1), false, none⟩,
  ⟨some 11, .call ⟨.value (.func 87), #[(.tmp 9), (.tmp 10), (.const (.int .i64 2)), (.const (.int .i64 4))], #[23, 26, 3, 3]⟩, true, none⟩,
  ⟨some 8, .move (.tmp 11), false, none⟩,
  ⟨some 12, .extract (.tmp 8) 0, false, none⟩,
  ⟨some 13, .extract (.tmp 8) 1, false, none⟩,
  ⟨some 6, .assign (.tmp 12), false, none⟩,
  ⟨some 7, .assign (.tmp 13), false, none⟩]) <|
 .seq (.keep [0, 1, 5, 6, 7]) <|
 .seq (.ops [⟨some 14, .move (.tmp 7), false, none⟩]) <|
 .seq (.keep [0, 1, 5, 6, 14]) <|
 .cond (.tmp 14) (.seq (.ops [⟨some 15, .move (.tmp 6), false, none⟩,
  ⟨some 16, .build 36 #[(0, (.const (.int .i64 3))), (1, (.tmp 15))], false, none⟩,
  ⟨some 4, .assign (.const (.int .u32 0)), false, none⟩,
  ⟨none, .store 36 (.tmp 5) (.tmp 16), true, none⟩]) <|
 .seq (.keep [4, 5]) <|
 .ret) <|
 .skip) <|
 .seq (.keep [0, 1, 5]) <|
 .seq (.ops [⟨some 17, .move (.tmp 0), false, none⟩,
  ⟨some 18, .nilCheck (.tmp 17), false, none⟩,
  ⟨some 19, .fieldAddr 78 (.tmp 18) 1, false, none⟩,
  ⟨some 20, .load 75 (.tmp 19), false, none⟩,
  ⟨some 21, .move (.tmp 1), false, none⟩,
  ⟨some 22, .call ⟨.value (.func 39), #[(.tmp 20), (.tmp 21), (.const (.int .i64 2))], #[75, 26, 3]⟩, true, none⟩,
  ⟨some 23, .call ⟨.value (.func 66), #[(.tmp 22), (.const (.int .i64 2))], #[22, 3]⟩, true, none⟩,
  ⟨some 24, .convert 26 133 (.tmp 23), false, none⟩,
  ⟨some 25, .build 36 #[], false, none⟩,
  ⟨some 4, .assign (.tmp 24), false, none⟩,
  ⟨none, .store 36 (.tmp 5) (.tmp 25), true, none⟩]) <|
 .seq (.keep [4, 5]) <|
 .ret
theorem c75 : Try.f75.body.map (fun c => ((compile Try.prog kp75 [] kp75 c).map (·.1), fits Try.f75.ntmps c)) = some (some s75, true) := by kernel_rfl
theorem r75 : Try.f75.results.toList = [.tmp 4, .cell 5 36] := by kernel_rfl
-- marionette/comp.Short
abbrev kp76 : List Nat := [2]
def s76 : SC :=
 .seq (.ops [⟨some 2, .assign (.const (.bool false)), false, none⟩]) <|
 .seq (.keep [0]) <|
 .seq (.ops [⟨some 3, .move (.tmp 0), false, none⟩,
  ⟨some 4, .binOp .and 42 (.tmp 3) (.const (.int .u16 3)) 42, false, none⟩,
  ⟨some 5, .binOp .neq 42 (.tmp 4) (.const (.int .u16 3)) 42, false, none⟩,
  ⟨some 2, .assign (.tmp 5), false, none⟩]) <|
 .seq (.keep [2]) <|
 .ret
theorem c76 : Try.f76.body.map (fun c => ((compile Try.prog kp76 [] kp76 c).map (·.1), fits Try.f76.ntmps c)) = some (some s76, true) := by kernel_rfl
theorem r76 : Try.f76.results.toList = [.tmp 2] := by kernel_rfl
-- marionette/comp.Expand
abbrev kp77 : List Nat := [2, 3]
def s77 : SC :=
 .seq (.ops [⟨some 2, .alloc 34, true, none⟩,
  ⟨some 3, .assign (.const (.bool false)), false, none⟩]) <|
 .seq (.keep [0, 2]) <|
 .seq (.ops [⟨some 4, .alloc 34, true, none⟩]) <|
 .seq (.keep [0, 2, 4]) <|
 .seq (.seq (.ops [⟨some 5, .move (.tmp 0), false, none⟩,
  ⟨some 6, .binOp .and 42 (.tmp 5) (.const (.int .u16 3)) 42, false, none⟩]) <|
 .seq (.keep [0, 2, 4, 6]) <|
 .block 0 <| .seq (.ops [⟨some 8, .binOp .eql 42 (.tmp 6) (.const (.int .u16 0)) 42, false, none⟩,
  ⟨some 7, .assign (.tmp 8), false, none⟩]) <|
 .seq (.keep [0, 2, 4, 6, 7]) <|
 .cond (.tmp 7) (.ops [⟨some 9, .move (.tmp 0), false, none⟩,
  ⟨some 10, .call ⟨.value (.func 88), #[(.tmp 9)], #[162]⟩, true, none⟩,
  ⟨none, .store 34 (.tmp 4) (.tmp 10), true, none⟩]) <|
 .seq (.ops [⟨some 12, .binOp .eql 42 (.tmp 6) (.const (.int .u16 1)) 42, false, none⟩,
  ⟨some 11, .assign (.tmp 12), false, none⟩]) <|
 .seq (.keep [0, 2, 4, 6, 11]) <|
 .cond (.tmp 11) (.ops [⟨some 13, .move (.tmp 0), false, none⟩,
  ⟨some 14, .call ⟨.value (.func 89), #[(.tmp 13)], #[162]⟩, true, none⟩,
  ⟨none, .store 34 (.tmp 4) (.tmp 14), true, none⟩]) <|
 .seq (.ops [⟨some 16, .binOp .eql 42 (.tmp 6) (.const (.int .u16 2)) 42, false, none⟩,
  ⟨some 15, .assign (.tmp 16), false, none⟩]) <|
 .seq (.keep [0, 2, 4, 15]) <|
 .cond (.tmp 15) (.ops [⟨some 17, .move (.tmp 0), false, none⟩,
  ⟨some 18, .call ⟨.value (.func 90), #[(.tmp 17)], #[162]⟩, true, none⟩,
  ⟨none, .store 34 (.tmp 4) (.tmp 18), true, none⟩]) <|
 .skip) <|
 .seq (.keep [2, 4]) <|
 .seq (.seq (.ops [⟨some 19, .fieldAddr 34 (.tmp 4) 0, false, none⟩,
  ⟨some 20, .load 3 (.tmp 19), false, none⟩,
  ⟨some 21, .binOp .eql 3 (.tmp 20) (.const (.int .i64 0)) 3, false, none⟩]) <|
 .seq (.keep [2, 4, 21]) <|
 .cond (.tmp 21) (.seq (.ops [⟨some 22, .build 34 #[], false, none⟩,
  ⟨none, .store 34 (.tmp 2) (.tmp 22), true, none⟩,
  ⟨some 3, .assign (.const (.bool false)), false, none⟩]) <|
 .seq (.keep [2, 3]) <|
 .ret) <|
 .skip) <|
 .seq (.keep [2, 4]) <|
 .seq (.ops [⟨some 23, .fieldAddr 34 (.tmp 4) 6, false, none⟩,
  ⟨none, .store 3 (.tmp 23) (.const (.int .i64 2)), true, none⟩]) <|
 .seq (.keep [2, 4]) <|
 .seq (.ops [⟨some 24, .load 34 (.tmp 4), false, none⟩,
  ⟨none, .store 34 (.tmp 2) (.tmp 24), true, none⟩,
  ⟨some 3, .assign (.const (.bool true)), false, none⟩]) <|
 .seq (.keep [2, 3]) <|
 .ret
theorem c77 : Try.f77.body.map (fun c => ((compile Try.prog kp77 [] kp77 c).map (·.1), fits Try.f77.ntmps c)) = some (some s77, true) := by kernel_rfl
theorem r77 : Try.f77.results.toList = [.cell 2 34, .tmp 3] := by kernel_rfl
-- marionette/inst.Decode
abbrev kp78 : List Nat := [2, 3]
def s78 : SC :=
 .seq (.ops [⟨some 2, .alloc 34, true, none⟩,
  ⟨some 3, .assign (.const (.bool false)), false, none⟩]) <|
 .seq (.keep [0, 2]) <|
 .seq (.ops [⟨some 10, .move (.tmp 0), false, none⟩,
  ⟨some 11, .call ⟨.value (.func 91), #[(.tmp 10), (.const (.int .i64 7)), (.const (.int .i64 5))], #[133, 3, 3]⟩, true, none⟩,
  ⟨some 12, .move (.tmp 0), false, none⟩,
  ⟨some 13, .call ⟨.value (.func 91), #[(.tmp 12), (.const (.int .i64 12)), (.const (.int .i64 3))], #[133, 3, 3]⟩, true, none⟩,
  ⟨some 14, .move (.tmp 0), false, none⟩,
  ⟨some 15, .call ⟨.value (.func 91), #[(.tmp 14), (.const (.int .i64 15)), (.const (.int .i64 5))], #[133, 3, 3]⟩, true, none⟩,
  ⟨some 16, .move (.tmp 0), false, none⟩,
  ⟨some 17, .call ⟨.value (.func 91), #[(.tmp 16), (.const (.int .i64 20)), (.const (.int .i64 5))], #[133, 3, 3]⟩, true, none⟩,
  ⟨some 18, .move (.tmp 0), false, none⟩,
  ⟨some 19, .call ⟨.value (.func 91), #[(.tmp 18), (.const (.int .i64 25)), (.const (.int .i64 7))], #[133, 3, 3]⟩, true, none⟩,
  ⟨some 4, .assign (.tmp 11), false, none⟩,
  ⟨some 5, .assign (.tmp 13), false, none⟩,
  ⟨some 6, .assign (.tmp 15), false, none⟩,
  ⟨some 7, .assign (.tmp 17), false, none⟩,
  ⟨some 8, .assign (.tmp 19), false, none⟩]) <|
 .seq (.keep [0, 2, 4, 5, 6, 7, 8]) <|
 .seq (.ops [⟨some 9, .alloc 34, true, none⟩]) <|
 .seq (.keep [0, 2, 4, 5, 6, 7, 8, 9]) <|
 .seq (.seq (.ops [⟨some 20, .move (.tmp 0), false, none⟩,
  ⟨some 21, .call ⟨.value (.func 91), #[(.tmp 20), (.const (.int .i64 0)), (.const (.int .i64 7))], #[133, 3, 3]⟩, true, none⟩]) <|
 .seq (.keep [0, 2, 4, 5, 6, 7, 8, 9, 21]) <|
 .block 0 <| .seq (.ops [⟨some 29, .binOp .eql 3 (.tmp 21) (.const (.int .i64 55)) 3, false, none⟩,
  ⟨some 28, .assign (.tmp 29), false, none⟩]) <|
 .seq (.keep [0, 2, 4, 5, 6, 7, 8, 9, 21, 28]) <|
 .cond (.tmp 28) (.ops [⟨some 30, .move (.tmp 4), false, none⟩,
  ⟨some 31, .move (.tmp 0), false, none⟩,
  ⟨some 32, .call ⟨.value (.func 92), #[(.tmp 31)], #[133]⟩, true, none⟩,
  ⟨some 33, .build 34 #[(0, (.const (.int .i64 1))), (1, (.tmp 30)), (4, (.tmp 32))], false, none⟩,
  ⟨none, .store 34 (.tmp 9) (.tmp 33), true, none⟩]) <|
 .seq (.ops [⟨some 35, .binOp .eql 3 (.tmp 21) (.const (.int .i64 23)) 3, false, none⟩,
  ⟨some 34, .assign (.tmp 35), false, none⟩]) <|
 .seq (.keep [0, 2, 4, 5, 6, 7, 8, 9, 21, 34]) <|
 .cond (.tmp 34) (.ops [⟨some 36, .move (.tmp 4), false, none⟩,
  ⟨some 37, .move (.tmp 0), false, none⟩,
  ⟨some 38, .call ⟨.value (.func 92), #[(.tmp 37)], #[133]⟩, true, none⟩,
  ⟨some 39, .build 34 #[(0, (.const (.int .i64 2))), (1, (.tmp 36)), (4, (.tmp 38))], false, none⟩,
  ⟨none, .store 34 (.tmp 9) (.tmp 39), true, none⟩]) <|
 .seq (.ops [⟨some 41, .binOp .eql 3 (.tmp 21) (.const (.int .i64 111)) 3, false, none⟩,
  ⟨some 40, .assign (.tmp 41), false, none⟩]) <|
 .seq (.keep [0, 2, 4, 5, 6, 7, 8, 9, 21, 40]) <|
 .cond (.tmp 40) (.ops [⟨some 42, .move (.tmp 4), false, none⟩,
  ⟨some 43, .move (.tmp 0), false, none⟩,
  ⟨some 44, .call ⟨.value (.func 93), #[(.tmp 43)], #[133]⟩, true, none⟩,
  ⟨some 45, .build 34 #[(0, (.const (.int .i64 3))), (1, (.tmp 42)), (4, (.tmp 44))], false, none⟩,
  ⟨none, .store 34 (.tmp 9) (.tmp 45), true, none⟩]) <|
 .seq (.ops [⟨some 47, .binOp .eql 3 (.tmp 21) (.const (.int .i64 99)) 3, false, none⟩,
  ⟨some 46, .assign (.tmp 47), false, none⟩]) <|
 .seq (.keep [0, 2, 4, 5, 6, 7, 8, 9, 21, 46]) <|
 .cond (.tmp 46) (.ops [⟨some 48, .move (.tmp 5), false, none⟩,
  ⟨some 49, .call ⟨.value (.func 94), #[(.tmp 48)], #[3]⟩, true, none⟩,
  ⟨some 50, .move (.tmp 6), false, none⟩,
  ⟨some 51, .move (.tmp 7), false, none⟩,
  ⟨some 52, .move (.tmp 0), false, none⟩,
  ⟨some 53, .call ⟨.value (.func 95), #[(.tmp 52)], #[133]⟩, true, none⟩,
  ⟨some 54, .build 34 #[(0, (.tmp 49)), (2, (.tmp 50)), (3, (.tmp 51)), (4, (.tmp 53))], false, none⟩,
  ⟨none, .store 34 (.tmp 9) (.tmp 54), true, none⟩]) <|
 .seq (.ops [⟨some 56, .binOp .eql 3 (.tmp 21) (.const (.int .i64 35)) 3, false, none⟩,
  ⟨some 55, .assign (.tmp 56), false, none⟩]) <|
 .seq (.keep [0, 2, 4, 5, 6, 7, 8, 9, 21, 55]) <|
 .cond (.tmp 55) (.ops [⟨some 57, .move (.tmp 5), false, none⟩,
  ⟨some 58, .call ⟨.value (.func 96), #[(.tmp 57)], #[3]⟩, true, none⟩,
  ⟨some 59, .move (.tmp 6), false, none⟩,
  ⟨some 60, .move (.tmp 7), false, none⟩,
  ⟨some 61, .move (.tmp 0), false, none⟩,
  ⟨some 62, .call ⟨.value (.func 97), #[(.tmp 61)], #[133]⟩, true, none⟩,
  ⟨some 63, .build 34 #[(0, (.tmp 58)), (2, (.tmp 59)), (3, (.tmp 60)), (4, (.tmp 62))], false, none⟩,
  ⟨none, .store 34 (.tmp 9) (.tmp 63), true, none⟩]) <|
 .seq (.ops [⟨some 65, .binOp .eql 3 (.tmp 21) (.const (.int .i64 51)) 3, false, none⟩,
  ⟨some 64, .assign (.tmp 65), false, none⟩]) <|
 .seq (.keep [0, 2, 4, 5, 6, 7, 8, 9, 21, 64]) <|
 .cond (.tmp 64) (.ops [⟨some 66, .move (.tmp 8), false, none⟩,
  ⟨some 67, .move (.tmp 5), false, none⟩,
  ⟨some 68, .call ⟨.value (.func 98), #[(.tmp 66), (.tmp 67)], #[3, 3]⟩, true, none⟩,
  ⟨some 69, .move (.tmp 4), false, none⟩,
  ⟨some 70, .move (.tmp 6), false, none⟩,
  ⟨some 71, .move (.tmp 7), false, none⟩,
  ⟨some 72, .build 34 #[(0, (.tmp 68)), (1, (.tmp 69)), (2, (.tmp 70)), (3, (.tmp 71))], false, none⟩,
  ⟨none, .store 34 (.tmp 9) (.tmp 72), true, none⟩]) <|
 .seq (.ops [⟨some 74, .binOp .eql 3 (.tmp 21) (.const (.int .i64 59)) 3, false, none⟩,
  ⟨some 73, .assign (.tmp 74), false, none⟩]) <|
 .seq (.keep [0, 2, 4, 5, 6, 7, 8, 9, 21, 73]) <|
 .cond (.tmp 73) (.ops [⟨some 75, .move (.tmp 8), false, none⟩,
  ⟨some 76, .move (.tmp 5), false, none⟩,
  ⟨some 77, .call ⟨.value (.func 99), #[(.tmp 75), (.tmp 76)], #[3, 3]⟩, true, none⟩,
  ⟨some 78, .move (.tmp 4), false, none⟩,
  ⟨some 79, .move (.tmp 6), false, none⟩,
  ⟨some 80, .move (.tmp 7), false, none⟩,
  ⟨some 81, .build 34 #[(0, (.tmp 77)), (1, (.tmp 78)), (2, (.tmp 79)), (3, (.tmp 80))], false, none⟩,
  ⟨none, .store 34 (.tmp 9) (.tmp 81), true, none⟩]) <|
 .seq (.ops [⟨some 83, .binOp .eql 3 (.tmp 21) (.const (.int .i64 47)) 3, false, none⟩,
  ⟨some 82, .assign (.tmp 83), false, none⟩]) <|
 .seq (.keep [0, 2, 4, 6, 9, 21, 82]) <|
 .cond (.tmp 82) (.seq (.ops [⟨some 84, .move (.tmp 0), false, none⟩,
  ⟨some 85, .call ⟨.value (.func 100), #[(.tmp 84)], #[133]⟩, true, none⟩,
  ⟨none, .store 34 (.tmp 9) (.tmp 85), true, none⟩]) <|
 .seq (.keep [2, 4, 6, 9]) <|
 .ops [⟨some 86, .move (.tmp 4), false, none⟩,
  ⟨some 87, .move (.tmp 6), false, none⟩,
  ⟨some 88, .fieldAddr 34 (.tmp 9) 1, false, none⟩,
  ⟨none, .store 3 (.tmp 88) (.tmp 86), true, none⟩,
  ⟨some 89, .fieldAddr 34 (.tmp 9) 2, false, none⟩,
  ⟨none, .store 3 (.tmp 89) (.tmp 87), true, none⟩]) <|
 .seq (.seq (.ops [⟨some 91, .binOp .eql 3 (.tmp 21) (.const (.int .i64 15)) 3, false, none⟩,
  ⟨some 90, .assign (.tmp 91), false, none⟩]) <|
 .seq (.keep [0, 2, 4, 6, 9, 21, 90]) <|
 .cond (.tmp 90) (.skip) <|
 .ops [⟨some 92, .binOp .eql 3 (.tmp 21) (.const (.int .i64 115)) 3, false, none⟩,
  ⟨some 90, .assign (.tmp 92), false, none⟩]) <|
 .seq (.keep [0, 2, 4, 6, 9, 90]) <|
 .cond (.tmp 90) (.ops [⟨some 93, .move (.tmp 0), false, none⟩,
  ⟨some 94, .call ⟨.value (.func 101), #[(.tmp 93)], #[133]⟩, true, none⟩,
  ⟨none, .store 34 (.tmp 9) (.tmp 94), true, none⟩]) <|
 .seq (.ops [⟨some 22, .move (.tmp 0), false, none⟩,
  ⟨some 23, .call ⟨.value (.func 102), #[(.tmp 22)], #[133]⟩, true, none⟩,
  ⟨none, .store 34 (.tmp 9) (.tmp 23), true, none⟩]) <|
 .seq (.keep [2, 4, 6, 9]) <|
 .ops [⟨some 24, .move (.tmp 4), false, none⟩,
  ⟨some 25, .move (.tmp 6), false, none⟩,
  ⟨some 26, .fieldAddr 34 (.tmp 9) 1, false, none⟩,
  ⟨none, .store 3 (.tmp 26) (.tmp 24), true, none⟩,
  ⟨some 27, .fieldAddr 34 (.tmp 9) 2, false, none⟩,
  ⟨none, .store 3 (.tmp 27) (.tmp 25), true, none⟩]) <|
 .seq (.keep [2, 9]) <|
 .seq (.seq (.ops [⟨some 95, .fieldAddr 34 (.tmp 9) 0, false, none⟩,
  ⟨some 96, .load 3 (.tmp 95), false, none⟩,
  ⟨some 97, .binOp .eql 3 (.tmp 96) (.const (.int .i64 0)) 3, false, none⟩]) <|
 .seq (.keep [2, 9, 97]) <|
 .cond (.tmp 97) (.seq (.ops [⟨some 98, .build 34 #[], false, none⟩,
  ⟨none, .store 34 (.tmp 2) (.tmp 98), true, none⟩,
  ⟨some 3, .assign (.const (.bool false)), false, none⟩]) <|
 .seq (.keep [2, 3]) <|
 .ret) <|
 .skip) <|
 .seq (.keep [2, 9]) <|
 .seq (.ops [⟨some 99, .fieldAddr 34 (.tmp 9) 6, false, none⟩,
  ⟨none, .store 3 (.tmp 99) (.const (.int .i64 4)), true, none⟩]) <|
 .seq (.keep [2, 9]) <|
 .seq (.ops [⟨some 100, .load 34 (.tmp 9), false, none⟩,
  ⟨none, .store 34 (.tmp 2) (.tmp 100), true, none⟩,
  ⟨some 3, .assign (.const (.bool true)), false, none⟩]) <|
 .seq (.keep [2, 3]) <|
 .ret
theorem c78 : Try.f78.body.map (fun c => ((compile Try.prog kp78 [] kp78 c).map (·.1), fits Try.f78.ntmps c)) = some (some s78, true) := by kernel_rfl
theorem r78 : Try.f78.results.toList = [.cell 2 34, .tmp 3] := by kernel_rfl
-- (*marionette/page.Store).Stamp
abbrev kp79 : List Nat := [4]
def s79 : SC :=
 .seq (.ops [⟨some 4, .assign (.const (.int .u64 0)), false, none⟩]) <|
 .seq (.keep [0, 1]) <|
 .seq (.seq (.ops [⟨some 5, .move (.tmp 0), false, none⟩,
  ⟨some 6, .binOp .eql 75 (.tmp 5) (.const (.pointer none)) 75, false, none⟩]) <|
 .seq (.keep [0, 1, 6]) <|
 .cond (.tmp 6) (.seq (.ops [⟨some 4, .assign (.const (.int .u64 0)), false, none⟩]) <|
 .seq (.keep [4]) <|
 .ret) <|
 .skip) <|
 .seq (.keep [0, 1]) <|
 .seq (.seq (.ops [⟨some 7, .move (.tmp 0), false, none⟩]) <|
 .seq (.ops [⟨some 8, .nilCheck (.tmp 7), false, none⟩]) <|
 .seq (.ops [⟨some 9, .fieldAddr 121 (.tmp 8) 1, false, none⟩]) <|
 .seq (.ops [⟨some 10, .load 119 (.tmp 9), false, none⟩]) <|
 .seq (.ops [⟨some 11, .move (.tmp 1), false, none⟩]) <|
 .seq (.ops [⟨some 12, .lookup 119 (.tmp 10) (.tmp 11) false, false, none⟩]) <|
 .seq (.ops [⟨some 13, .move (.tmp 0), false, none⟩]) <|
 .seq (.ops [⟨some 14, .nilCheck (.tmp 13), false, none⟩]) <|
 .seq (.ops [⟨some 15, .fieldAddr 121 (.tmp 14) 3, false, none⟩]) <|
 .seq (.ops [⟨some 16, .load 26 (.tmp 15), false, none⟩]) <|
 .seq (.ops [⟨some 17, .call ⟨.builtin .max, #[(.tmp 12), (.tmp 16)], #[26, 26]⟩, false, none⟩]) <|
 .seq (.ops [⟨some 4, .assign (.tmp 17), false, none⟩]) <|
 .skip) <|
 .seq (.keep [4]) <|
 .ret
theorem c79 : Try.f79.body.map (fun c => ((compile Try.prog kp79 [] kp79 c).map (·.1), fits Try.f79.ntmps c)) = some (some s79, true) := by kernel_rfl
theorem r79 : Try.f79.results.toList = [.tmp 4] := by kernel_rfl
-- (*marionette/region.List).First
abbrev kp80 : List Nat := [8, 9]
def s80 : SC :=
 .seq (.ops [⟨some 8, .assign (.const (.int .u64 0)), false, none⟩,
  ⟨some 9, .assign (.const (.bool false)), false, none⟩]) <|
 .seq (.keep [0, 1, 2, 3]) <|
 .seq (.seq (.ops [⟨some 12, .move (.tmp 0), false, none⟩,
  ⟨some 13, .binOp .eql 73 (.tmp 12) (.const (.pointer none)) 73, false, none⟩,
  ⟨some 14, .move (.tmp 13), false, none⟩,
  ⟨some 15, .move (.tmp 1), false, some (14, false)⟩,
  ⟨some 16, .move (.tmp 2), false, some (14, false)⟩,
  ⟨some 17, .binOp .geq 26 (.tmp 15) (.tmp 16) 26, false, some (14, false)⟩,
  ⟨some 18, .pick (.tmp 14) (.const (.bool true)) (.tmp 17), false, none⟩]) <|
 .seq (.keep [0, 1, 2, 3, 18]) <|
 .cond (.tmp 18) (.seq (.ops [⟨some 8, .assign (.const (.int .u64 0)), false, none⟩,
  ⟨some 9, .assign (.const (.bool false)), false, none⟩]) <|
 .seq (.keep [8, 9]) <|
 .ret) <|
 .skip) <|
 .seq (.keep [0, 1, 2, 3]) <|
 .seq (.block 0 <| .loop <| .seq (.seq (.seq (.ops [⟨some 19, .move (.tmp 1), false, none⟩,
  ⟨some 20, .move (.tmp 2), false, none⟩,
  ⟨some 21, .binOp .lss 26 (.tmp 19) (.tmp 20) 26, false, none⟩]) <|
 .seq (.keep [0, 1, 2, 3, 21]) <|
 .cond (.tmp 21) (.skip) <|
 .exit 0) <|
 .seq (.keep [0, 1, 2, 3]) <|
 .block 1 <| .seq (.ops [⟨some 23, .move (.tmp 0), false, none⟩,
  ⟨some 24, .move (.tmp 1), false, none⟩,
  ⟨some 25, .call ⟨.value (.func 28), #[(.tmp 23), (.tmp 24)], #[73, 26]⟩, true, none⟩,
  ⟨some 22, .move (.tmp 25), false, none⟩,
  ⟨some 26, .extract (.tmp 22) 0, false, none⟩,
  ⟨some 27, .extract (.tmp 22) 1, false, none⟩,
  ⟨some 10, .alloc 83, true, none⟩,
  ⟨none, .store 83 (.tmp 10) (.tmp 26), true, none⟩,
  ⟨some 11, .assign (.tmp 27), false, none⟩]) <|
 .seq (.keep [0, 1, 2, 3, 10, 11]) <|
 .seq (.seq (.ops [⟨some 28, .move (.tmp 11), false, none⟩,
  ⟨some 29, .unOp .not 4 (.tmp 28), false, none⟩,
  ⟨some 30, .move (.tmp 29), false, none⟩,
  ⟨some 31, .fieldAddr 83 (.tmp 10) 2, false, some (30, false)⟩,
  ⟨some 32, .load 3 (.tmp 31), false, some (30, false)⟩,
  ⟨some 33, .move (.tmp 3), false, some (30, false)⟩,
  ⟨some 34, .binOp .and 3 (.tmp 32) (.tmp 33) 3, false, some (30, false)⟩,
  ⟨some 35, .move (.tmp 3), false, some (30, false)⟩,
  ⟨some 36, .binOp .neq 3 (.tmp 34) (.tmp 35) 3, false, some (30, false)⟩,
  ⟨some 37, .pick (.tmp 30) (.const (.bool true)) (.tmp 36), false, none⟩]) <|
 .seq (.keep [0, 1, 2, 3, 10, 37]) <|
 .cond (.tmp 37) (.seq (.ops [⟨some 38, .move (.tmp 1), false, none⟩,
  ⟨some 8, .assign (.tmp 38), false, none⟩,
  ⟨some 9, .assign (.const (.bool true)), false, none⟩]) <|
 .seq (.keep [8, 9]) <|
 .ret) <|
 .skip) <|
 .seq (.keep [0, 2, 3, 10]) <|
 .ops [⟨some 39, .fieldAddr 83 (.tmp 10) 1, false, none⟩,
  ⟨some 40, .load 26 (.tmp 39), false, none⟩,
  ⟨some 1, .assign (.tmp 40), false, none⟩]) <|
 .keep [0, 1, 2, 3]) <|
 .seq (.keep []) <|
 .seq (.ops [⟨some 8, .assign (.const (.int .u64 0)), false, none⟩,
  ⟨some 9, .assign (.const (.bool false)), false, none⟩]) <|
 .seq (.keep [8, 9]) <|
 .ret
theorem c80 : Try.f80.body.map (fun c => ((compile Try.prog kp80 [] kp80 c).map (·.1), fits Try.f80.ntmps c)) = some (some s80, true) := by kernel_rfl
theorem r80 : Try.f80.results.toList = [.tmp 8, .tmp 9] := by kernel_rfl
-- marionette/word.Put
abbrev kp81 : List Nat := [6]
def s81 : SC :=
 .seq (.ops [⟨some 6, .assign (.const (.slice none 0 0)), false, none⟩]) <|
 .seq (.keep [0, 1, 2]) <|
 .seq (.ops [⟨some 8, .buildSlice 22 0 #[], true, none⟩,
  ⟨some 9, .move (.tmp 0), false, none⟩,
  ⟨some 10, .call ⟨.builtin .append, #[(.tmp 8), (.tmp 9)], #[22, 22]⟩, true, none⟩,
  ⟨some 7, .assign (.tmp 10), false, none⟩]) <|
 .seq (.keep [1, 2, 7]) <|
 .seq (.seq (.ops [⟨some 11, .move (.tmp 2), false, none⟩,
  ⟨some 12, .binOp .lss 3 (.tmp 11) (.const (.int .i64 1)) 3, false, none⟩,
  ⟨some 13, .move (.tmp 12), false, none⟩,
  ⟨some 14, .move (.tmp 2), false, some (13, false)⟩,
  ⟨some 15, .binOp .gtr 3 (.tmp 14) (.const (.int .i64 8)) 3, false, some (13, false)⟩,
  ⟨some 16, .pick (.tmp 13) (.const (.bool true)) (.tmp 15), false, none⟩]) <|
 .seq (.keep [1, 2, 7, 16]) <|
 .cond (.tmp 16) (.seq (.ops [⟨some 17, .move (.tmp 7), false, none⟩,
  ⟨some 6, .assign (.tmp 17), false, none⟩]) <|
 .seq (.keep [6]) <|
 .ret) <|
 .skip) <|
 .seq (.keep [1, 2, 7]) <|
 .seq (.seq (.ops [⟨some 18, .move (.tmp 2), false, none⟩,
  ⟨some 19, .move (.const (.int .i64 0)), false, none⟩]) <|
 .seq (.keep [1, 7, 18, 19]) <|
 .block 0 <| .loop <| .seq (.seq (.ops [⟨some 20, .binOp .lss 3 (.tmp 19) (.tmp 18) 3, false, none⟩]) <|
 .seq (.keep [1, 7, 18, 19, 20]) <|
 .seq (.cond (.tmp 20) (.skip) <|
 .exit 0) <|
 .seq (.keep [1, 7, 18, 19]) <|
 .seq (.block 1 <| .seq (.ops [⟨some 21, .move (.tmp 7), false, none⟩,
  ⟨some 22, .move (.tmp 1), false, none⟩,
  ⟨some 23, .convert 26 5 (.tmp 22), false, none⟩,
  ⟨some 24, .buildSlice 22 1 #[(0, (.tmp 23))], true, none⟩,
  ⟨some 25, .call ⟨.builtin .append, #[(.tmp 21), (.tmp 24)], #[22, 22]⟩, true, none⟩,
  ⟨some 7, .assign (.tmp 25), false, none⟩]) <|
 .seq (.keep [1, 7, 18, 19]) <|
 .ops [⟨some 26, .move (.tmp 1), false, none⟩,
  ⟨some 27, .binOp .shr 26 (.tmp 26) (.const (.int .u64 8)) 146, false, none⟩,
  ⟨some 1, .assign (.tmp 27), false, none⟩]) <|
 .seq (.keep [1, 7, 18, 19]) <|
 .ops [⟨some 28, .binOp .add 3 (.tmp 19) (.const (.int .i64 1)) 3, false, none⟩,
  ⟨some 19, .move (.tmp 28), false, none⟩]) <|
 .keep [1, 7, 18, 19]) <|
 .seq (.keep [7]) <|
 .seq (.ops [⟨some 29, .move (.tmp 7), false, none⟩,
  ⟨some 6, .assign (.tmp 29), false, none⟩]) <|
 .seq (.keep [6]) <|
 .ret
theorem c81 : Try.f81.body.map (fun c => ((compile Try.prog kp81 [] kp81 c).map (·.1), fits Try.f81.ntmps c)) = some (some s81, true) := by kernel_rfl
theorem r81 : Try.f81.results.toList = [.tmp 6] := by kernel_rfl
-- marionette/region.joined
abbrev kp82 : List Nat := [2]
def s82 : SC :=
 .seq (.ops [⟨some 2, .assign (.const (.slice none 0 0)), false, none⟩]) <|
 .seq (.keep [0]) <|
 .seq (.ops [⟨some 3, .assign (.const (.slice none 0 0)), false, none⟩]) <|
 .seq (.keep [0, 3]) <|
 .seq (.seq (.ops [⟨some 7, .move (.tmp 0), false, none⟩,
  ⟨some 8, .call ⟨.builtin .len, #[(.tmp 7)], #[115]⟩, false, none⟩,
  ⟨some 9, .move (.const (.int .i64 0)), false, none⟩]) <|
 .seq (.keep [3, 7, 8, 9]) <|
 .block 0 <| .loop <| .seq (.seq (.ops [⟨some 10, .binOp .lss 3 (.tmp 9) (.tmp 8) 3, false, none⟩]) <|
 .seq (.keep [3, 7, 8, 9, 10]) <|
 .seq (.cond (.tmp 10) (.skip) <|
 .exit 0) <|
 .seq (.keep [3, 7, 8, 9]) <|
 .seq (.block 1 <| .seq (.ops [⟨some 11, .indexAddr 115 (.tmp 7) (.tmp 9), false, none⟩,
  ⟨some 12, .load 83 (.tmp 11), false, none⟩,
  ⟨some 5, .alloc 83, true, none⟩,
  ⟨none, .store 83 (.tmp 5) (.tmp 12), true, none⟩]) <|
 .seq (.keep [3, 5, 7, 8, 9]) <|
 .seq (.seq (.ops [⟨some 13, .move (.tmp 3), false, none⟩,
  ⟨some 14, .call ⟨.builtin .len, #[(.tmp 13)], #[115]⟩, false, none⟩,
  ⟨some 6, .assign (.tmp 14), false, none⟩]) <|
 .seq (.keep [3, 5, 6, 7, 8, 9]) <|
 .seq (.seq (.ops [⟨some 15, .move (.tmp 6), false, none⟩]) <|
 .seq (.ops [⟨some 16, .binOp .gtr 3 (.tmp 15) (.const (.int .i64 0)) 3, false, none⟩]) <|
 .seq (.ops [⟨some 17, .move (.tmp 16), false, none⟩]) <|
 .seq (.ops [⟨some 18, .move (.tmp 3), false, some (17, true)⟩]) <|
 .seq (.ops [⟨some 19, .move (.tmp 6), false, some (17, true)⟩]) <|
 .seq (.ops [⟨some 20, .binOp .sub 3 (.tmp 19) (.const (.int .i64 1)) 3, false, some (17, true)⟩]) <|
 .seq (.ops [⟨some 21, .indexAddr 115 (.tmp 18) (.tmp 20), false, some (17, true)⟩]) <|
 .seq (.ops [⟨some 22, .fieldAddr 83 (.tmp 21) 1, false, some (17, true)⟩]) <|
 .seq (.ops [⟨some 23, .load 26 (.tmp 22), false, some (17, true)⟩]) <|
 .seq (.ops [⟨some 24, .fieldAddr 83 (.tmp 5) 0, false, some (17, true)⟩]) <|
 .seq (.ops [⟨some 25, .load 26 (.tmp 24), false, some (17, true)⟩]) <|
 .seq (.ops [⟨some 26, .binOp .eql 26 (.tmp 23) (.tmp 25) 26, false, some (17, true)⟩]) <|
 .seq (.ops [⟨some 27, .pick (.tmp 17) (.tmp 26) (.const (.bool false)), false, none⟩]) <|
 .seq (.ops [⟨some 28, .move (.tmp 27), false, none⟩]) <|
 .seq (.ops [⟨some 29, .move (.tmp 3), false, some (28, true)⟩]) <|
 .seq (.ops [⟨some 30, .move (.tmp 6), false, some (28, true)⟩]) <|
 .seq (.ops [⟨some 31, .binOp .sub 3 (.tmp 30) (.const (.int .i64 1)) 3, false, some (28, true)⟩]) <|
 .seq (.ops [⟨some 32, .indexAddr 115 (.tmp 29) (.tmp 31), false, some (28, true)⟩]) <|
 .seq (.ops [⟨some 33, .fieldAddr 83 (.tmp 32) 2, false, some (28, true)⟩]) <|
 .seq (.ops [⟨some 34, .load 3 (.tmp 33), false, some (28, true)⟩]) <|
 .seq (.ops [⟨some 35, .fieldAddr 83 (.tmp 5) 2, false, some (28, true)⟩]) <|
 .seq (.ops [⟨some 36, .load 3 (.tmp 35), false, some (28, true)⟩]) <|
 .seq (.ops [⟨some 37, .binOp .eql 3 (.tmp 34) (.tmp 36) 3, false, some (28, true)⟩]) <|
 .seq (.ops [⟨some 38, .pick (.tmp 28) (.tmp 37) (.const (.bool false)), false, none⟩]) <|
 .skip) <|
 .seq (.keep [3, 5, 6, 7, 8, 9, 38]) <|
 .cond (.tmp 38) (.seq (.ops [⟨some 39, .move (.tmp 3), false, none⟩,
  ⟨some 40, .move (.tmp 6), false, none⟩,
  ⟨some 41, .binOp .sub 3 (.tmp 40) (.const (.int .i64 1)) 3, false, none⟩,
  ⟨some 42, .fieldAddr 83 (.tmp 5) 1, false, none⟩,
  ⟨some 43, .load 26 (.tmp 42), false, none⟩,
  ⟨some 44, .indexAddr 115 (.tmp 39) (.tmp 41), false, none⟩,
  ⟨some 45, .fieldAddr 83 (.tmp 44) 1, false, none⟩,
  ⟨none, .store 26 (.tmp 45) (.tmp 43), true, none⟩]) <|
 .seq (.keep [3, 7, 8, 9]) <|
 .exit 1) <|
 .skip) <|
 .seq (.keep [3, 5, 7, 8, 9]) <|
 .ops [⟨some 46, .move (.tmp 3), false, none⟩,
  ⟨some 47, .load 83 (.tmp 5), false, none⟩,
  ⟨some 48, .buildSlice 115 1 #[(0, (.tmp 47))], true, none⟩,
  ⟨some 49, .call ⟨.builtin .append, #[(.tmp 46), (.tmp 48)], #[115, 115]⟩, true, none⟩,
  ⟨some 3, .assign (.tmp 49), false, none⟩]) <|
 .seq (.keep [3, 7, 8, 9]) <|
 .ops [⟨some 50, .binOp .add 3 (.tmp 9) (.const (.int .i64 1)) 3, false, none⟩,
  ⟨some 9, .move (.tmp 50), false, none⟩]) <|
 .keep [3, 7, 8, 9]) <|
 .seq (.keep [3]) <|
 .seq (.ops [⟨some 51, .move (.tmp 3), false, none⟩,
  ⟨some 2, .assign (.tmp 51), false, none⟩]) <|
 .seq (.keep [2]) <|
 .ret
theorem c82 : Try.f82.body.map (fun c => ((compile Try.prog kp82 [] kp82 c).map (·.1), fits Try.f82.ntmps c)) = some (some s82, true) := by kernel_rfl
theorem r82 : Try.f82.results.toList = [.tmp 2] := by kernel_rfl
-- marionette/region.without
abbrev kp83 : List Nat := [6]
def s83 : SC :=
 .seq (.ops [⟨some 6, .assign (.const (.slice none 0 0)), false, none⟩]) <|
 .seq (.keep [0, 1, 2]) <|
 .seq (.ops [⟨some 7, .assign (.const (.slice none 0 0)), false, none⟩]) <|
 .seq (.keep [0, 1, 2, 7]) <|
 .seq (.seq (.ops [⟨some 10, .move (.tmp 0), false, none⟩,
  ⟨some 11, .call ⟨.builtin .len, #[(.tmp 10)], #[115]⟩, false, none⟩,
  ⟨some 12, .move (.const (.int .i64 0)), false, none⟩]) <|
 .seq (.keep [1, 2, 7, 10, 11, 12]) <|
 .block 0 <| .loop <| .seq (.seq (.ops [⟨some 13, .binOp .lss 3 (.tmp 12) (.tmp 11) 3, false, none⟩]) <|
 .seq (.keep [1, 2, 7, 10, 11, 12, 13]) <|
 .seq (.cond (.tmp 13) (.skip) <|
 .exit 0) <|
 .seq (.keep [1, 2, 7, 10, 11, 12]) <|
 .seq (.block 1 <| .seq (.ops [⟨some 14, .indexAddr 115 (.tmp 10) (.tmp 12), false, none⟩,
  ⟨some 15, .load 83 (.tmp 14), false, none⟩,
  ⟨some 9, .alloc 83, true, none⟩,
  ⟨none, .store 83 (.tmp 9) (.tmp 15), true, none⟩]) <|
 .seq (.keep [1, 2, 7, 9, 10, 11, 12]) <|
 .seq (.seq (.ops [⟨some 16, .fieldAddr 83 (.tmp 9) 1, false, none⟩,
  ⟨some 17, .load 26 (.tmp 16), false, none⟩,
  ⟨some 18, .move (.tmp 1), false, none⟩,
  ⟨some 19, .binOp .leq 26 (.tmp 17) (.tmp 18) 26, false, none⟩,
  ⟨some 20, .move (.tmp 19), false, none⟩,
  ⟨some 21, .fieldAddr 83 (.tmp 9) 0, false, some (20, false)⟩,
  ⟨some 22, .load 26 (.tmp 21), false, some (20, false)⟩,
  ⟨some 23, .move (.tmp 2), false, some (20, false)⟩,
  ⟨some 24, .binOp .geq 26 (.tmp 22) (.tmp 23) 26, false, some (20, false)⟩,
  ⟨some 25, .pick (.tmp 20) (.const (.bool true)) (.tmp 24), false, none⟩]) <|
 .seq (.keep [1, 2, 7, 9, 10, 11, 12, 25]) <|
 .cond (.tmp 25) (.seq (.ops [⟨some 26, .move (.tmp 7), false, none⟩,
  ⟨some 27, .load 83 (.tmp 9), false, none⟩,
  ⟨some 28, .buildSlice 115 1 #[(0, (.tmp 27))], true, none⟩,
  ⟨some 29, .call ⟨.builtin .append, #[(.tmp 26), (.tmp 28)], #[115, 115]⟩, true, none⟩,
  ⟨some 7, .assign (.tmp 29), false, none⟩]) <|
 .seq (.keep [1, 2, 7, 10, 11, 12]) <|
 .exit 1) <|
 .skip) <|
 .seq (.keep [1, 2, 7, 9, 10, 11, 12]) <|
 .seq (.seq (.ops [⟨some 30, .fieldAddr 83 (.tmp 9) 0, false, none⟩,
  ⟨some 31, .load 26 (.tmp 30), false, none⟩,
  ⟨some 32, .move (.tmp 1), false, none⟩,
  ⟨some 33, .binOp .lss 26 (.tmp 31) (.tmp 32) 26, false, none⟩]) <|
 .seq (.keep [1, 2, 7, 9, 10, 11, 12, 33]) <|
 .cond (.tmp 33) (.ops [⟨some 34, .move (.tmp 7), false, none⟩,
  ⟨some 35, .fieldAddr 83 (.tmp 9) 0, false, none⟩,
  ⟨some 36, .load 26 (.tmp 35), false, none⟩,
  ⟨some 37, .move (.tmp 1), false, none⟩,
  ⟨some 38, .fieldAddr 83 (.tmp 9) 2, false, none⟩,
  ⟨some 39, .load 3 (.tmp 38), false, none⟩,
  ⟨some 40, .build 83 #[(0, (.tmp 36)), (1, (.tmp 37)), (2, (.tmp 39))], false, none⟩,
  ⟨some 41, .buildSlice 115 1 #[(0, (.tmp 40))], true, none⟩,
  ⟨some 42, .call ⟨.builtin .append, #[(.tmp 34), (.tmp 41)], #[115, 115]⟩, true, none⟩,
  ⟨some 7, .assign (.tmp 42), false, none⟩]) <|
 .skip) <|
 .seq (.keep [1, 2, 7, 9, 10, 11, 12]) <|
 .seq (.ops [⟨some 43, .fieldAddr 83 (.tmp 9) 1, false, none⟩,
  ⟨some 44, .load 26 (.tmp 43), false, none⟩,
  ⟨some 45, .move (.tmp 2), false, none⟩,
  ⟨some 46, .binOp .gtr 26 (.tmp 44) (.tmp 45) 26, false, none⟩]) <|
 .seq (.keep [1, 2, 7, 9, 10, 11, 12, 46]) <|
 .cond (.tmp 46) (.ops [⟨some 47, .move (.tmp 7), false, none⟩,
  ⟨some 48, .move (.tmp 2), false, none⟩,
  ⟨some 49, .fieldAddr 83 (.tmp 9) 1, false, none⟩,
  ⟨some 50, .load 26 (.tmp 49), false, none⟩,
  ⟨some 51, .fieldAddr 83 (.tmp 9) 2, false, none⟩,
  ⟨some 52, .load 3 (.tmp 51), false, none⟩,
  ⟨some 53, .build 83 #[(0, (.tmp 48)), (1, (.tmp 50)), (2, (.tmp 52))], false, none⟩,
  ⟨some 54, .buildSlice 115 1 #[(0, (.tmp 53))], true, none⟩,
  ⟨some 55, .call ⟨.builtin .append, #[(.tmp 47), (.tmp 54)], #[115, 115]⟩, true, none⟩,
  ⟨some 7, .assign (.tmp 55), false, none⟩]) <|
 .skip) <|
 .seq (.keep [1, 2, 7, 10, 11, 12]) <|
 .ops [⟨some 56, .binOp .add 3 (.tmp 12) (.const (.int .i64 1)) 3, false, none⟩,
  ⟨some 12, .move (.tmp 56), false, none⟩]) <|
 .keep [1, 2, 7, 10, 11, 12]) <|
 .seq (.keep [7]) <|
 .seq (.ops [⟨some 57, .move (.tmp 7), false, none⟩,
  ⟨some 6, .assign (.tmp 57), false, none⟩]) <|
 .seq (.keep [6]) <|
 .ret
theorem c83 : Try.f83.body.map (fun c => ((compile Try.prog kp83 [] kp83 c).map (·.1), fits Try.f83.ntmps c)) = some (some s83, true) := by kernel_rfl
theorem r83 : Try.f83.results.toList = [.tmp 6] := by kernel_rfl
-- marionette/region.with$1
abbrev kp84 : List Nat := [3]
def s84 : SC :=
 .seq (.ops [⟨some 2, .box 83 (.tmp 0), true, none⟩,
  ⟨some 3, .assign (.const (.bool false)), false, none⟩]) <|
 .seq (.keep [1, 2]) <|
 .seq (.ops [⟨some 4, .fieldAddr 83 (.tmp 2) 0, false, none⟩,
  ⟨some 5, .load 26 (.tmp 4), false, none⟩,
  ⟨some 6, .fieldAddr 83 (.tmp 1) 0, false, none⟩,
  ⟨some 7, .load 26 (.tmp 6), false, none⟩,
  ⟨some 8, .binOp .gtr 26 (.tmp 5) (.tmp 7) 26, false, none⟩,
  ⟨some 3, .assign (.tmp 8), false, none⟩]) <|
 .seq (.keep [3]) <|
 .ret
theorem c84 : Try.f84.body.map (fun c => ((compile Try.prog kp84 [] kp84 c).map (·.1), fits Try.f84.ntmps c)) = some (some s84, true) := by kernel_rfl
theorem r84 : Try.f84.results.toList = [.tmp 3] := by kernel_rfl
-- slices.Insert[[]marionette/api.Region,marionette/api.Region]
abbrev kp85 : List Nat := [6]
def s85 : SC :=
 .seq (.ops [⟨some 6, .assign (.const (.slice none 0 0)), false, none⟩]) <|
 .seq (.keep [0, 1, 2]) <|
 .seq (.ops [⟨some 10, .move (.tmp 0), false, none⟩,
  ⟨some 11, .move (.tmp 1), false, none⟩,
  ⟨some 12, .slice 115 (.tmp 10) (some (.tmp 11)) none none, false, none⟩]) <|
 .seq (.keep [0, 1, 2]) <|
 .seq (.ops [⟨some 13, .move (.tmp 2), false, none⟩,
  ⟨some 14, .call ⟨.builtin .len, #[(.tmp 13)], #[115]⟩, false, none⟩,
  ⟨some 7, .assign (.tmp 14), false, none⟩]) <|
 .seq (.keep [0, 1, 2, 7]) <|
 .seq (.seq (.ops [⟨some 15, .move (.tmp 7), false, none⟩,
  ⟨some 16, .binOp .eql 3 (.tmp 15) (.const (.int .i64 0)) 3, false, none⟩]) <|
 .seq (.keep [0, 1, 2, 7, 16]) <|
 .cond (.tmp 16) (.seq (.ops [⟨some 17, .move (.tmp 0), false, none⟩,
  ⟨some 6, .assign (.tmp 17), false, none⟩]) <|
 .seq (.keep [6]) <|
 .ret) <|
 .skip) <|
 .seq (.keep [0, 1, 2, 7]) <|
 .seq (.ops [⟨some 18, .move (.tmp 0), false, none⟩,
  ⟨some 19, .call ⟨.builtin .len, #[(.tmp 18)], #[115]⟩, false, none⟩,
  ⟨some 8, .assign (.tmp 19), false, none⟩]) <|
 .seq (.keep [0, 1, 2, 7, 8]) <|
 .seq (.seq (.ops [⟨some 20, .move (.tmp 1), false, none⟩,
  ⟨some 21, .move (.tmp 8), false, none⟩,
  ⟨some 22, .binOp .eql 3 (.tmp 20) (.tmp 21) 3, false, none⟩]) <|
 .seq (.keep [0, 1, 2, 7, 8, 22]) <|
 .cond (.tmp 22) (.seq (.ops [⟨some 23, .move (.tmp 0), false, none⟩,
  ⟨some 24, .move (.tmp 2), false, none⟩,
  ⟨some 25, .call ⟨.builtin .append, #[(.tmp 23), (.tmp 24)], #[115, 115]⟩, true, none⟩,
  ⟨some 6, .assign (.tmp 25), false, none⟩]) <|
 .seq (.keep [6]) <|
 .ret) <|
 .skip) <|
 .seq (.keep [0, 1, 2, 7, 8]) <|
 .seq (.seq (.ops [⟨some 26, .move (.tmp 8), false, none⟩,
  ⟨some 27, .move (.tmp 7), false, none⟩,
  ⟨some 28, .binOp .add 3 (.tmp 26) (.tmp 27) 3, false, none⟩,
  ⟨some 29, .move (.tmp 0), false, none⟩,
  ⟨some 30, .call ⟨.builtin .cap, #[(.tmp 29)], #[115]⟩, false, none⟩,
  ⟨some 31, .binOp .gtr 3 (.tmp 28) (.tmp 30) 3, false, none⟩]) <|
 .seq (.keep [0, 1, 2, 7, 8, 31]) <|
 .cond (.tmp 31) (.seq (.ops [⟨some 32, .move (.tmp 0), false, none⟩,
  ⟨some 33, .move (.tmp 1), false, none⟩,
  ⟨some 34, .slice 115 (.tmp 32) none (some (.tmp 33)) none, false, none⟩,
  ⟨some 35, .move (.tmp 8), false, none⟩,
  ⟨some 36, .move (.tmp 7), false, none⟩,
  ⟨some 37, .binOp .add 3 (.tmp 35) (.tmp 36) 3, false, none⟩,
  ⟨some 38, .move (.tmp 1), false, none⟩,
  ⟨some 39, .binOp .sub 3 (.tmp 37) (.tmp 38) 3, false, none⟩,
  ⟨some 40, .call ⟨.builtin .append, #[(.tmp 34), (.tmp 39)], #[115, 3]⟩, true, none⟩,
  ⟨some 9, .assign (.tmp 40), false, none⟩]) <|
 .seq (.keep [0, 1, 2, 7, 9]) <|
 .seq (.ops [⟨some 41, .move (.tmp 9), false, none⟩,
  ⟨some 42, .move (.tmp 1), false, none⟩,
  ⟨some 43, .slice 115 (.tmp 41) (some (.tmp 42)) none none, false, none⟩,
  ⟨some 44, .move (.tmp 2), false, none⟩,
  ⟨some 45, .call ⟨.builtin .copy, #[(.tmp 43), (.tmp 44)], #[115, 115]⟩, true, none⟩]) <|
 .seq (.keep [0, 1, 7, 9]) <|
 .seq (.seq (.ops [⟨some 46, .move (.tmp 9), false, none⟩]) <|
 .seq (.ops [⟨some 47, .move (.tmp 1), false, none⟩]) <|
 .seq (.ops [⟨some 48, .move (.tmp 7), false, none⟩]) <|
 .seq (.ops [⟨some 49, .binOp .add 3 (.tmp 47) (.tmp 48) 3, false, none⟩]) <|
 .seq (.ops [⟨some 50, .slice 115 (.tmp 46) (some (.tmp 49)) none none, false, none⟩]) <|
 .seq (.ops [⟨some 51, .move (.tmp 0), false, none⟩]) <|
 .seq (.ops [⟨some 52, .move (.tmp 1), false, none⟩]) <|
 .seq (.ops [⟨some 53, .slice 115 (.tmp 51) (some (.tmp 52)) none none, false, none⟩]) <|
 .seq (.ops [⟨some 54, .call ⟨.builtin .copy, #[(.tmp 50), (.tmp 53)], #[115, 115]⟩, true, none⟩]) <|
 .skip) <|
 .seq (.keep [9]) <|
 .seq (.ops [⟨some 55, .move (.tmp 9), false, none⟩,
  ⟨some 6, .assign (.tmp 55), false, none⟩]) <|
 .seq (.keep [6]) <|
 .ret) <|
 .skip) <|
 .seq (.keep [0, 1, 2, 7, 8]) <|
 .seq (.ops [⟨some 56, .move (.tmp 0), false, none⟩,
  ⟨some 57, .move (.tmp 8), false, none⟩,
  ⟨some 58, .move (.tmp 7), false, none⟩,
  ⟨some 59, .binOp .add 3 (.tmp 57) (.tmp 58) 3, false, none⟩,
  ⟨some 60, .slice 115 (.tmp 56) none (some (.tmp 59)) none, false, none⟩,
  ⟨some 0, .assign (.tmp 60), false, none⟩]) <|
 .seq (.keep [0, 1, 2, 7, 8]) <|
 .seq (.seq (.ops [⟨some 61, .move (.tmp 2), false, none⟩,
  ⟨some 62, .move (.tmp 0), false, none⟩,
  ⟨some 63, .move (.tmp 1), false, none⟩,
  ⟨some 64, .move (.tmp 7), false, none⟩,
  ⟨some 65, .binOp .add 3 (.tmp 63) (.tmp 64) 3, false, none⟩,
  ⟨some 66, .slice 115 (.tmp 62) (some (.tmp 65)) none none, false, none⟩,
  ⟨some 67, .call ⟨.value (.func 103), #[(.tmp 61), (.tmp 66)], #[115, 115]⟩, true, none⟩,
  ⟨some 68, .unOp .not 4 (.tmp 67), false, none⟩]) <|
 .seq (.keep [0, 1, 2, 7, 8, 68]) <|
 .cond (.tmp 68) (.seq (.seq (.ops [⟨some 69, .move (.tmp 0), false, none⟩]) <|
 .seq (.ops [⟨some 70, .move (.tmp 1), false, none⟩]) <|
 .seq (.ops [⟨some 71, .move (.tmp 7), false, none⟩]) <|
 .seq (.ops [⟨some 72, .binOp .add 3 (.tmp 70) (.tmp 71) 3, false, none⟩]) <|
 .seq (.ops [⟨some 73, .slice 115 (.tmp 69) (some (.tmp 72)) none none, false, none⟩]) <|
 .seq (.ops [⟨some 74, .move (.tmp 0), false, none⟩]) <|
 .seq (.ops [⟨some 75, .move (.tmp 1), false, none⟩]) <|
 .seq (.ops [⟨some 76, .slice 115 (.tmp 74) (some (.tmp 75)) none none, false, none⟩]) <|
 .seq (.ops [⟨some 77, .call ⟨.builtin .copy, #[(.tmp 73), (.tmp 76)], #[115, 115]⟩, true, none⟩]) <|
 .skip) <|
 .seq (.keep [0, 1, 2]) <|
 .seq (.ops [⟨some 78, .move (.tmp 0), false, none⟩,
  ⟨some 79, .move (.tmp 1), false, none⟩,
  ⟨some 80, .slice 115 (.tmp 78) (some (.tmp 79)) none none, false, none⟩,
  ⟨some 81, .move (.tmp 2), false, none⟩,
  ⟨some 82, .call ⟨.builtin .copy, #[(.tmp 80), (.tmp 81)], #[115, 115]⟩, true, none⟩]) <|
 .seq (.keep [0]) <|
 .seq (.ops [⟨some 83, .move (.tmp 0), false, none⟩,
  ⟨some 6, .assign (.tmp 83), false, none⟩]) <|
 .seq (.keep [6]) <|
 .ret) <|
 .skip) <|
 .seq (.keep [0, 1, 2, 7, 8]) <|
 .seq (.ops [⟨some 84, .move (.tmp 0), false, none⟩,
  ⟨some 85, .move (.tmp 8), false, none⟩,
  ⟨some 86, .slice 115 (.tmp 84) (some (.tmp 85)) none none, false, none⟩,
  ⟨some 87, .move (.tmp 2), false, none⟩,
  ⟨some 88, .call ⟨.builtin .copy, #[(.tmp 86), (.tmp 87)], #[115, 115]⟩, true, none⟩]) <|
 .seq (.keep [0, 1, 7]) <|
 .seq (.ops [⟨some 89, .move (.tmp 0), false, none⟩,
  ⟨some 90, .move (.tmp 1), false, none⟩,
  ⟨some 91, .slice 115 (.tmp 89) (some (.tmp 90)) none none, false, none⟩,
  ⟨some 92, .move (.tmp 7), false, none⟩,
  ⟨some 93, .call ⟨.value (.func 104), #[(.tmp 91), (.tmp 92)], #[115, 3]⟩, true, none⟩]) <|
 .seq (.keep [0]) <|
 .seq (.ops [⟨some 94, .move (.tmp 0), false, none⟩,
  ⟨some 6, .assign (.tmp 94), false, none⟩]) <|
 .seq (.keep [6]) <|
 .ret
theorem c85 : Try.f85.body.map (fun c => ((compile Try.prog kp85 [] kp85 c).map (·.1), fits Try.f85.ntmps c)) = some (some s85, true) := by kernel_rfl
theorem r85 : Try.f85.results.toList = [.tmp 6] := by kernel_rfl
-- marionette/page.wide
abbrev kp86 : List Nat := [4]
def s86 : SC :=
 .seq (.ops [⟨some 4, .assign (.const (.bool false)), false, none⟩]) <|
 .seq (.keep [0, 1]) <|
 .seq (.ops [⟨some 5, .move (.tmp 1), false, none⟩,
  ⟨some 6, .binOp .add 26 (.tmp 5) (.const (.int .u64 4096)) 26, false, none⟩,
  ⟨some 7, .binOp .sub 26 (.tmp 6) (.const (.int .u64 1)) 26, false, none⟩,
  ⟨some 8, .binOp .quo 26 (.tmp 7) (.const (.int .u64 4096)) 26, false, none⟩,
  ⟨some 9, .move (.tmp 0), false, none⟩,
  ⟨some 10, .binOp .quo 26 (.tmp 9) (.const (.int .u64 4096)) 26, false, none⟩,
  ⟨some 11, .binOp .sub 26 (.tmp 8) (.tmp 10) 26, false, none⟩,
  ⟨some 12, .binOp .gtr 26 (.tmp 11) (.const (.int .u64 4096)) 26, false, none⟩,
  ⟨some 4, .assign (.tmp 12), false, none⟩]) <|
 .seq (.keep [4]) <|
 .ret
theorem c86 : Try.f86.body.map (fun c => ((compile Try.prog kp86 [] kp86 c).map (·.1), fits Try.f86.ntmps c)) = some (some s86, true) := by kernel_rfl
theorem r86 : Try.f86.results.toList = [.tmp 4] := by kernel_rfl
-- (*marionette/mem.Space).first
abbrev kp87 : List Nat := [8, 9]
def s87 : SC :=
 .seq (.ops [⟨some 8, .assign (.const (.int .u64 0)), false, none⟩,
  ⟨some 9, .assign (.const (.bool false)), false, none⟩]) <|
 .seq (.keep [0, 1, 2, 3]) <|
 .seq (.seq (.ops [⟨some 13, .move (.tmp 2), false, none⟩,
  ⟨some 14, .convert 3 26 (.tmp 13), false, none⟩,
  ⟨some 15, .move (.const (.int .u64 0)), false, none⟩]) <|
 .seq (.keep [0, 1, 3, 14, 15]) <|
 .block 0 <| .loop <| .seq (.seq (.ops [⟨some 16, .binOp .lss 26 (.tmp 15) (.tmp 14) 26, false, none⟩]) <|
 .seq (.keep [0, 1, 3, 14, 15, 16]) <|
 .seq (.cond (.tmp 16) (.skip) <|
 .exit 0) <|
 .seq (.keep [0, 1, 3, 14, 15]) <|
 .seq (.block 1 <| .seq (.ops [⟨some 17, .move (.tmp 15), false, none⟩,
  ⟨some 10, .assign (.tmp 17), false, none⟩]) <|
 .seq (.keep [0, 1, 3, 10, 14, 15]) <|
 .seq (.ops [⟨some 19, .move (.tmp 0), false, none⟩,
  ⟨some 20, .nilCheck (.tmp 19), false, none⟩,
  ⟨some 21, .fieldAddr 78 (.tmp 20) 0, false, none⟩,
  ⟨some 22, .load 73 (.tmp 21), false, none⟩,
  ⟨some 23, .move (.tmp 1), false, none⟩,
  ⟨some 24, .move (.tmp 10), false, none⟩,
  ⟨some 25, .binOp .add 26 (.tmp 23) (.tmp 24) 26, false, none⟩,
  ⟨some 26, .call ⟨.value (.func 28), #[(.tmp 22), (.tmp 25)], #[73, 26]⟩, true, none⟩,
  ⟨some 18, .move (.tmp 26), false, none⟩,
  ⟨some 27, .extract (.tmp 18) 0, false, none⟩,
  ⟨some 28, .extract (.tmp 18) 1, false, none⟩,
  ⟨some 11, .alloc 83, true, none⟩,
  ⟨none, .store 83 (.tmp 11) (.tmp 27), true, none⟩,
  ⟨some 12, .assign (.tmp 28), false, none⟩]) <|
 .seq (.keep [0, 1, 3, 10, 11, 12, 14, 15]) <|
 .seq (.ops [⟨some 29, .move (.tmp 12), false, none⟩,
  ⟨some 30, .unOp .not 4 (.tmp 29), false, none⟩,
  ⟨some 31, .move (.tmp 30), false, none⟩,
  ⟨some 32, .fieldAddr 83 (.tmp 11) 2, false, some (31, false)⟩,
  ⟨some 33, .load 3 (.tmp 32), false, some (31, false)⟩,
  ⟨some 34, .move (.tmp 3), false, some (31, false)⟩,
  ⟨some 35, .binOp .and 3 (.tmp 33) (.tmp 34) 3, false, some (31, false)⟩,
  ⟨some 36, .move (.tmp 3), false, some (31, false)⟩,
  ⟨some 37, .binOp .neq 3 (.tmp 35) (.tmp 36) 3, false, some (31, false)⟩,
  ⟨some 38, .pick (.tmp 31) (.const (.bool true)) (.tmp 37), false, none⟩]) <|
 .seq (.keep [0, 1, 3, 10, 14, 15, 38]) <|
 .cond (.tmp 38) (.seq (.ops [⟨some 39, .move (.tmp 1), false, none⟩,
  ⟨some 40, .move (.tmp 10), false, none⟩,
  ⟨some 41, .binOp .add 26 (.tmp 39) (.tmp 40) 26, false, none⟩,
  ⟨some 8, .assign (.tmp 41), false, none⟩,
  ⟨some 9, .assign (.const (.bool true)), false, none⟩]) <|
 .seq (.keep [8, 9]) <|
 .ret) <|
 .skip) <|
 .seq (.keep [0, 1, 3, 14, 15]) <|
 .ops [⟨some 42, .binOp .add 26 (.tmp 15) (.const (.int .u64 1)) 26, false, none⟩,
  ⟨some 15, .move (.tmp 42), false, none⟩]) <|
 .keep [0, 1, 3, 14, 15]) <|
 .seq (.keep []) <|
 .seq (.ops [⟨some 8, .assign (.const (.int .u64 0)), false, none⟩,
  ⟨some 9, .assign (.const (.bool false)), false, none⟩]) <|
 .seq (.keep [8, 9]) <|
 .ret
theorem c87 : Try.f87.body.map (fun c => ((compile Try.prog kp87 [] kp87 c).map (·.1), fits Try.f87.ntmps c)) = some (some s87, true) := by kernel_rfl
theorem r87 : Try.f87.results.toList = [.tmp 8, .tmp 9] := by kernel_rfl
-- (marionette/comp.half).first
abbrev kp88 : List Nat := [2]
def s88 : SC :=
 .seq (.ops [⟨some 2, .alloc 34, true, none⟩]) <|
 .seq (.keep [0, 2]) <|
 .seq (.ops [⟨some 6, .move (.tmp 0), false, none⟩,
  ⟨some 7, .call ⟨.value (.func 105), #[(.tmp 6), (.const (.int .i64 7))], #[162, 3]⟩, true, none⟩,
  ⟨some 8, .move (.tmp 0), false, none⟩,
  ⟨some 9, .call ⟨.value (.func 105), #[(.tmp 8), (.const (.int .i64 2))], #[162, 3]⟩, true, none⟩,
  ⟨some 3, .assign (.tmp 7), false, none⟩,
  ⟨some 4, .assign (.tmp 9), false, none⟩]) <|
 .seq (.keep [0, 2, 3, 4]) <|
 .seq (.seq (.ops [⟨some 10, .move (.tmp 0), false, none⟩,
  ⟨some 11, .call ⟨.value (.func 106), #[(.tmp 10), (.const (.int .i64 13)), (.const (.int .i64 3)), (.const (.int .i64 0))], #[162, 3, 3, 3]⟩, true, none⟩]) <|
 .seq (.keep [0, 2, 3, 4, 11]) <|
 .block 0 <| .seq (.ops [⟨some 13, .binOp .eql 3 (.tmp 11) (.const (.int .i64 0)) 3, false, none⟩,
  ⟨some 12, .assign (.tmp 13), false, none⟩]) <|
 .seq (.keep [0, 2, 3, 4, 11, 12]) <|
 .cond (.tmp 12) (.seq (.ops [⟨some 14, .move (.tmp 0), false, none⟩,
  ⟨some 15, .call ⟨.value (.func 106), #[(.tmp 14), (.const (.int .i64 7)), (.const (.int .i64 4)), (.const (.int .i64 6))], #[162, 3, 3, 3]⟩, true, none⟩,
  ⟨some 16, .move (.tmp 0), false, none⟩,
  ⟨some 17, .call ⟨.value (.func 106), #[(.tmp 16), (.const (.int .i64 11)), (.const (.int .i64 2)), (.const (.int .i64 4))], #[162, 3, 3, 3]⟩, true, none⟩,
  ⟨some 18, .binOp .or 3 (.tmp 15) (.tmp 17) 3, false, none⟩,
  ⟨some 19, .move (.tmp 0), false, none⟩,
  ⟨some 20, .call ⟨.value (.func 106), #[(.tmp 19), (.const (.int .i64 5)), (.const (.int .i64 1)), (.const (.int .i64 3))], #[162, 3, 3, 3]⟩, true, none⟩,
  ⟨some 21, .binOp .or 3 (.tmp 18) (.tmp 20) 3, false, none⟩,
  ⟨some 22, .move (.tmp 0), false, none⟩,
  ⟨some 23, .call ⟨.value (.func 106), #[(.tmp 22), (.const (.int .i64 6)), (.const (.int .i64 1)), (.const (.int .i64 2))], #[162, 3, 3, 3]⟩, true, none⟩,
  ⟨some 24, .binOp .or 3 (.tmp 21) (.tmp 23) 3, false, none⟩,
  ⟨some 5, .assign (.tmp 24), false, none⟩]) <|
 .seq (.keep [2, 4, 5]) <|
 .seq (.ops [⟨some 25, .move (.tmp 5), false, none⟩,
  ⟨some 26, .binOp .gtr 3 (.tmp 25) (.const (.int .i64 0)) 3, false, none⟩]) <|
 .seq (.keep [2, 4, 5, 26]) <|
 .cond (.tmp 26) (.seq (.ops [⟨some 27, .move (.tmp 4), false, none⟩,
  ⟨some 28, .move (.tmp 5), false, none⟩,
  ⟨some 29, .build 34 #[(0, (.const (.int .i64 22))), (1, (.tmp 27)), (2, (.const (.int .i64 2))), (4, (.tmp 28))], false, none⟩,
  ⟨none, .store 34 (.tmp 2) (.tmp 29), true, none⟩]) <|
 .seq (.keep [2]) <|
 .ret) <|
 .skip) <|
 .seq (.ops [⟨some 31, .binOp .eql 3 (.tmp 11) (.const (.int .i64 2)) 3, false, none⟩,
  ⟨some 30, .assign (.tmp 31), false, none⟩]) <|
 .seq (.keep [0, 2, 3, 4, 11, 30]) <|
 .cond (.tmp 30) (.seq (.ops [⟨some 32, .move (.tmp 4), false, none⟩,
  ⟨some 33, .move (.tmp 3), false, none⟩,
  ⟨some 34, .move (.tmp 0), false, none⟩,
  ⟨some 35, .call ⟨.value (.func 107), #[(.tmp 34)], #[162]⟩, true, none⟩,
  ⟨some 36, .build 34 #[(0, (.const (.int .i64 13))), (1, (.tmp 32)), (2, (.tmp 33)), (4, (.tmp 35))], false, none⟩,
  ⟨none, .store 34 (.tmp 2) (.tmp 36), true, none⟩]) <|
 .seq (.keep [2]) <|
 .ret) <|
 .seq (.ops [⟨some 38, .binOp .eql 3 (.tmp 11) (.const (.int .i64 3)) 3, false, none⟩,
  ⟨some 37, .assign (.tmp 38), false, none⟩]) <|
 .seq (.keep [0, 2, 3, 4, 11, 37]) <|
 .cond (.tmp 37) (.seq (.ops [⟨some 39, .move (.tmp 4), false, none⟩,
  ⟨some 40, .move (.tmp 3), false, none⟩,
  ⟨some 41, .move (.tmp 0), false, none⟩,
  ⟨some 42, .call ⟨.value (.func 108), #[(.tmp 41)], #[162]⟩, true, none⟩,
  ⟨some 43, .build 34 #[(0, (.const (.int .i64 14))), (1, (.tmp 39)), (2, (.tmp 40)), (4, (.tmp 42))], false, none⟩,
  ⟨none, .store 34 (.tmp 2) (.tmp 43), true, none⟩]) <|
 .seq (.keep [2]) <|
 .ret) <|
 .seq (.ops [⟨some 45, .binOp .eql 3 (.tmp 11) (.const (.int .i64 6)) 3, false, none⟩,
  ⟨some 44, .assign (.tmp 45), false, none⟩]) <|
 .seq (.keep [0, 2, 3, 4, 11, 44]) <|
 .cond (.tmp 44) (.seq (.ops [⟨some 46, .move (.tmp 3), false, none⟩,
  ⟨some 47, .move (.tmp 4), false, none⟩,
  ⟨some 48, .move (.tmp 0), false, none⟩,
  ⟨some 49, .call ⟨.value (.func 107), #[(.tmp 48)], #[162]⟩, true, none⟩,
  ⟨some 50, .build 34 #[(0, (.const (.int .i64 20))), (2, (.tmp 46)), (3, (.tmp 47)), (4, (.tmp 49))], false, none⟩,
  ⟨none, .store 34 (.tmp 2) (.tmp 50), true, none⟩]) <|
 .seq (.keep [2]) <|
 .ret) <|
 .seq (.ops [⟨some 52, .binOp .eql 3 (.tmp 11) (.const (.int .i64 7)) 3, false, none⟩,
  ⟨some 51, .assign (.tmp 52), false, none⟩]) <|
 .seq (.keep [0, 2, 3, 4, 51]) <|
 .cond (.tmp 51) (.seq (.ops [⟨some 53, .move (.tmp 3), false, none⟩,
  ⟨some 54, .move (.tmp 4), false, none⟩,
  ⟨some 55, .move (.tmp 0), false, none⟩,
  ⟨some 56, .call ⟨.value (.func 108), #[(.tmp 55)], #[162]⟩, true, none⟩,
  ⟨some 57, .build 34 #[(0, (.const (.int .i64 21))), (2, (.tmp 53)), (3, (.tmp 54)), (4, (.tmp 56))], false, none⟩,
  ⟨none, .store 34 (.tmp 2) (.tmp 57), true, none⟩]) <|
 .seq (.keep [2]) <|
 .ret) <|
 .skip) <|
 .seq (.keep [2]) <|
 .seq (.ops [⟨some 58, .build 34 #[], false, none⟩,
  ⟨none, .store 34 (.tmp 2) (.tmp 58), true, none⟩]) <|
 .seq (.keep [2]) <|
 .ret
theorem c88 : Try.f88.body.map (fun c => ((compile Try.prog kp88 [] kp88 c).map (·.1), fits Try.f88.ntmps c)) = some (some s88, true) := by kernel_rfl
theorem r88 : Try.f88.results.toList = [.cell 2 34] := by kernel_rfl
-- (marionette/comp.half).second
abbrev kp89 : List Nat := [2]
def s89 : SC :=
 .seq (.ops [⟨some 2, .alloc 34, true, none⟩]) <|
 .seq (.keep [0, 2]) <|
 .seq (.ops [⟨some 4, .move (.tmp 0), false, none⟩,
  ⟨some 5, .call ⟨.value (.func 109), #[(.tmp 4)], #[162]⟩, true, none⟩,
  ⟨some 3, .assign (.tmp 5), false, none⟩]) <|
 .seq (.keep [0, 2, 3]) <|
 .seq (.seq (.ops [⟨some 6, .move (.tmp 0), false, none⟩,
  ⟨some 7, .call ⟨.value (.func 106), #[(.tmp 6), (.const (.int .i64 13)), (.const (.int .i64 3)), (.const (.int .i64 0))], #[162, 3, 3, 3]⟩, true, none⟩]) <|
 .seq (.keep [0, 2, 3, 7]) <|
 .block 0 <| .seq (.ops [⟨some 9, .binOp .eql 3 (.tmp 7) (.const (.int .i64 0)) 3, false, none⟩,
  ⟨some 8, .assign (.tmp 9), false, none⟩]) <|
 .seq (.keep [0, 2, 3, 7, 8]) <|
 .cond (.tmp 8) (.seq (.ops [⟨some 10, .move (.tmp 3), false, none⟩,
  ⟨some 11, .move (.tmp 3), false, none⟩,
  ⟨some 12, .move (.tmp 0), false, none⟩,
  ⟨some 13, .call ⟨.value (.func 110), #[(.tmp 12)], #[162]⟩, true, none⟩,
  ⟨some 14, .build 34 #[(0, (.const (.int .i64 22))), (1, (.tmp 10)), (2, (.tmp 11)), (4, (.tmp 13))], false, none⟩,
  ⟨none, .store 34 (.tmp 2) (.tmp 14), true, none⟩]) <|
 .seq (.keep [2]) <|
 .ret) <|
 .seq (.ops [⟨some 16, .binOp .eql 3 (.tmp 7) (.const (.int .i64 1)) 3, false, none⟩,
  ⟨some 15, .assign (.tmp 16), false, none⟩]) <|
 .seq (.keep [0, 2, 3, 7, 15]) <|
 .cond (.tmp 15) (.seq (.seq (.ops [⟨some 17, .move (.tmp 3), false, none⟩,
  ⟨some 18, .binOp .gtr 3 (.tmp 17) (.const (.int .i64 0)) 3, false, none⟩]) <|
 .seq (.keep [0, 2, 3, 18]) <|
 .cond (.tmp 18) (.seq (.ops [⟨some 19, .move (.tmp 3), false, none⟩,
  ⟨some 20, .move (.tmp 3), false, none⟩,
  ⟨some 21, .move (.tmp 0), false, none⟩,
  ⟨some 22, .call ⟨.value (.func 110), #[(.tmp 21)], #[162]⟩, true, none⟩,
  ⟨some 23, .build 34 #[(0, (.const (.int .i64 41))), (1, (.tmp 19)), (2, (.tmp 20)), (4, (.tmp 22))], false, none⟩,
  ⟨none, .store 34 (.tmp 2) (.tmp 23), true, none⟩]) <|
 .seq (.keep [2]) <|
 .ret) <|
 .skip) <|
 .seq (.keep [2]) <|
 .seq (.ops [⟨some 24, .build 34 #[], false, none⟩,
  ⟨none, .store 34 (.tmp 2) (.tmp 24), true, none⟩]) <|
 .seq (.keep [2]) <|
 .ret) <|
 .seq (.ops [⟨some 26, .binOp .eql 3 (.tmp 7) (.const (.int .i64 2)) 3, false, none⟩,
  ⟨some 25, .assign (.tmp 26), false, none⟩]) <|
 .seq (.keep [0, 2, 3, 7, 25]) <|
 .cond (.tmp 25) (.seq (.ops [⟨some 27, .move (.tmp 3), false, none⟩,
  ⟨some 28, .move (.tmp 0), false, none⟩,
  ⟨some 29, .call ⟨.value (.func 110), #[(.tmp 28)], #[162]⟩, true, none⟩,
  ⟨some 30, .build 34 #[(0, (.const (.int .i64 22))), (1, (.tmp 27)), (4, (.tmp 29))], false, none⟩,
  ⟨none, .store 34 (.tmp 2) (.tmp 30), true, none⟩]) <|
 .seq (.keep [2]) <|
 .ret) <|
 .seq (.ops [⟨some 32, .binOp .eql 3 (.tmp 7) (.const (.int .i64 3)) 3, false, none⟩,
  ⟨some 31, .assign (.tmp 32), false, none⟩]) <|
 .seq (.keep [0, 2, 7, 31]) <|
 .cond (.tmp 31) (.seq (.ops [⟨some 33, .move (.tmp 0), false, none⟩,
  ⟨some 34, .call ⟨.value (.func 111), #[(.tmp 33)], #[162]⟩, true, none⟩,
  ⟨none, .store 34 (.tmp 2) (.tmp 34), true, none⟩]) <|
 .seq (.keep [2]) <|
 .ret) <|
 .seq (.ops [⟨some 36, .binOp .eql 3 (.tmp 7) (.const (.int .i64 4)) 3, false, none⟩,
  ⟨some 35, .assign (.tmp 36), false, none⟩]) <|
 .seq (.keep [0, 2, 7, 35]) <|
 .cond (.tmp 35) (.seq (.ops [⟨some 37, .move (.tmp 0), false, none⟩,
  ⟨some 38, .call ⟨.value (.func 112), #[(.tmp 37)], #[162]⟩, true, none⟩,
  ⟨none, .store 34 (.tmp 2) (.tmp 38), true, none⟩]) <|
 .seq (.keep [2]) <|
 .ret) <|
 .seq (.ops [⟨some 40, .binOp .eql 3 (.tmp 7) (.const (.int .i64 5)) 3, false, none⟩,
  ⟨some 39, .assign (.tmp 40), false, none⟩]) <|
 .seq (.keep [0, 2, 7, 39]) <|
 .cond (.tmp 39) (.seq (.ops [⟨some 41, .move (.tmp 0), false, none⟩,
  ⟨some 42, .call ⟨.value (.func 113), #[(.tmp 41)], #[162]⟩, true, none⟩,
  ⟨some 43, .build 34 #[(0, (.const (.int .i64 3))), (4, (.tmp 42))], false, none⟩,
  ⟨none, .store 34 (.tmp 2) (.tmp 43), true, none⟩]) <|
 .seq (.keep [2]) <|
 .ret) <|
 .seq (.ops [⟨some 45, .binOp .eql 3 (.tmp 7) (.const (.int .i64 6)) 3, false, none⟩,
  ⟨some 44, .assign (.tmp 45), false, none⟩]) <|
 .seq (.keep [0, 2, 44]) <|
 .cond (.tmp 44) (.seq (.ops [⟨some 46, .move (.tmp 0), false, none⟩,
  ⟨some 47, .call ⟨.value (.func 105), #[(.tmp 46), (.const (.int .i64 7))], #[162, 3]⟩, true, none⟩,
  ⟨some 48, .move (.tmp 0), false, none⟩,
  ⟨some 49, .call ⟨.value (.func 114), #[(.tmp 48)], #[162]⟩, true, none⟩,
  ⟨some 50, .build 34 #[(0, (.const (.int .i64 5))), (2, (.tmp 47)), (4, (.tmp 49))], false, none⟩,
  ⟨none, .store 34 (.tmp 2) (.tmp 50), true, none⟩]) <|
 .seq (.keep [2]) <|
 .ret) <|
 .skip) <|
 .seq (.keep [0, 2]) <|
 .seq (.ops [⟨some 51, .move (.tmp 0), false, none⟩,
  ⟨some 52, .call ⟨.value (.func 105), #[(.tmp 51), (.const (.int .i64 7))], #[162, 3]⟩, true, none⟩,
  ⟨some 53, .move (.tmp 0), false, none⟩,
  ⟨some 54, .call ⟨.value (.func 114), #[(.tmp 53)], #[162]⟩, true, none⟩,
  ⟨some 55, .build 34 #[(0, (.const (.int .i64 6))), (2, (.tmp 52)), (4, (.tmp 54))], false, none⟩,
  ⟨none, .store 34 (.tmp 2) (.tmp 55), true, none⟩]) <|
 .seq (.keep [2]) <|
 .ret
theorem c89 : Try.f89.body.map (fun c => ((compile Try.prog kp89 [] kp89 c).map (·.1), fits Try.f89.ntmps c)) = some (some s89, true) := by kernel_rfl
theorem r89 : Try.f89.results.toList = [.cell 2 34] := by kernel_rfl
-- (marionette/comp.half).third
abbrev kp90 : List Nat := [2]
def s90 : SC :=
 .seq (.ops [⟨some 2, .alloc 34, true, none⟩]) <|
 .seq (.keep [0, 2]) <|
 .seq (.ops [⟨some 4, .move (.tmp 0), false, none⟩,
  ⟨some 5, .call ⟨.value (.func 109), #[(.tmp 4)], #[162]⟩, true, none⟩,
  ⟨some 3, .assign (.tmp 5), false, none⟩]) <|
 .seq (.keep [0, 2, 3]) <|
 .seq (.seq (.ops [⟨some 6, .move (.tmp 0), false, none⟩,
  ⟨some 7, .call ⟨.value (.func 106), #[(.tmp 6), (.const (.int .i64 13)), (.const (.int .i64 3)), (.const (.int .i64 0))], #[162, 3, 3, 3]⟩, true, none⟩]) <|
 .seq (.keep [0, 2, 3, 7]) <|
 .block 0 <| .seq (.ops [⟨some 9, .binOp .eql 3 (.tmp 7) (.const (.int .i64 0)) 3, false, none⟩,
  ⟨some 8, .assign (.tmp 9), false, none⟩]) <|
 .seq (.keep [0, 2, 3, 7, 8]) <|
 .cond (.tmp 8) (.seq (.ops [⟨some 10, .move (.tmp 3), false, none⟩,
  ⟨some 11, .move (.tmp 3), false, none⟩,
  ⟨some 12, .move (.tmp 0), false, none⟩,
  ⟨some 13, .call ⟨.value (.func 115), #[(.tmp 12)], #[162]⟩, true, none⟩,
  ⟨some 14, .build 34 #[(0, (.const (.int .i64 28))), (1, (.tmp 10)), (2, (.tmp 11)), (4, (.tmp 13))], false, none⟩,
  ⟨none, .store 34 (.tmp 2) (.tmp 14), true, none⟩]) <|
 .seq (.keep [2]) <|
 .ret) <|
 .seq (.ops [⟨some 16, .binOp .eql 3 (.tmp 7) (.const (.int .i64 2)) 3, false, none⟩,
  ⟨some 15, .assign (.tmp 16), false, none⟩]) <|
 .seq (.keep [0, 2, 3, 7, 15]) <|
 .cond (.tmp 15) (.seq (.ops [⟨some 17, .move (.tmp 3), false, none⟩,
  ⟨some 18, .binOp .gtr 3 (.tmp 17) (.const (.int .i64 0)) 3, false, none⟩]) <|
 .seq (.keep [0, 2, 3, 18]) <|
 .cond (.tmp 18) (.seq (.ops [⟨some 19, .move (.tmp 3), false, none⟩,
  ⟨some 20, .move (.tmp 0), false, none⟩,
  ⟨some 21, .call ⟨.value (.func 106), #[(.tmp 20), (.const (.int .i64 2)), (.const (.int .i64 2)), (.const (.int .i64 6))], #[162, 3, 3, 3]⟩, true, none⟩,
  ⟨some 22, .move (.tmp 0), false, none⟩,
  ⟨some 23, .call ⟨.value (.func 106), #[(.tmp 22), (.const (.int .i64 12)), (.const (.int .i64 1)), (.const (.int .i64 5))], #[162, 3, 3, 3]⟩, true, none⟩,
  ⟨some 24, .binOp .or 3 (.tmp 21) (.tmp 23) 3, false, none⟩,
  ⟨some 25, .move (.tmp 0), false, none⟩,
  ⟨some 26, .call ⟨.value (.func 106), #[(.tmp 25), (.const (.int .i64 4)), (.const (.int .i64 3)), (.const (.int .i64 2))], #[162, 3, 3, 3]⟩, true, none⟩,
  ⟨some 27, .binOp .or 3 (.tmp 24) (.tmp 26) 3, false, none⟩,
  ⟨some 28, .build 34 #[(0, (.const (.int .i64 13))), (1, (.tmp 19)), (2, (.const (.int .i64 2))), (4, (.tmp 27))], false, none⟩,
  ⟨none, .store 34 (.tmp 2) (.tmp 28), true, none⟩]) <|
 .seq (.keep [2]) <|
 .ret) <|
 .skip) <|
 .seq (.ops [⟨some 30, .binOp .eql 3 (.tmp 7) (.const (.int .i64 3)) 3, false, none⟩,
  ⟨some 29, .assign (.tmp 30), false, none⟩]) <|
 .seq (.keep [0, 2, 3, 7, 29]) <|
 .cond (.tmp 29) (.seq (.ops [⟨some 31, .move (.tmp 3), false, none⟩,
  ⟨some 32, .binOp .gtr 3 (.tmp 31) (.const (.int .i64 0)) 3, false, none⟩]) <|
 .seq (.keep [0, 2, 3, 32]) <|
 .cond (.tmp 32) (.seq (.ops [⟨some 33, .move (.tmp 3), false, none⟩,
  ⟨some 34, .move (.tmp 0), false, none⟩,
  ⟨some 35, .call ⟨.value (.func 106), #[(.tmp 34), (.const (.int .i64 2)), (.const (.int .i64 3)), (.const (.int .i64 6))], #[162, 3, 3, 3]⟩, true, none⟩,
  ⟨some 36, .move (.tmp 0), false, none⟩,
  ⟨some 37, .call ⟨.value (.func 106), #[(.tmp 36), (.const (.int .i64 12)), (.const (.int .i64 1)), (.const (.int .i64 5))], #[162, 3, 3, 3]⟩, true, none⟩,
  ⟨some 38, .binOp .or 3 (.tmp 35) (.tmp 37) 3, false, none⟩,
  ⟨some 39, .move (.tmp 0), false, none⟩,
  ⟨some 40, .call ⟨.value (.func 106), #[(.tmp 39), (.const (.int .i64 5)), (.const (.int .i64 2)), (.const (.int .i64 3))], #[162, 3, 3, 3]⟩, true, none⟩,
  ⟨some 41, .binOp .or 3 (.tmp 38) (.tmp 40) 3, false, none⟩,
  ⟨some 42, .build 34 #[(0, (.const (.int .i64 14))), (1, (.tmp 33)), (2, (.const (.int .i64 2))), (4, (.tmp 41))], false, none⟩,
  ⟨none, .store 34 (.tmp 2) (.tmp 42), true, none⟩]) <|
 .seq (.keep [2]) <|
 .ret) <|
 .skip) <|
 .seq (.ops [⟨some 44, .binOp .eql 3 (.tmp 7) (.const (.int .i64 4)) 3, false, none⟩,
  ⟨some 43, .assign (.tmp 44), false, none⟩]) <|
 .seq (.keep [0, 2, 7, 43]) <|
 .cond (.tmp 43) (.seq (.ops [⟨some 45, .move (.tmp 0), false, none⟩,
  ⟨some 46, .call ⟨.value (.func 116), #[(.tmp 45)], #[162]⟩, true, none⟩,
  ⟨none, .store 34 (.tmp 2) (.tmp 46), true, none⟩]) <|
 .seq (.keep [2]) <|
 .ret) <|
 .seq (.ops [⟨some 48, .binOp .eql 3 (.tmp 7) (.const (.int .i64 6)) 3, false, none⟩,
  ⟨some 47, .assign (.tmp 48), false, none⟩]) <|
 .seq (.keep [0, 2, 7, 47]) <|
 .cond (.tmp 47) (.seq (.ops [⟨some 49, .move (.tmp 0), false, none⟩,
  ⟨some 50, .call ⟨.value (.func 117), #[(.tmp 49)], #[162]⟩, true, none⟩,
  ⟨some 51, .move (.tmp 0), false, none⟩,
  ⟨some 52, .call ⟨.value (.func 106), #[(.tmp 51), (.const (.int .i64 7)), (.const (.int .i64 2)), (.const (.int .i64 6))], #[162, 3, 3, 3]⟩, true, none⟩,
  ⟨some 53, .move (.tmp 0), false, none⟩,
  ⟨some 54, .call ⟨.value (.func 106), #[(.tmp 53), (.const (.int .i64 9)), (.const (.int .i64 4)), (.const (.int .i64 2))], #[162, 3, 3, 3]⟩, true, none⟩,
  ⟨some 55, .binOp .or 3 (.tmp 52) (.tmp 54) 3, false, none⟩,
  ⟨some 56, .build 34 #[(0, (.const (.int .i64 20))), (2, (.const (.int .i64 2))), (3, (.tmp 50)), (4, (.tmp 55))], false, none⟩,
  ⟨none, .store 34 (.tmp 2) (.tmp 56), true, none⟩]) <|
 .seq (.keep [2]) <|
 .ret) <|
 .seq (.ops [⟨some 58, .binOp .eql 3 (.tmp 7) (.const (.int .i64 7)) 3, false, none⟩,
  ⟨some 57, .assign (.tmp 58), false, none⟩]) <|
 .seq (.keep [0, 2, 57]) <|
 .cond (.tmp 57) (.seq (.ops [⟨some 59, .move (.tmp 0), false, none⟩,
  ⟨some 60, .call ⟨.value (.func 117), #[(.tmp 59)], #[162]⟩, true, none⟩,
  ⟨some 61, .move (.tmp 0), false, none⟩,
  ⟨some 62, .call ⟨.value (.func 106), #[(.tmp 61), (.const (.int .i64 7)), (.const (.int .i64 3)), (.const (.int .i64 6))], #[162, 3, 3, 3]⟩, true, none⟩,
  ⟨some 63, .move (.tmp 0), false, none⟩,
  ⟨some 64, .call ⟨.value (.func 106), #[(.tmp 63), (.const (.int .i64 10)), (.const (.int .i64 3)), (.const (.int .i64 3))], #[162, 3, 3, 3]⟩, true, none⟩,
  ⟨some 65, .binOp .or 3 (.tmp 62) (.tmp 64) 3, false, none⟩,
  ⟨some 66, .build 34 #[(0, (.const (.int .i64 21))), (2, (.const (.int .i64 2))), (3, (.tmp 60)), (4, (.tmp 65))], false, none⟩,
  ⟨none, .store 34 (.tmp 2) (.tmp 66), true, none⟩]) <|
 .seq (.keep [2]) <|
 .ret) <|
 .skip) <|
 .seq (.keep [2]) <|
 .seq (.ops [⟨some 67, .build 34 #[], false, none⟩,
  ⟨none, .store 34 (.tmp 2) (.tmp 67), true, none⟩]) <|
 .seq (.keep [2]) <|
 .ret
theorem c90 : Try.f90.body.map (fun c => ((compile Try.prog kp90 [] kp90 c).map (·.1), fits Try.f90.ntmps c)) = some (some s90, true) := by kernel_rfl
theorem r90 : Try.f90.results.toList = [.cell 2 34] := by kernel_rfl
-- marionette/inst.field
abbrev kp91 : List Nat := [6]
def s91 : SC :=
 .seq (.ops [⟨some 6, .assign (.const (.int .i64 0)), false, none⟩]) <|
 .seq (.keep [0, 1, 2]) <|
 .seq (.seq (.ops [⟨some 7, .move (.tmp 0), false, none⟩]) <|
 .seq (.ops [⟨some 8, .move (.tmp 1), false, none⟩]) <|
 .seq (.ops [⟨some 9, .binOp .shr 133 (.tmp 7) (.tmp 8) 3, false, none⟩]) <|
 .seq (.ops [⟨some 10, .convert 133 3 (.tmp 9), false, none⟩]) <|
 .seq (.ops [⟨some 11, .move (.tmp 2), false, none⟩]) <|
 .seq (.ops [⟨some 12, .binOp .shl 3 (.const (.int .i64 1)) (.tmp 11) 3, false, none⟩]) <|
 .seq (.ops [⟨some 13, .binOp .sub 3 (.tmp 12) (.const (.int .i64 1)) 3, false, none⟩]) <|
 .seq (.ops [⟨some 14, .binOp .and 3 (.tmp 10) (.tmp 13) 3, false, none⟩]) <|
 .seq (.ops [⟨some 6, .assign (.tmp 14), false, none⟩]) <|
 .skip) <|
 .seq (.keep [6]) <|
 .ret
theorem c91 : Try.f91.body.map (fun c => ((compile Try.prog kp91 [] kp91 c).map (·.1), fits Try.f91.ntmps c)) = some (some s91, true) := by kernel_rfl
theorem r91 : Try.f91.results.toList = [.tmp 6] := by kernel_rfl
-- marionette/inst.uImm
abbrev kp92 : List Nat := [2]
def s92 : SC :=
 .seq (.ops [⟨some 2, .assign (.const (.int .i64 0)), false, none⟩]) <|
 .seq (.keep [0]) <|
 .seq (.ops [⟨some 3, .move (.tmp 0), false, none⟩,
  ⟨some 4, .call ⟨.value (.func 91), #[(.tmp 3), (.const (.int .i64 12)), (.const (.int .i64 20))], #[133, 3, 3]⟩, true, none⟩,
  ⟨some 5, .binOp .shl 3 (.tmp 4) (.const (.int .u64 12)) 146, false, none⟩,
  ⟨some 6, .call ⟨.value (.func 118), #[(.tmp 5), (.const (.int .i64 32))], #[3, 3]⟩, true, none⟩,
  ⟨some 2, .assign (.tmp 6), false, none⟩]) <|
 .seq (.keep [2]) <|
 .ret
theorem c92 : Try.f92.body.map (fun c => ((compile Try.prog kp92 [] kp92 c).map (·.1), fits Try.f92.ntmps c)) = some (some s92, true) := by kernel_rfl
theorem r92 : Try.f92.results.toList = [.tmp 2] := by kernel_rfl
-- marionette/inst.jImm
abbrev kp93 : List Nat := [2]
def s93 : SC :=
 .seq (.ops [⟨some 2, .assign (.const (.int .i64 0)), false, none⟩]) <|
 .seq (.keep [0]) <|
 .seq (.ops [⟨some 3, .move (.tmp 0), false, none⟩,
  ⟨some 4, .call ⟨.value (.func 91), #[(.tmp 3), (.const (.int .i64 31)), (.const (.int .i64 1))], #[133, 3, 3]⟩, true, none⟩,
  ⟨some 5, .binOp .shl 3 (.tmp 4) (.const (.int .u64 20)) 146, false, none⟩,
  ⟨some 6, .move (.tmp 0), false, none⟩,
  ⟨some 7, .call ⟨.value (.func 91), #[(.tmp 6), (.const (.int .i64 12)), (.const (.int .i64 8))], #[133, 3, 3]⟩, true, none⟩,
  ⟨some 8, .binOp .shl 3 (.tmp 7) (.const (.int .u64 12)) 146, false, none⟩,
  ⟨some 9, .binOp .or 3 (.tmp 5) (.tmp 8) 3, false, none⟩,
  ⟨some 10, .move (.tmp 0), false, none⟩,
  ⟨some 11, .call ⟨.value (.func 91), #[(.tmp 10), (.const (.int .i64 20)), (.const (.int .i64 1))], #[133, 3, 3]⟩, true, none⟩,
  ⟨some 12, .binOp .shl 3 (.tmp 11) (.const (.int .u64 11)) 146, false, none⟩,
  ⟨some 13, .binOp .or 3 (.tmp 9) (.tmp 12) 3, false, none⟩,
  ⟨some 14, .move (.tmp 0), false, none⟩,
  ⟨some 15, .call ⟨.value (.func 91), #[(.tmp 14), (.const (.int .i64 21)), (.const (.int .i64 10))], #[133, 3, 3]⟩, true, none⟩,
  ⟨some 16, .binOp .shl 3 (.tmp 15) (.const (.int .u64 1)) 146, false, none⟩,
  ⟨some 17, .binOp .or 3 (.tmp 13) (.tmp 16) 3, false, none⟩,
  ⟨some 18, .call ⟨.value (.func 118), #[(.tmp 17), (.const (.int .i64 21))], #[3, 3]⟩, true, none⟩,
  ⟨some 2, .assign (.tmp 18), false, none⟩]) <|
 .seq (.keep [2]) <|
 .ret
theorem c93 : Try.f93.body.map (fun c => ((compile Try.prog kp93 [] kp93 c).map (·.1), fits Try.f93.ntmps c)) = some (some s93, true) := by kernel_rfl
theorem r93 : Try.f93.results.toList = [.tmp 2] := by kernel_rfl
-- marionette/inst.branches
abbrev kp94 : List Nat := [2]
def s94 : SC :=
 .seq (.ops [⟨some 2, .assign (.const (.int .i64 0)), false, none⟩]) <|
 .seq (.keep [0]) <|
 .seq (.ops [⟨some 3, .build 172 #[(0, (.const (.int .i64 5))), (1, (.const (.int .i64 6))), (2, (.const (.int .i64 0))), (3, (.const (.int .i64 0))), (4, (.const (.int .i64 7))), (5, (.const (.int .i64 8))), (6, (.const (.int .i64 9))), (7, (.const (.int .i64 10)))], false, none⟩,
  ⟨some 4, .move (.tmp 0), false, none⟩,
  ⟨some 5, .index 172 (.tmp 3) (.tmp 4), false, none⟩,
  ⟨some 2, .assign (.tmp 5), false, none⟩]) <|
 .seq (.keep [2]) <|
 .ret
theorem c94 : Try.f94.body.map (fun c => ((compile Try.prog kp94 [] kp94 c).map (·.1), fits Try.f94.ntmps c)) = some (some s94, true) := by kernel_rfl
theorem r94 : Try.f94.results.toList = [.tmp 2] := by kernel_rfl
-- marionette/inst.bImm
abbrev kp95 : List Nat := [2]
def s95 : SC :=
 .seq (.ops [⟨some 2, .assign (.const (.int .i64 0)), false, none⟩]) <|
 .seq (.keep [0]) <|
 .seq (.ops [⟨some 3, .move (.tmp 0), false, none⟩,
  ⟨some 4, .call ⟨.value (.func 91), #[(.tmp 3), (.const (.int .i64 31)), (.const (.int .i64 1))], #[133, 3, 3]⟩, true, none⟩,
  ⟨some 5, .binOp .shl 3 (.tmp 4) (.const (.int .u64 12)) 146, false, none⟩,
  ⟨some 6, .move (.tmp 0), false, none⟩,
  ⟨some 7, .call ⟨.value (.func 91), #[(.tmp 6), (.const (.int .i64 7)), (.const (.int .i64 1))], #[133, 3, 3]⟩, true, none⟩,
  ⟨some 8, .binOp .shl 3 (.tmp 7) (.const (.int .u64 11)) 146, false, none⟩,
  ⟨some 9, .binOp .or 3 (.tmp 5) (.tmp 8) 3, false, none⟩,
  ⟨some 10, .move (.tmp 0), false, none⟩,
  ⟨some 11, .call ⟨.value (.func 91), #[(.tmp 10), (.const (.int .i64 25)), (.const (.int .i64 6))], #[133, 3, 3]⟩, true, none⟩,
  ⟨some 12, .binOp .shl 3 (.tmp 11) (.const (.int .u64 5)) 146, false, none⟩,
  ⟨some 13, .binOp .or 3 (.tmp 9) (.tmp 12) 3, false, none⟩,
  ⟨some 14, .move (.tmp 0), false, none⟩,
  ⟨some 15, .call ⟨.value (.func 91), #[(.tmp 14), (.const (.int .i64 8)), (.const (.int .i64 4))], #[133, 3, 3]⟩, true, none⟩,
  ⟨some 16, .binOp .shl 3 (.tmp 15) (.const (.int .u64 1)) 146, false, none⟩,
  ⟨some 17, .binOp .or 3 (.tmp 13) (.tmp 16) 3, false, none⟩,
  ⟨some 18, .call ⟨.value (.func 118), #[(.tmp 17), (.const (.int .i64 13))], #[3, 3]⟩, true, none⟩,
  ⟨some 2, .assign (.tmp 18), false, none⟩]) <|
 .seq (.keep [2]) <|
 .ret
theorem c95 : Try.f95.body.map (fun c => ((compile Try.prog kp95 [] kp95 c).map (·.1), fits Try.f95.ntmps c)) = some (some s95, true) := by kernel_rfl
theorem r95 : Try.f95.results.toList = [.tmp 2] := by kernel_rfl
-- marionette/inst.stores
abbrev kp96 : List Nat := [2]
def s96 : SC :=
 .seq (.ops [⟨some 2, .assign (.const (.int .i64 0)), false, none⟩]) <|
 .seq (.keep [0]) <|
 .seq (.ops [⟨some 3, .build 172 #[(0, (.const (.int .i64 18))), (1, (.const (.int .i64 19))), (2, (.const (.int .i64 20))), (3, (.const (.int .i64 21))), (4, (.const (.int .i64 0))), (5, (.const (.int .i64 0))), (6, (.const (.int .i64 0))), (7, (.const (.int .i64 0)))], false, none⟩,
  ⟨some 4, .move (.tmp 0), false, none⟩,
  ⟨some 5, .index 172 (.tmp 3) (.tmp 4), false, none⟩,
  ⟨some 2, .assign (.tmp 5), false, none⟩]) <|
 .seq (.keep [2]) <|
 .ret
theorem c96 : Try.f96.body.map (fun c => ((compile Try.prog kp96 [] kp96 c).map (·.1), fits Try.f96.ntmps c)) = some (some s96, true) := by kernel_rfl
theorem r96 : Try.f96.results.toList = [.tmp 2] := by kernel_rfl
-- marionette/inst.sImm
abbrev kp97 : List Nat := [2]
def s97 : SC :=
 .seq (.ops [⟨some 2, .assign (.const (.int .i64 0)), false, none⟩]) <|
 .seq (.keep [0]) <|
 .seq (.ops [⟨some 3, .move (.tmp 0), false, none⟩,
  ⟨some 4, .call ⟨.value (.func 91), #[(.tmp 3), (.const (.int .i64 25)), (.const (.int .i64 7))], #[133, 3, 3]⟩, true, none⟩,
  ⟨some 5, .binOp .shl 3 (.tmp 4) (.const (.int .u64 5)) 146, false, none⟩,
  ⟨some 6, .move (.tmp 0), false, none⟩,
  ⟨some 7, .call ⟨.value (.func 91), #[(.tmp 6), (.const (.int .i64 7)), (.const (.int .i64 5))], #[133, 3, 3]⟩, true, none⟩,
  ⟨some 8, .binOp .or 3 (.tmp 5) (.tmp 7) 3, false, none⟩,
  ⟨some 9, .call ⟨.value (.func 118), #[(.tmp 8), (.const (.int .i64 12))], #[3, 3]⟩, true, none⟩,
  ⟨some 2, .assign (.tmp 9), false, none⟩]) <|
 .seq (.keep [2]) <|
 .ret
theorem c97 : Try.f97.body.map (fun c => ((compile Try.prog kp97 [] kp97 c).map (·.1), fits Try.f97.ntmps c)) = some (some s97, true) := by kernel_rfl
theorem r97 : Try.f97.results.toList = [.tmp 2] := by kernel_rfl
-- marionette/inst.regOp
abbrev kp98 : List Nat := [4]
def s98 : SC :=
 .seq (.ops [⟨some 4, .assign (.const (.int .i64 0)), false, none⟩]) <|
 .seq (.keep [0, 1]) <|
 .seq (.block 0 <| .seq (.ops [⟨some 6, .move (.tmp 0), false, none⟩,
  ⟨some 7, .binOp .eql 3 (.tmp 6) (.const (.int .i64 0)) 3, false, none⟩,
  ⟨some 5, .assign (.tmp 7), false, none⟩]) <|
 .seq (.keep [0, 1, 5]) <|
 .cond (.tmp 5) (.seq (.ops [⟨some 8, .move (.tmp 1), false, none⟩,
  ⟨some 9, .call ⟨.value (.func 119), #[(.tmp 8)], #[3]⟩, true, none⟩,
  ⟨some 4, .assign (.tmp 9), false, none⟩]) <|
 .seq (.keep [4]) <|
 .ret) <|
 .seq (.ops [⟨some 11, .move (.tmp 0), false, none⟩,
  ⟨some 12, .binOp .eql 3 (.tmp 11) (.const (.int .i64 1)) 3, false, none⟩,
  ⟨some 10, .assign (.tmp 12), false, none⟩]) <|
 .seq (.keep [0, 1, 10]) <|
 .cond (.tmp 10) (.seq (.ops [⟨some 13, .move (.tmp 1), false, none⟩,
  ⟨some 14, .call ⟨.value (.func 120), #[(.tmp 13)], #[3]⟩, true, none⟩,
  ⟨some 4, .assign (.tmp 14), false, none⟩]) <|
 .seq (.keep [4]) <|
 .ret) <|
 .seq (.ops [⟨some 16, .move (.tmp 0), false, none⟩,
  ⟨some 17, .binOp .eql 3 (.tmp 16) (.const (.int .i64 32)) 3, false, none⟩,
  ⟨some 18, .move (.tmp 17), false, none⟩,
  ⟨some 19, .move (.tmp 1), false, some (18, true)⟩,
  ⟨some 20, .binOp .eql 3 (.tmp 19) (.const (.int .i64 0)) 3, false, some (18, true)⟩,
  ⟨some 21, .pick (.tmp 18) (.tmp 20) (.const (.bool false)), false, none⟩,
  ⟨some 15, .assign (.tmp 21), false, none⟩]) <|
 .seq (.keep [0, 1, 15]) <|
 .cond (.tmp 15) (.seq (.ops [⟨some 4, .assign (.const (.int .i64 32)), false, none⟩]) <|
 .seq (.keep [4]) <|
 .ret) <|
 .seq (.ops [⟨some 23, .move (.tmp 0), false, none⟩,
  ⟨some 24, .binOp .eql 3 (.tmp 23) (.const (.int .i64 32)) 3, false, none⟩,
  ⟨some 25, .move (.tmp 24), false, none⟩,
  ⟨some 26, .move (.tmp 1), false, some (25, true)⟩,
  ⟨some 27, .binOp .eql 3 (.tmp 26) (.const (.int .i64 5)) 3, false, some (25, true)⟩,
  ⟨some 28, .pick (.tmp 25) (.tmp 27) (.const (.bool false)), false, none⟩,
  ⟨some 22, .assign (.tmp 28), false, none⟩]) <|
 .seq (.keep [22]) <|
 .cond (.tmp 22) (.seq (.ops [⟨some 4, .assign (.const (.int .i64 38)), false, none⟩]) <|
 .seq (.keep [4]) <|
 .ret) <|
 .skip) <|
 .seq (.keep []) <|
 .seq (.ops [⟨some 4, .assign (.const (.int .i64 0)), false, none⟩]) <|
 .seq (.keep [4]) <|
 .ret
theorem c98 : Try.f98.body.map (fun c => ((compile Try.prog kp98 [] kp98 c).map (·.1), fits Try.f98.ntmps c)) = some (some s98, true) := by kernel_rfl
theorem r98 : Try.f98.results.toList = [.tmp 4] := by kernel_rfl
-- marionette/inst.reg32Op
abbrev kp99 : List Nat := [4]
def s99 : SC :=
 .seq (.ops [⟨some 4, .assign (.const (.int .i64 0)), false, none⟩]) <|
 .seq (.keep [0, 1]) <|
 .seq (.seq (.ops [⟨some 5, .move (.tmp 0), false, none⟩]) <|
 .seq (.keep [1, 5]) <|
 .block 0 <| .seq (.ops [⟨some 7, .binOp .eql 3 (.tmp 5) (.const (.int .i64 0)) 3, false, none⟩,
  ⟨some 6, .assign (.tmp 7), false, none⟩]) <|
 .seq (.keep [1, 5, 6]) <|
 .cond (.tmp 6) (.seq (.ops [⟨some 8, .build 172 #[(0, (.const (.int .i64 45))), (1, (.const (.int .i64 47))), (2, (.const (.int .i64 0))), (3, (.const (.int .i64 0))), (4, (.const (.int .i64 0))), (5, (.const (.int .i64 48))), (6, (.const (.int .i64 0))), (7, (.const (.int .i64 0)))], false, none⟩,
  ⟨some 9, .move (.tmp 1), false, none⟩,
  ⟨some 10, .index 172 (.tmp 8) (.tmp 9), false, none⟩,
  ⟨some 4, .assign (.tmp 10), false, none⟩]) <|
 .seq (.keep [4]) <|
 .ret) <|
 .seq (.ops [⟨some 12, .binOp .eql 3 (.tmp 5) (.const (.int .i64 32)) 3, false, none⟩,
  ⟨some 11, .assign (.tmp 12), false, none⟩]) <|
 .seq (.keep [1, 5, 11]) <|
 .cond (.tmp 11) (.seq (.ops [⟨some 13, .build 172 #[(0, (.const (.int .i64 46))), (1, (.const (.int .i64 0))), (2, (.const (.int .i64 0))), (3, (.const (.int .i64 0))), (4, (.const (.int .i64 0))), (5, (.const (.int .i64 49))), (6, (.const (.int .i64 0))), (7, (.const (.int .i64 0)))], false, none⟩,
  ⟨some 14, .move (.tmp 1), false, none⟩,
  ⟨some 15, .index 172 (.tmp 13) (.tmp 14), false, none⟩,
  ⟨some 4, .assign (.tmp 15), false, none⟩]) <|
 .seq (.keep [4]) <|
 .ret) <|
 .seq (.ops [⟨some 17, .binOp .eql 3 (.tmp 5) (.const (.int .i64 1)) 3, false, none⟩,
  ⟨some 16, .assign (.tmp 17), false, none⟩]) <|
 .seq (.keep [1, 16]) <|
 .cond (.tmp 16) (.seq (.ops [⟨some 18, .build 172 #[(0, (.const (.int .i64 58))), (1, (.const (.int .i64 0))), (2, (.const (.int .i64 0))), (3, (.const (.int .i64 0))), (4, (.const (.int .i64 59))), (5, (.const (.int .i64 60))), (6, (.const (.int .i64 61))), (7, (.const (.int .i64 62)))], false, none⟩,
  ⟨some 19, .move (.tmp 1), false, none⟩,
  ⟨some 20, .index 172 (.tmp 18) (.tmp 19), false, none⟩,
  ⟨some 4, .assign (.tmp 20), false, none⟩]) <|
 .seq (.keep [4]) <|
 .ret) <|
 .skip) <|
 .seq (.keep []) <|
 .seq (.ops [⟨some 4, .assign (.const (.int .i64 0)), false, none⟩]) <|
 .seq (.keep [4]) <|
 .ret
theorem c99 : Try.f99.body.map (fun c => ((compile Try.prog kp99 [] kp99 c).map (·.1), fits Try.f99.ntmps c)) = some (some s99, true) := by kernel_rfl
theorem r99 : Try.f99.results.toList = [.tmp 4] := by kernel_rfl
-- marionette/inst.atomic
abbrev kp100 : List Nat := [2]
def s100 : SC :=
 .seq (.ops [⟨some 2, .alloc 34, true, none⟩]) <|
 .seq (.keep [0, 2]) <|
 .seq (.ops [⟨some 6, .move (.tmp 0), false, none⟩,
  ⟨some 7, .call ⟨.value (.func 91), #[(.tmp 6), (.const (.int .i64 27)), (.const (.int .i64 5))], #[133, 3, 3]⟩, true, none⟩,
  ⟨some 8, .call ⟨.value (.func 121), #[(.tmp 7)], #[3]⟩, true, none⟩,
  ⟨some 3, .assign (.tmp 8), false, none⟩]) <|
 .seq (.keep [0, 2, 3]) <|
 .seq (.ops [⟨some 9, .move (.tmp 0), false, none⟩,
  ⟨some 10, .call ⟨.value (.func 91), #[(.tmp 9), (.const (.int .i64 20)), (.const (.int .i64 5))], #[133, 3, 3]⟩, true, none⟩,
  ⟨some 4, .assign (.tmp 10), false, none⟩]) <|
 .seq (.keep [0, 2, 3, 4]) <|
 .seq (.ops [⟨some 11, .move (.tmp 0), false, none⟩,
  ⟨some 12, .call ⟨.value (.func 91), #[(.tmp 11), (.const (.int .i64 12)), (.const (.int .i64 3))], #[133, 3, 3]⟩, true, none⟩,
  ⟨some 5, .assign (.tmp 12), false, none⟩]) <|
 .seq (.keep [0, 2, 3, 4, 5]) <|
 .seq (.seq (.ops [⟨some 13, .move (.tmp 3), false, none⟩,
  ⟨some 14, .binOp .eql 3 (.tmp 13) (.const (.int .i64 0)) 3, false, none⟩,
  ⟨some 15, .move (.tmp 14), false, none⟩,
  ⟨some 16, .move (.tmp 5), false, some (15, false)⟩,
  ⟨some 17, .binOp .neq 3 (.tmp 16) (.const (.int .i64 2)) 3, false, some (15, false)⟩,
  ⟨some 18, .move (.tmp 17), false, some (15, false)⟩,
  ⟨some 19, .move (.tmp 5), false, some (18, true)⟩,
  ⟨some 20, .binOp .neq 3 (.tmp 19) (.const (.int .i64 3)) 3, false, some (18, true)⟩,
  ⟨some 21, .pick (.tmp 18) (.tmp 20) (.const (.bool false)), false, some (15, false)⟩,
  ⟨some 22, .pick (.tmp 15) (.const (.bool true)) (.tmp 21), false, none⟩,
  ⟨some 23, .move (.tmp 22), false, none⟩,
  ⟨some 24, .move (.tmp 3), false, some (23, false)⟩,
  ⟨some 25, .binOp .eql 3 (.tmp 24) (.const (.int .i64 63)) 3, false, some (23, false)⟩,
  ⟨some 26, .move (.tmp 25), false, some (23, false)⟩,
  ⟨some 27, .move (.tmp 4), false, some (26, true)⟩,
  ⟨some 28, .binOp .neq 3 (.tmp 27) (.const (.int .i64 0)) 3, false, some (26, true)⟩,
  ⟨some 29, .pick (.tmp 26) (.tmp 28) (.const (.bool false)), false, some (23, false)⟩,
  ⟨some 30, .pick (.tmp 23) (.const (.bool true)) (.tmp 29), false, none⟩]) <|
 .seq (.keep [0, 2, 3, 4, 5, 30]) <|
 .cond (.tmp 30) (.seq (.ops [⟨some 31, .build 34 #[], false, none⟩,
  ⟨none, .store 34 (.tmp 2) (.tmp 31), true, none⟩]) <|
 .seq (.keep [2]) <|
 .ret) <|
 .skip) <|
 .seq (.keep [0, 2, 3, 4, 5]) <|
 .seq (.seq (.ops [⟨some 32, .move (.tmp 5), false, none⟩,
  ⟨some 33, .binOp .eql 3 (.tmp 32) (.const (.int .i64 3)) 3, false, none⟩]) <|
 .seq (.keep [0, 2, 3, 4, 33]) <|
 .cond (.tmp 33) (.ops [⟨some 34, .move (.tmp 3), false, none⟩,
  ⟨some 35, .binOp .add 3 (.tmp 34) (.const (.int .i64 11)) 3, false, none⟩,
  ⟨some 3, .assign (.tmp 35), false, none⟩]) <|
 .skip) <|
 .seq (.keep [0, 2, 3, 4]) <|
 .seq (.ops [⟨some 36, .move (.tmp 3), false, none⟩,
  ⟨some 37, .move (.tmp 4), false, none⟩,
  ⟨some 38, .move (.tmp 0), false, none⟩,
  ⟨some 39, .call ⟨.value (.func 91), #[(.tmp 38), (.const (.int .i64 25)), (.const (.int .i64 2))], #[133, 3, 3]⟩, true, none⟩,
  ⟨some 40, .build 34 #[(0, (.tmp 36)), (3, (.tmp 37)), (5, (.tmp 39))], false, none⟩,
  ⟨none, .store 34 (.tmp 2) (.tmp 40), true, none⟩]) <|
 .seq (.keep [2]) <|
 .ret
theorem c100 : Try.f100.body.map (fun c => ((compile Try.prog kp100 [] kp100 c).map (·.1), fits Try.f100.ntmps c)) = some (some s100, true) := by kernel_rfl
theorem r100 : Try.f100.results.toList = [.cell 2 34] := by kernel_rfl
-- marionette/inst.other
abbrev kp101 : List Nat := [2]
def s101 : SC :=
 .seq (.ops [⟨some 2, .alloc 34, true, none⟩]) <|
 .seq (.keep [0, 2]) <|
 .seq (.seq (.ops [⟨some 4, .move (.tmp 0), false, none⟩,
  ⟨some 5, .call ⟨.value (.func 91), #[(.tmp 4), (.const (.int .i64 12)), (.const (.int .i64 3))], #[133, 3, 3]⟩, true, none⟩,
  ⟨some 3, .assign (.tmp 5), false, none⟩]) <|
 .seq (.keep [0, 2, 3]) <|
 .block 0 <| .seq (.ops [⟨some 7, .move (.tmp 0), false, none⟩,
  ⟨some 8, .binOp .eql 133 (.tmp 7) (.const (.int .u32 115)) 133, false, none⟩,
  ⟨some 6, .assign (.tmp 8), false, none⟩]) <|
 .seq (.keep [0, 2, 3, 6]) <|
 .cond (.tmp 6) (.seq (.ops [⟨some 9, .build 34 #[(0, (.const (.int .i64 87)))], false, none⟩,
  ⟨none, .store 34 (.tmp 2) (.tmp 9), true, none⟩]) <|
 .seq (.keep [2]) <|
 .ret) <|
 .seq (.ops [⟨some 11, .move (.tmp 0), false, none⟩,
  ⟨some 12, .binOp .eql 133 (.tmp 11) (.const (.int .u32 1048691)) 133, false, none⟩,
  ⟨some 10, .assign (.tmp 12), false, none⟩]) <|
 .seq (.keep [0, 2, 3, 10]) <|
 .cond (.tmp 10) (.seq (.ops [⟨some 13, .build 34 #[(0, (.const (.int .i64 88)))], false, none⟩,
  ⟨none, .store 34 (.tmp 2) (.tmp 13), true, none⟩]) <|
 .seq (.keep [2]) <|
 .ret) <|
 .seq (.ops [⟨some 15, .move (.tmp 0), false, none⟩,
  ⟨some 16, .call ⟨.value (.func 91), #[(.tmp 15), (.const (.int .i64 0)), (.const (.int .i64 7))], #[133, 3, 3]⟩, true, none⟩,
  ⟨some 17, .binOp .eql 3 (.tmp 16) (.const (.int .i64 15)) 3, false, none⟩,
  ⟨some 18, .move (.tmp 17), false, none⟩,
  ⟨some 19, .move (.tmp 3), false, some (18, true)⟩,
  ⟨some 20, .binOp .eql 3 (.tmp 19) (.const (.int .i64 0)) 3, false, some (18, true)⟩,
  ⟨some 21, .pick (.tmp 18) (.tmp 20) (.const (.bool false)), false, none⟩,
  ⟨some 14, .assign (.tmp 21), false, none⟩]) <|
 .seq (.keep [0, 2, 3, 14]) <|
 .cond (.tmp 14) (.seq (.ops [⟨some 22, .build 34 #[(0, (.const (.int .i64 85)))], false, none⟩,
  ⟨none, .store 34 (.tmp 2) (.tmp 22), true, none⟩]) <|
 .seq (.keep [2]) <|
 .ret) <|
 .seq (.ops [⟨some 24, .move (.tmp 0), false, none⟩,
  ⟨some 25, .call ⟨.value (.func 91), #[(.tmp 24), (.const (.int .i64 0)), (.const (.int .i64 7))], #[133, 3, 3]⟩, true, none⟩,
  ⟨some 26, .binOp .eql 3 (.tmp 25) (.const (.int .i64 15)) 3, false, none⟩,
  ⟨some 27, .move (.tmp 26), false, none⟩,
  ⟨some 28, .move (.tmp 3), false, some (27, true)⟩,
  ⟨some 29, .binOp .eql 3 (.tmp 28) (.const (.int .i64 1)) 3, false, some (27, true)⟩,
  ⟨some 30, .pick (.tmp 27) (.tmp 29) (.const (.bool false)), false, none⟩,
  ⟨some 23, .assign (.tmp 30), false, none⟩]) <|
 .seq (.keep [2, 23]) <|
 .cond (.tmp 23) (.seq (.ops [⟨some 31, .build 34 #[(0, (.const (.int .i64 86)))], false, none⟩,
  ⟨none, .store 34 (.tmp 2) (.tmp 31), true, none⟩]) <|
 .seq (.keep [2]) <|
 .ret) <|
 .skip) <|
 .seq (.keep [2]) <|
 .seq (.ops [⟨some 32, .build 34 #[], false, none⟩,
  ⟨none, .store 34 (.tmp 2) (.tmp 32), true, none⟩]) <|
 .seq (.keep [2]) <|
 .ret
theorem c101 : Try.f101.body.map (fun c => ((compile Try.prog kp101 [] kp101 c).map (·.1), fits Try.f101.ntmps c)) = some (some s101, true) := by kernel_rfl
theorem r101 : Try.f101.results.toList = [.cell 2 34] := by kernel_rfl
-- marionette/inst.withImm
abbrev kp102 : List Nat := [2]
def s102 : SC :=
 .seq (.ops [⟨some 2, .alloc 34, true, none⟩]) <|
 .seq (.keep [0, 2]) <|
 .seq (.ops [⟨some 4, .move (.tmp 0), false, none⟩,
  ⟨some 5, .call ⟨.value (.func 91), #[(.tmp 4), (.const (.int .i64 12)), (.const (.int .i64 3))], #[133, 3, 3]⟩, true, none⟩,
  ⟨some 3, .assign (.tmp 5), false, none⟩]) <|
 .seq (.keep [0, 2, 3]) <|
 .seq (.seq (.ops [⟨some 6, .move (.tmp 0), false, none⟩,
  ⟨some 7, .call ⟨.value (.func 91), #[(.tmp 6), (.const (.int .i64 0)), (.const (.int .i64 7))], #[133, 3, 3]⟩, true, none⟩]) <|
 .seq (.keep [0, 2, 3, 7]) <|
 .block 0 <| .seq (.ops [⟨some 9, .binOp .eql 3 (.tmp 7) (.const (.int .i64 103)) 3, false, none⟩,
  ⟨some 8, .assign (.tmp 9), false, none⟩]) <|
 .seq (.keep [0, 2, 3, 7, 8]) <|
 .cond (.tmp 8) (.seq (.ops [⟨some 10, .move (.tmp 3), false, none⟩,
  ⟨some 11, .binOp .eql 3 (.tmp 10) (.const (.int .i64 0)) 3, false, none⟩]) <|
 .seq (.keep [0, 2, 11]) <|
 .cond (.tmp 11) (.seq (.ops [⟨some 12, .move (.tmp 0), false, none⟩,
  ⟨some 13, .call ⟨.value (.func 122), #[(.tmp 12)], #[133]⟩, true, none⟩,
  ⟨some 14, .build 34 #[(0, (.const (.int .i64 4))), (4, (.tmp 13))], false, none⟩,
  ⟨none, .store 34 (.tmp 2) (.tmp 14), true, none⟩]) <|
 .seq (.keep [2]) <|
 .ret) <|
 .skip) <|
 .seq (.ops [⟨some 16, .binOp .eql 3 (.tmp 7) (.const (.int .i64 3)) 3, false, none⟩,
  ⟨some 15, .assign (.tmp 16), false, none⟩]) <|
 .seq (.keep [0, 2, 3, 7, 15]) <|
 .cond (.tmp 15) (.seq (.ops [⟨some 17, .move (.tmp 3), false, none⟩,
  ⟨some 18, .call ⟨.value (.func 123), #[(.tmp 17)], #[3]⟩, true, none⟩,
  ⟨some 19, .move (.tmp 0), false, none⟩,
  ⟨some 20, .call ⟨.value (.func 122), #[(.tmp 19)], #[133]⟩, true, none⟩,
  ⟨some 21, .build 34 #[(0, (.tmp 18)), (4, (.tmp 20))], false, none⟩,
  ⟨none, .store 34 (.tmp 2) (.tmp 21), true, none⟩]) <|
 .seq (.keep [2]) <|
 .ret) <|
 .seq (.ops [⟨some 23, .binOp .eql 3 (.tmp 7) (.const (.int .i64 19)) 3, false, none⟩,
  ⟨some 22, .assign (.tmp 23), false, none⟩]) <|
 .seq (.keep [0, 2, 3, 7, 22]) <|
 .cond (.tmp 22) (.seq (.seq (.ops [⟨some 24, .move (.tmp 3), false, none⟩,
  ⟨some 25, .binOp .eql 3 (.tmp 24) (.const (.int .i64 1)) 3, false, none⟩,
  ⟨some 26, .move (.tmp 25), false, none⟩,
  ⟨some 27, .move (.tmp 3), false, some (26, false)⟩,
  ⟨some 28, .binOp .eql 3 (.tmp 27) (.const (.int .i64 5)) 3, false, some (26, false)⟩,
  ⟨some 29, .pick (.tmp 26) (.const (.bool true)) (.tmp 28), false, none⟩]) <|
 .seq (.keep [0, 2, 3, 29]) <|
 .cond (.tmp 29) (.seq (.ops [⟨some 30, .move (.tmp 0), false, none⟩,
  ⟨some 31, .call ⟨.value (.func 124), #[(.tmp 30), (.const (.int .i64 28)), (.const (.int .i64 29)), (.const (.int .i64 30)), (.const (.int .i64 6))], #[133, 3, 3, 3, 3]⟩, true, none⟩,
  ⟨none, .store 34 (.tmp 2) (.tmp 31), true, none⟩]) <|
 .seq (.keep [2]) <|
 .ret) <|
 .skip) <|
 .seq (.keep [0, 2, 3]) <|
 .seq (.ops [⟨some 32, .move (.tmp 3), false, none⟩,
  ⟨some 33, .call ⟨.value (.func 125), #[(.tmp 32)], #[3]⟩, true, none⟩,
  ⟨some 34, .move (.tmp 0), false, none⟩,
  ⟨some 35, .call ⟨.value (.func 122), #[(.tmp 34)], #[133]⟩, true, none⟩,
  ⟨some 36, .build 34 #[(0, (.tmp 33)), (4, (.tmp 35))], false, none⟩,
  ⟨none, .store 34 (.tmp 2) (.tmp 36), true, none⟩]) <|
 .seq (.keep [2]) <|
 .ret) <|
 .seq (.ops [⟨some 38, .binOp .eql 3 (.tmp 7) (.const (.int .i64 27)) 3, false, none⟩,
  ⟨some 37, .assign (.tmp 38), false, none⟩]) <|
 .seq (.keep [0, 2, 3, 37]) <|
 .cond (.tmp 37) (.seq (.seq (.ops [⟨some 39, .move (.tmp 3), false, none⟩,
  ⟨some 40, .binOp .eql 3 (.tmp 39) (.const (.int .i64 0)) 3, false, none⟩]) <|
 .seq (.keep [0, 2, 40]) <|
 .cond (.tmp 40) (.seq (.ops [⟨some 41, .move (.tmp 0), false, none⟩,
  ⟨some 42, .call ⟨.value (.func 122), #[(.tmp 41)], #[133]⟩, true, none⟩,
  ⟨some 43, .build 34 #[(0, (.const (.int .i64 41))), (4, (.tmp 42))], false, none⟩,
  ⟨none, .store 34 (.tmp 2) (.tmp 43), true, none⟩]) <|
 .seq (.keep [2]) <|
 .ret) <|
 .skip) <|
 .seq (.keep [0, 2]) <|
 .seq (.ops [⟨some 44, .move (.tmp 0), false, none⟩,
  ⟨some 45, .call ⟨.value (.func 124), #[(.tmp 44), (.const (.int .i64 42)), (.const (.int .i64 43)), (.const (.int .i64 44)), (.const (.int .i64 5))], #[133, 3, 3, 3, 3]⟩, true, none⟩,
  ⟨none, .store 34 (.tmp 2) (.tmp 45), true, none⟩]) <|
 .seq (.keep [2]) <|
 .ret) <|
 .skip) <|
 .seq (.keep [2]) <|
 .seq (.ops [⟨some 46, .build 34 #[], false, none⟩,
  ⟨none, .store 34 (.tmp 2) (.tmp 46), true, none⟩]) <|
 .seq (.keep [2]) <|
 .ret
theorem c102 : Try.f102.body.map (fun c => ((compile Try.prog kp102 [] kp102 c).map (·.1), fits Try.f102.ntmps c)) = some (some s102, true) := by kernel_rfl
theorem r102 : Try.f102.results.toList = [.cell 2 34] := by kernel_rfl
-- (marionette/comp.half).reg
abbrev kp105 : List Nat := [4]
def s105 : SC :=
 .seq (.ops [⟨some 4, .assign (.const (.int .i64 0)), false, none⟩]) <|
 .seq (.keep [0, 1]) <|
 .seq (.ops [⟨some 5, .move (.tmp 0), false, none⟩,
  ⟨some 6, .move (.tmp 1), false, none⟩,
  ⟨some 7, .call ⟨.value (.func 106), #[(.tmp 5), (.tmp 6), (.const (.int .i64 3)), (.const (.int .i64 0))], #[162, 3, 3, 3]⟩, true, none⟩,
  ⟨some 8, .binOp .or 3 (.tmp 7) (.const (.int .i64 8)) 3, false, none⟩,
  ⟨some 4, .assign (.tmp 8), false, none⟩]) <|
 .seq (.keep [4]) <|
 .ret
theorem c105 : Try.f105.body.map (fun c => ((compile Try.prog kp105 [] kp105 c).map (·.1), fits Try.f105.ntmps c)) = some (some s105, true) := by kernel_rfl
theorem r105 : Try.f105.results.toList = [.tmp 4] := by kernel_rfl
-- (marionette/comp.half).bits
abbrev kp106 : List Nat := [8]
def s106 : SC :=
 .seq (.ops [⟨some 8, .assign (.const (.int .i64 0)), false, none⟩]) <|
 .seq (.keep [0, 1, 2, 3]) <|
 .seq (.seq (.ops [⟨some 9, .move (.tmp 0), false, none⟩]) <|
 .seq (.ops [⟨some 10, .move (.tmp 1), false, none⟩]) <|
 .seq (.ops [⟨some 11, .binOp .shr 162 (.tmp 9) (.tmp 10) 3, false, none⟩]) <|
 .seq (.ops [⟨some 12, .convert 162 3 (.tmp 11), false, none⟩]) <|
 .seq (.ops [⟨some 13, .move (.tmp 2), false, none⟩]) <|
 .seq (.ops [⟨some 14, .binOp .shl 3 (.const (.int .i64 1)) (.tmp 13) 3, false, none⟩]) <|
 .seq (.ops [⟨some 15, .binOp .sub 3 (.tmp 14) (.const (.int .i64 1)) 3, false, none⟩]) <|
 .seq (.ops [⟨some 16, .binOp .and 3 (.tmp 12) (.tmp 15) 3, false, none⟩]) <|
 .seq (.ops [⟨some 17, .move (.tmp 3), false, none⟩]) <|
 .seq (.ops [⟨some 18, .binOp .shl 3 (.tmp 16) (.tmp 17) 3, false, none⟩]) <|
 .seq (.ops [⟨some 8, .assign (.tmp 18), false, none⟩]) <|
 .skip) <|
 .seq (.keep [8]) <|
 .ret
theorem c106 : Try.f106.body.map (fun c => ((compile Try.prog kp106 [] kp106 c).map (·.1), fits Try.f106.ntmps c)) = some (some s106, true) := by kernel_rfl
theorem r106 : Try.f106.results.toList = [.tmp 8] := by kernel_rfl
-- (marionette/comp.half).words
abbrev kp107 : List Nat := [2]
def s107 : SC :=
 .seq (.ops [⟨some 2, .assign (.const (.int .i64 0)), false, none⟩]) <|
 .seq (.keep [0]) <|
 .seq (.ops [⟨some 3, .move (.tmp 0), false, none⟩,
  ⟨some 4, .call ⟨.value (.func 106), #[(.tmp 3), (.const (.int .i64 5)), (.const (.int .i64 1)), (.const (.int .i64 6))], #[162, 3, 3, 3]⟩, true, none⟩,
  ⟨some 5, .move (.tmp 0), false, none⟩,
  ⟨some 6, .call ⟨.value (.func 106), #[(.tmp 5), (.const (.int .i64 10)), (.const (.int .i64 3)), (.const (.int .i64 3))], #[162, 3, 3, 3]⟩, true, none⟩,
  ⟨some 7, .binOp .or 3 (.tmp 4) (.tmp 6) 3, false, none⟩,
  ⟨some 8, .move (.tmp 0), false, none⟩,
  ⟨some 9, .call ⟨.value (.func 106), #[(.tmp 8), (.const (.int .i64 6)), (.const (.int .i64 1)), (.const (.int .i64 2))], #[162, 3, 3, 3]⟩, true, none⟩,
  ⟨some 10, .binOp .or 3 (.tmp 7) (.tmp 9) 3, false, none⟩,
  ⟨some 2, .assign (.tmp 10), false, none⟩]) <|
 .seq (.keep [2]) <|
 .ret
theorem c107 : Try.f107.body.map (fun c => ((compile Try.prog kp107 [] kp107 c).map (·.1), fits Try.f107.ntmps c)) = some (some s107, true) := by kernel_rfl
theorem r107 : Try.f107.results.toList = [.tmp 2] := by kernel_rfl
-- (marionette/comp.half).doubles
abbrev kp108 : List Nat := [2]
def s108 : SC :=
 .seq (.ops [⟨some 2, .assign (.const (.int .i64 0)), false, none⟩]) <|
 .seq (.keep [0]) <|
 .seq (.ops [⟨some 3, .move (.tmp 0), false, none⟩,
  ⟨some 4, .call ⟨.value (.func 106), #[(.tmp 3), (.const (.int .i64 5)), (.const (.int .i64 2)), (.const (.int .i64 6))], #[162, 3, 3, 3]⟩, true, none⟩,
  ⟨some 5, .move (.tmp 0), false, none⟩,
  ⟨some 6, .call ⟨.value (.func 106), #[(.tmp 5), (.const (.int .i64 10)), (.const (.int .i64 3)), (.const (.int .i64 3))], #[162, 3, 3, 3]⟩, true, none⟩,
  ⟨some 7, .binOp .or 3 (.tmp 4) (.tmp 6) 3, false, none⟩,
  ⟨some 2, .assign (.tmp 7), false, none⟩]) <|
 .seq (.keep [2]) <|
 .ret
theorem c108 : Try.f108.body.map (fun c => ((compile Try.prog kp108 [] kp108 c).map (·.1), fits Try.f108.ntmps c)) = some (some s108, true) := by kernel_rfl
theorem r108 : Try.f108.results.toList = [.tmp 2] := by kernel_rfl
-- (marionette/comp.half).rd
abbrev kp109 : List Nat := [2]
def s109 : SC :=
 .seq (.ops [⟨some 2, .assign (.const (.int .i64 0)), false, none⟩]) <|
 .seq (.keep [0]) <|
 .seq (.ops [⟨some 3, .move (.tmp 0), false, none⟩,
  ⟨some 4, .call ⟨.value (.func 106), #[(.tmp 3), (.const (.int .i64 7)), (.const (.int .i64 5)), (.const (.int .i64 0))], #[162, 3, 3, 3]⟩, true, none⟩,
  ⟨some 2, .assign (.tmp 4), false, none⟩]) <|
 .seq (.keep [2]) <|
 .ret
theorem c109 : Try.f109.body.map (fun c => ((compile Try.prog kp109 [] kp109 c).map (·.1), fits Try.f109.ntmps c)) = some (some s109, true) := by kernel_rfl
theorem r109 : Try.f109.results.toList = [.tmp 2] := by kernel_rfl
-- (marionette/comp.half).short
abbrev kp110 : List Nat := [2]
def s110 : SC :=
 .seq (.ops [⟨some 2, .assign (.const (.int .i64 0)), false, none⟩]) <|
 .seq (.keep [0]) <|
 .seq (.ops [⟨some 3, .move (.tmp 0), false, none⟩,
  ⟨some 4, .call ⟨.value (.func 115), #[(.tmp 3)], #[162]⟩, true, none⟩,
  ⟨some 5, .call ⟨.value (.func 127), #[(.tmp 4), (.const (.int .i64 6))], #[3, 3]⟩, true, none⟩,
  ⟨some 2, .assign (.tmp 5), false, none⟩]) <|
 .seq (.keep [2]) <|
 .ret
theorem c110 : Try.f110.body.map (fun c => ((compile Try.prog kp110 [] kp110 c).map (·.1), fits Try.f110.ntmps c)) = some (some s110, true) := by kernel_rfl
theorem r110 : Try.f110.results.toList = [.tmp 2] := by kernel_rfl
-- (marionette/comp.half).lui
abbrev kp111 : List Nat := [2]
def s111 : SC :=
 .seq (.ops [⟨some 2, .alloc 34, true, none⟩]) <|
 .seq (.keep [0, 2]) <|
 .seq (.seq (.ops [⟨some 5, .move (.tmp 0), false, none⟩,
  ⟨some 6, .call ⟨.value (.func 109), #[(.tmp 5)], #[162]⟩, true, none⟩,
  ⟨some 7, .binOp .eql 3 (.tmp 6) (.const (.int .i64 2)) 3, false, none⟩]) <|
 .seq (.keep [0, 2, 7]) <|
 .cond (.tmp 7) (.seq (.ops [⟨some 8, .move (.tmp 0), false, none⟩,
  ⟨some 9, .call ⟨.value (.func 106), #[(.tmp 8), (.const (.int .i64 12)), (.const (.int .i64 1)), (.const (.int .i64 9))], #[162, 3, 3, 3]⟩, true, none⟩,
  ⟨some 10, .move (.tmp 0), false, none⟩,
  ⟨some 11, .call ⟨.value (.func 106), #[(.tmp 10), (.const (.int .i64 3)), (.const (.int .i64 2)), (.const (.int .i64 7))], #[162, 3, 3, 3]⟩, true, none⟩,
  ⟨some 12, .binOp .or 3 (.tmp 9) (.tmp 11) 3, false, none⟩,
  ⟨some 13, .move (.tmp 0), false, none⟩,
  ⟨some 14, .call ⟨.value (.func 106), #[(.tmp 13), (.const (.int .i64 5)), (.const (.int .i64 1)), (.const (.int .i64 6))], #[162, 3, 3, 3]⟩, true, none⟩,
  ⟨some 15, .binOp .or 3 (.tmp 12) (.tmp 14) 3, false, none⟩,
  ⟨some 16, .move (.tmp 0), false, none⟩,
  ⟨some 17, .call ⟨.value (.func 106), #[(.tmp 16), (.const (.int .i64 2)), (.const (.int .i64 1)), (.const (.int .i64 5))], #[162, 3, 3, 3]⟩, true, none⟩,
  ⟨some 18, .binOp .or 3 (.tmp 15) (.tmp 17) 3, false, none⟩,
  ⟨some 19, .move (.tmp 0), false, none⟩,
  ⟨some 20, .call ⟨.value (.func 106), #[(.tmp 19), (.const (.int .i64 6)), (.const (.int .i64 1)), (.const (.int .i64 4))], #[162, 3, 3, 3]⟩, true, none⟩,
  ⟨some 21, .binOp .or 3 (.tmp 18) (.tmp 20) 3, false, none⟩,
  ⟨some 22, .call ⟨.value (.func 127), #[(.tmp 21), (.const (.int .i64 10))], #[3, 3]⟩, true, none⟩,
  ⟨some 3, .assign (.tmp 22), false, none⟩]) <|
 .seq (.keep [2, 3]) <|
 .seq (.seq (.ops [⟨some 23, .move (.tmp 3), false, none⟩,
  ⟨some 24, .binOp .neq 3 (.tmp 23) (.const (.int .i64 0)) 3, false, none⟩]) <|
 .seq (.keep [2, 3, 24]) <|
 .cond (.tmp 24) (.seq (.ops [⟨some 25, .move (.tmp 3), false, none⟩,
  ⟨some 26, .build 34 #[(0, (.const (.int .i64 22))), (1, (.const (.int .i64 2))), (2, (.const (.int .i64 2))), (4, (.tmp 25))], false, none⟩,
  ⟨none, .store 34 (.tmp 2) (.tmp 26), true, none⟩]) <|
 .seq (.keep [2]) <|
 .ret) <|
 .skip) <|
 .seq (.keep [2]) <|
 .seq (.ops [⟨some 27, .build 34 #[], false, none⟩,
  ⟨none, .store 34 (.tmp 2) (.tmp 27), true, none⟩]) <|
 .seq (.keep [2]) <|
 .ret) <|
 .skip) <|
 .seq (.keep [0, 2]) <|
 .seq (.seq (.ops [⟨some 28, .move (.tmp 0), false, none⟩,
  ⟨some 29, .call ⟨.value (.func 110), #[(.tmp 28)], #[162]⟩, true, none⟩,
  ⟨some 30, .binOp .shl 3 (.tmp 29) (.const (.int .u64 12)) 146, false, none⟩,
  ⟨some 4, .assign (.tmp 30), false, none⟩]) <|
 .seq (.keep [0, 2, 4]) <|
 .seq (.ops [⟨some 31, .move (.tmp 4), false, none⟩,
  ⟨some 32, .binOp .neq 3 (.tmp 31) (.const (.int .i64 0)) 3, false, none⟩]) <|
 .seq (.keep [0, 2, 4, 32]) <|
 .cond (.tmp 32) (.seq (.ops [⟨some 33, .move (.tmp 0), false, none⟩,
  ⟨some 34, .call ⟨.value (.func 109), #[(.tmp 33)], #[162]⟩, true, none⟩,
  ⟨some 35, .move (.tmp 4), false, none⟩,
  ⟨some 36, .build 34 #[(0, (.const (.int .i64 1))), (1, (.tmp 34)), (4, (.tmp 35))], false, none⟩,
  ⟨none, .store 34 (.tmp 2) (.tmp 36), true, none⟩]) <|
 .seq (.keep [2]) <|
 .ret) <|
 .skip) <|
 .seq (.keep [2]) <|
 .seq (.ops [⟨some 37, .build 34 #[], false, none⟩,
  ⟨none, .store 34 (.tmp 2) (.tmp 37), true, none⟩]) <|
 .seq (.keep [2]) <|
 .ret
theorem c111 : Try.f111.body.map (fun c => ((compile Try.prog kp111 [] kp111 c).map (·.1), fits Try.f111.ntmps c)) = some (some s111, true) := by kernel_rfl
theorem r111 : Try.f111.results.toList = [.cell 2 34] := by kernel_rfl
-- (marionette/comp.half).reckon
abbrev kp112 : List Nat := [2]
def s112 : SC :=
 .seq (.ops [⟨some 2, .alloc 34, true, none⟩]) <|
 .seq (.keep [0, 2]) <|
 .seq (.ops [⟨some 5, .move (.tmp 0), false, none⟩,
  ⟨some 6, .call ⟨.value (.func 105), #[(.tmp 5), (.const (.int .i64 7))], #[162, 3]⟩, true, none⟩,
  ⟨some 3, .assign (.tmp 6), false, none⟩]) <|
 .seq (.keep [0, 2, 3]) <|
 .seq (.seq (.ops [⟨some 7, .move (.tmp 0), false, none⟩,
  ⟨some 8, .call ⟨.value (.func 106), #[(.tmp 7), (.const (.int .i64 10)), (.const (.int .i64 2)), (.const (.int .i64 0))], #[162, 3, 3, 3]⟩, true, none⟩]) <|
 .seq (.keep [0, 2, 3, 8]) <|
 .block 0 <| .seq (.ops [⟨some 10, .binOp .eql 3 (.tmp 8) (.const (.int .i64 0)) 3, false, none⟩,
  ⟨some 9, .assign (.tmp 10), false, none⟩]) <|
 .seq (.keep [0, 2, 3, 8, 9]) <|
 .cond (.tmp 9) (.seq (.ops [⟨some 11, .move (.tmp 3), false, none⟩,
  ⟨some 12, .move (.tmp 3), false, none⟩,
  ⟨some 13, .move (.tmp 0), false, none⟩,
  ⟨some 14, .call ⟨.value (.func 115), #[(.tmp 13)], #[162]⟩, true, none⟩,
  ⟨some 15, .build 34 #[(0, (.const (.int .i64 29))), (1, (.tmp 11)), (2, (.tmp 12)), (4, (.tmp 14))], false, none⟩,
  ⟨none, .store 34 (.tmp 2) (.tmp 15), true, none⟩]) <|
 .seq (.keep [2]) <|
 .ret) <|
 .seq (.ops [⟨some 17, .binOp .eql 3 (.tmp 8) (.const (.int .i64 1)) 3, false, none⟩,
  ⟨some 16, .assign (.tmp 17), false, none⟩]) <|
 .seq (.keep [0, 2, 3, 8, 16]) <|
 .cond (.tmp 16) (.seq (.ops [⟨some 18, .move (.tmp 3), false, none⟩,
  ⟨some 19, .move (.tmp 3), false, none⟩,
  ⟨some 20, .move (.tmp 0), false, none⟩,
  ⟨some 21, .call ⟨.value (.func 115), #[(.tmp 20)], #[162]⟩, true, none⟩,
  ⟨some 22, .build 34 #[(0, (.const (.int .i64 30))), (1, (.tmp 18)), (2, (.tmp 19)), (4, (.tmp 21))], false, none⟩,
  ⟨none, .store 34 (.tmp 2) (.tmp 22), true, none⟩]) <|
 .seq (.keep [2]) <|
 .ret) <|
 .seq (.ops [⟨some 24, .binOp .eql 3 (.tmp 8) (.const (.int .i64 2)) 3, false, none⟩,
  ⟨some 23, .assign (.tmp 24), false, none⟩]) <|
 .seq (.keep [0, 2, 3, 23]) <|
 .cond (.tmp 23) (.seq (.ops [⟨some 25, .move (.tmp 3), false, none⟩,
  ⟨some 26, .move (.tmp 3), false, none⟩,
  ⟨some 27, .move (.tmp 0), false, none⟩,
  ⟨some 28, .call ⟨.value (.func 110), #[(.tmp 27)], #[162]⟩, true, none⟩,
  ⟨some 29, .build 34 #[(0, (.const (.int .i64 27))), (1, (.tmp 25)), (2, (.tmp 26)), (4, (.tmp 28))], false, none⟩,
  ⟨none, .store 34 (.tmp 2) (.tmp 29), true, none⟩]) <|
 .seq (.keep [2]) <|
 .ret) <|
 .skip) <|
 .seq (.keep [0, 2, 3]) <|
 .seq (.ops [⟨some 30, .build 172 #[(0, (.const (.int .i64 32))), (1, (.const (.int .i64 36))), (2, (.const (.int .i64 39))), (3, (.const (.int .i64 40))), (4, (.const (.int .i64 46))), (5, (.const (.int .i64 45))), (6, (.const (.int .i64 0))), (7, (.const (.int .i64 0)))], false, none⟩,
  ⟨some 31, .move (.tmp 0), false, none⟩,
  ⟨some 32, .call ⟨.value (.func 106), #[(.tmp 31), (.const (.int .i64 12)), (.const (.int .i64 1)), (.const (.int .i64 2))], #[162, 3, 3, 3]⟩, true, none⟩,
  ⟨some 33, .move (.tmp 0), false, none⟩,
  ⟨some 34, .call ⟨.value (.func 106), #[(.tmp 33), (.const (.int .i64 5)), (.const (.int .i64 2)), (.const (.int .i64 0))], #[162, 3, 3, 3]⟩, true, none⟩,
  ⟨some 35, .binOp .or 3 (.tmp 32) (.tmp 34) 3, false, none⟩,
  ⟨some 36, .index 172 (.tmp 30) (.tmp 35), false, none⟩,
  ⟨some 4, .assign (.tmp 36), false, none⟩]) <|
 .seq (.keep [0, 2, 3, 4]) <|
 .seq (.seq (.ops [⟨some 37, .move (.tmp 4), false, none⟩,
  ⟨some 38, .binOp .eql 3 (.tmp 37) (.const (.int .i64 0)) 3, false, none⟩]) <|
 .seq (.keep [0, 2, 3, 4, 38]) <|
 .cond (.tmp 38) (.seq (.ops [⟨some 39, .build 34 #[], false, none⟩,
  ⟨none, .store 34 (.tmp 2) (.tmp 39), true, none⟩]) <|
 .seq (.keep [2]) <|
 .ret) <|
 .skip) <|
 .seq (.keep [0, 2, 3, 4]) <|
 .seq (.ops [⟨some 40, .move (.tmp 4), false, none⟩,
  ⟨some 41, .move (.tmp 3), false, none⟩,
  ⟨some 42, .move (.tmp 3), false, none⟩,
  ⟨some 43, .move (.tmp 0), false, none⟩,
  ⟨some 44, .call ⟨.value (.func 105), #[(.tmp 43), (.const (.int .i64 2))], #[162, 3]⟩, true, none⟩,
  ⟨some 45, .build 34 #[(0, (.tmp 40)), (1, (.tmp 41)), (2, (.tmp 42)), (3, (.tmp 44))], false, none⟩,
  ⟨none, .store 34 (.tmp 2) (.tmp 45), true, none⟩]) <|
 .seq (.keep [2]) <|
 .ret
theorem c112 : Try.f112.body.map (fun c => ((compile Try.prog kp112 [] kp112 c).map (·.1), fits Try.f112.ntmps c)) = some (some s112, true) := by kernel_rfl
theorem r112 : Try.f112.results.toList = [.cell 2 34] := by kernel_rfl
-- (marionette/comp.half).jump
abbrev kp113 : List Nat := [2]
def s113 : SC :=
 .seq (.ops [⟨some 2, .assign (.const (.int .i64 0)), false, none⟩]) <|
 .seq (.keep [0]) <|
 .seq (.ops [⟨some 3, .move (.tmp 0), false, none⟩,
  ⟨some 4, .call ⟨.value (.func 106), #[(.tmp 3), (.const (.int .i64 12)), (.const (.int .i64 1)), (.const (.int .i64 11))], #[162, 3, 3, 3]⟩, true, none⟩,
  ⟨some 5, .move (.tmp 0), false, none⟩,
  ⟨some 6, .call ⟨.value (.func 106), #[(.tmp 5), (.const (.int .i64 8)), (.const (.int .i64 1)), (.const (.int .i64 10))], #[162, 3, 3, 3]⟩, true, none⟩,
  ⟨some 7, .binOp .or 3 (.tmp 4) (.tmp 6) 3, false, none⟩,
  ⟨some 8, .move (.tmp 0), false, none⟩,
  ⟨some 9, .call ⟨.value (.func 106), #[(.tmp 8), (.const (.int .i64 9)), (.const (.int .i64 2)), (.const (.int .i64 8))], #[162, 3, 3, 3]⟩, true, none⟩,
  ⟨some 10, .binOp .or 3 (.tmp 7) (.tmp 9) 3, false, none⟩,
  ⟨some 11, .move (.tmp 0), false, none⟩,
  ⟨some 12, .call ⟨.value (.func 106), #[(.tmp 11), (.const (.int .i64 6)), (.const (.int .i64 1)), (.const (.int .i64 7))], #[162, 3, 3, 3]⟩, true, none⟩,
  ⟨some 13, .binOp .or 3 (.tmp 10) (.tmp 12) 3, false, none⟩,
  ⟨some 14, .move (.tmp 0), false, none⟩,
  ⟨some 15, .call ⟨.value (.func 106), #[(.tmp 14), (.const (.int .i64 7)), (.const (.int .i64 1)), (.const (.int .i64 6))], #[162, 3, 3, 3]⟩, true, none⟩,
  ⟨some 16, .binOp .or 3 (.tmp 13) (.tmp 15) 3, false, none⟩,
  ⟨some 17, .move (.tmp 0), false, none⟩,
  ⟨some 18, .call ⟨.value (.func 106), #[(.tmp 17), (.const (.int .i64 2)), (.const (.int .i64 1)), (.const (.int .i64 5))], #[162, 3, 3, 3]⟩, true, none⟩,
  ⟨some 19, .binOp .or 3 (.tmp 16) (.tmp 18) 3, false, none⟩,
  ⟨some 20, .move (.tmp 0), false, none⟩,
  ⟨some 21, .call ⟨.value (.func 106), #[(.tmp 20), (.const (.int .i64 11)), (.const (.int .i64 1)), (.const (.int .i64 4))], #[162, 3, 3, 3]⟩, true, none⟩,
  ⟨some 22, .binOp .or 3 (.tmp 19) (.tmp 21) 3, false, none⟩,
  ⟨some 23, .move (.tmp 0), false, none⟩,
  ⟨some 24, .call ⟨.value (.func 106), #[(.tmp 23), (.const (.int .i64 3)), (.const (.int .i64 3)), (.const (.int .i64 1))], #[162, 3, 3, 3]⟩, true, none⟩,
  ⟨some 25, .binOp .or 3 (.tmp 22) (.tmp 24) 3, false, none⟩,
  ⟨some 26, .call ⟨.value (.func 127), #[(.tmp 25), (.const (.int .i64 12))], #[3, 3]⟩, true, none⟩,
  ⟨some 2, .assign (.tmp 26), false, none⟩]) <|
 .seq (.keep [2]) <|
 .ret
theorem c113 : Try.f113.body.map (fun c => ((compile Try.prog kp113 [] kp113 c).map (·.1), fits Try.f113.ntmps c)) = some (some s113, true) := by kernel_rfl
theorem r113 : Try.f113.results.toList = [.tmp 2] := by kernel_rfl
-- (marionette/comp.half).branch
abbrev kp114 : List Nat := [2]
def s114 : SC :=
 .seq (.ops [⟨some 2, .assign (.const (.int .i64 0)), false, none⟩]) <|
 .seq (.keep [0]) <|
 .seq (.ops [⟨some 3, .move (.tmp 0), false, none⟩,
  ⟨some 4, .call ⟨.value (.func 106), #[(.tmp 3), (.const (.int .i64 12)), (.const (.int .i64 1)), (.const (.int .i64 8))], #[162, 3, 3, 3]⟩, true, none⟩,
  ⟨some 5, .move (.tmp 0), false, none⟩,
  ⟨some 6, .call ⟨.value (.func 106), #[(.tmp 5), (.const (.int .i64 5)), (.const (.int .i64 2)), (.const (.int .i64 6))], #[162, 3, 3, 3]⟩, true, none⟩,
  ⟨some 7, .binOp .or 3 (.tmp 4) (.tmp 6) 3, false, none⟩,
  ⟨some 8, .move (.tmp 0), false, none⟩,
  ⟨some 9, .call ⟨.value (.func 106), #[(.tmp 8), (.const (.int .i64 2)), (.const (.int .i64 1)), (.const (.int .i64 5))], #[162, 3, 3, 3]⟩, true, none⟩,
  ⟨some 10, .binOp .or 3 (.tmp 7) (.tmp 9) 3, false, none⟩,
  ⟨some 11, .move (.tmp 0), false, none⟩,
  ⟨some 12, .call ⟨.value (.func 106), #[(.tmp 11), (.const (.int .i64 10)), (.const (.int .i64 2)), (.const (.int .i64 3))], #[162, 3, 3, 3]⟩, true, none⟩,
  ⟨some 13, .binOp .or 3 (.tmp 10) (.tmp 12) 3, false, none⟩,
  ⟨some 14, .move (.tmp 0), false, none⟩,
  ⟨some 15, .call ⟨.value (.func 106), #[(.tmp 14), (.const (.int .i64 3)), (.const (.int .i64 2)), (.const (.int .i64 1))], #[162, 3, 3, 3]⟩, true, none⟩,
  ⟨some 16, .binOp .or 3 (.tmp 13) (.tmp 15) 3, false, none⟩,
  ⟨some 17, .call ⟨.value (.func 127), #[(.tmp 16), (.const (.int .i64 9))], #[3, 3]⟩, true, none⟩,
  ⟨some 2, .assign (.tmp 17), false, none⟩]) <|
 .seq (.keep [2]) <|
 .ret
theorem c114 : Try.f114.body.map (fun c => ((compile Try.prog kp114 [] kp114 c).map (·.1), fits Try.f114.ntmps c)) = some (some s114, true) := by kernel_rfl
theorem r114 : Try.f114.results.toList = [.tmp 2] := by kernel_rfl
-- (marionette/comp.half).six
abbrev kp115 : List Nat := [2]
def s115 : SC :=
 .seq (.ops [⟨some 2, .assign (.const (.int .i64 0)), false, none⟩]) <|
 .seq (.keep [0]) <|
 .seq (.ops [⟨some 3, .move (.tmp 0), false, none⟩,
  ⟨some 4, .call ⟨.value (.func 106), #[(.tmp 3), (.const (.int .i64 12)), (.const (.int .i64 1)), (.const (.int .i64 5))], #[162, 3, 3, 3]⟩, true, none⟩,
  ⟨some 5, .move (.tmp 0), false, none⟩,
  ⟨some 6, .call ⟨.value (.func 106), #[(.tmp 5), (.const (.int .i64 2)), (.const (.int .i64 5)), (.const (.int .i64 0))], #[162, 3, 3, 3]⟩, true, none⟩,
  ⟨some 7, .binOp .or 3 (.tmp 4) (.tmp 6) 3, false, none⟩,
  ⟨some 2, .assign (.tmp 7), false, none⟩]) <|
 .seq (.keep [2]) <|
 .ret
theorem c115 : Try.f115.body.map (fun c => ((compile Try.prog kp115 [] kp115 c).map (·.1), fits Try.f115.ntmps c)) = some (some s115, true) := by kernel_rfl
theorem r115 : Try.f115.results.toList = [.tmp 2] := by kernel_rfl
-- (marionette/comp.half).moves
abbrev kp116 : List Nat := [2]
def s116 : SC :=
 .seq (.ops [⟨some 2, .alloc 34, true, none⟩]) <|
 .seq (.keep [0, 2]) <|
 .seq (.ops [⟨some 6, .move (.tmp 0), false, none⟩,
  ⟨some 7, .call ⟨.value (.func 109), #[(.tmp 6)], #[162]⟩, true, none⟩,
  ⟨some 8, .move (.tmp 0), false, none⟩,
  ⟨some 9, .call ⟨.value (.func 117), #[(.tmp 8)], #[162]⟩, true, none⟩,
  ⟨some 10, .move (.tmp 0), false, none⟩,
  ⟨some 11, .call ⟨.value (.func 106), #[(.tmp 10), (.const (.int .i64 12)), (.const (.int .i64 1)), (.const (.int .i64 0))], #[162, 3, 3, 3]⟩, true, none⟩,
  ⟨some 3, .assign (.tmp 7), false, none⟩,
  ⟨some 4, .assign (.tmp 9), false, none⟩,
  ⟨some 5, .assign (.tmp 11), false, none⟩]) <|
 .seq (.keep [2, 3, 4, 5]) <|
 .seq (.block 0 <| .seq (.ops [⟨some 13, .move (.tmp 4), false, none⟩,
  ⟨some 14, .binOp .gtr 3 (.tmp 13) (.const (.int .i64 0)) 3, false, none⟩,
  ⟨some 12, .assign (.tmp 14), false, none⟩]) <|
 .seq (.keep [2, 3, 4, 5, 12]) <|
 .cond (.tmp 12) (.seq (.ops [⟨some 15, .move (.tmp 3), false, none⟩,
  ⟨some 16, .move (.tmp 3), false, none⟩,
  ⟨some 17, .move (.tmp 5), false, none⟩,
  ⟨some 18, .binOp .mul 3 (.tmp 16) (.tmp 17) 3, false, none⟩,
  ⟨some 19, .move (.tmp 4), false, none⟩,
  ⟨some 20, .build 34 #[(0, (.const (.int .i64 31))), (1, (.tmp 15)), (2, (.tmp 18)), (3, (.tmp 19))], false, none⟩,
  ⟨none, .store 34 (.tmp 2) (.tmp 20), true, none⟩]) <|
 .seq (.keep [2]) <|
 .ret) <|
 .seq (.ops [⟨some 22, .move (.tmp 3), false, none⟩,
  ⟨some 23, .binOp .gtr 3 (.tmp 22) (.const (.int .i64 0)) 3, false, none⟩,
  ⟨some 21, .assign (.tmp 23), false, none⟩]) <|
 .seq (.keep [2, 3, 5, 21]) <|
 .cond (.tmp 21) (.seq (.ops [⟨some 24, .move (.tmp 5), false, none⟩,
  ⟨some 25, .binOp .mul 3 (.const (.int .i64 1)) (.tmp 24) 3, false, none⟩,
  ⟨some 26, .move (.tmp 3), false, none⟩,
  ⟨some 27, .build 34 #[(0, (.const (.int .i64 4))), (1, (.tmp 25)), (2, (.tmp 26))], false, none⟩,
  ⟨none, .store 34 (.tmp 2) (.tmp 27), true, none⟩]) <|
 .seq (.keep [2]) <|
 .ret) <|
 .seq (.ops [⟨some 29, .move (.tmp 5), false, none⟩,
  ⟨some 30, .binOp .gtr 3 (.tmp 29) (.const (.int .i64 0)) 3, false, none⟩,
  ⟨some 28, .assign (.tmp 30), false, none⟩]) <|
 .seq (.keep [2, 28]) <|
 .cond (.tmp 28) (.seq (.ops [⟨some 31, .build 34 #[(0, (.const (.int .i64 88)))], false, none⟩,
  ⟨none, .store 34 (.tmp 2) (.tmp 31), true, none⟩]) <|
 .seq (.keep [2]) <|
 .ret) <|
 .skip) <|
 .seq (.keep [2]) <|
 .seq (.ops [⟨some 32, .build 34 #[], false, none⟩,
  ⟨none, .store 34 (.tmp 2) (.tmp 32), true, none⟩]) <|
 .seq (.keep [2]) <|
 .ret
theorem c116 : Try.f116.body.map (fun c => ((compile Try.prog kp116 [] kp116 c).map (·.1), fits Try.f116.ntmps c)) = some (some s116, true) := by kernel_rfl
theorem r116 : Try.f116.results.toList = [.cell 2 34] := by kernel_rfl
-- (marionette/comp.half).rs2
abbrev kp117 : List Nat := [2]
def s117 : SC :=
 .seq (.ops [⟨some 2, .assign (.const (.int .i64 0)), false, none⟩]) <|
 .seq (.keep [0]) <|
 .seq (.ops [⟨some 3, .move (.tmp 0), false, none⟩,
  ⟨some 4, .call ⟨.value (.func 106), #[(.tmp 3), (.const (.int .i64 2)), (.const (.int .i64 5)), (.const (.int .i64 0))], #[162, 3, 3, 3]⟩, true, none⟩,
  ⟨some 2, .assign (.tmp 4), false, none⟩]) <|
 .seq (.keep [2]) <|
 .ret
theorem c117 : Try.f117.body.map (fun c => ((compile Try.prog kp117 [] kp117 c).map (·.1), fits Try.f117.ntmps c)) = some (some s117, true) := by kernel_rfl
theorem r117 : Try.f117.results.toList = [.tmp 2] := by kernel_rfl
-- marionette/inst.signed
abbrev kp118 : List Nat := [4]
def s118 : SC :=
 .seq (.ops [⟨some 4, .assign (.const (.int .i64 0)), false, none⟩]) <|
 .seq (.keep [0, 1]) <|
 .seq (.ops [⟨some 5, .move (.tmp 0), false, none⟩,
  ⟨some 6, .convert 3 26 (.tmp 5), false, none⟩,
  ⟨some 7, .move (.tmp 1), false, none⟩,
  ⟨some 8, .call ⟨.value (.func 128), #[(.tmp 6), (.tmp 7)], #[26, 3]⟩, true, none⟩,
  ⟨some 9, .convert 26 2 (.tmp 8), false, none⟩,
  ⟨some 4, .assign (.tmp 9), false, none⟩]) <|
 .seq (.keep [4]) <|
 .ret
theorem c118 : Try.f118.body.map (fun c => ((compile Try.prog kp118 [] kp118 c).map (·.1), fits Try.f118.ntmps c)) = some (some s118, true) := by kernel_rfl
theorem r118 : Try.f118.results.toList = [.tmp 4] := by kernel_rfl
-- marionette/inst.plainReg
abbrev kp119 : List Nat := [2]
def s119 : SC :=
 .seq (.ops [⟨some 2, .assign (.const (.int .i64 0)), false, none⟩]) <|
 .seq (.keep [0]) <|
 .seq (.ops [⟨some 3, .build 172 #[(0, (.const (.int .i64 31))), (1, (.const (.int .i64 33))), (2, (.const (.int .i64 34))), (3, (.const (.int .i64 35))), (4, (.const (.int .i64 36))), (5, (.const (.int .i64 37))), (6, (.const (.int .i64 39))), (7, (.const (.int .i64 40)))], false, none⟩,
  ⟨some 4, .move (.tmp 0), false, none⟩,
  ⟨some 5, .index 172 (.tmp 3) (.tmp 4), false, none⟩,
  ⟨some 2, .assign (.tmp 5), false, none⟩]) <|
 .seq (.keep [2]) <|
 .ret
theorem c119 : Try.f119.body.map (fun c => ((compile Try.prog kp119 [] kp119 c).map (·.1), fits Try.f119.ntmps c)) = some (some s119, true) := by kernel_rfl
theorem r119 : Try.f119.results.toList = [.tmp 2] := by kernel_rfl
-- marionette/inst.mulReg
abbrev kp120 : List Nat := [2]
def s120 : SC :=
 .seq (.ops [⟨some 2, .assign (.const (.int .i64 0)), false, none⟩]) <|
 .seq (.keep [0]) <|
 .seq (.ops [⟨some 3, .build 172 #[(0, (.const (.int .i64 50))), (1, (.const (.int .i64 51))), (2, (.const (.int .i64 52))), (3, (.const (.int .i64 53))), (4, (.const (.int .i64 54))), (5, (.const (.int .i64 55))), (6, (.const (.int .i64 56))), (7, (.const (.int .i64 57)))], false, none⟩,
  ⟨some 4, .move (.tmp 0), false, none⟩,
  ⟨some 5, .index 172 (.tmp 3) (.tmp 4), false, none⟩,
  ⟨some 2, .assign (.tmp 5), false, none⟩]) <|
 .seq (.keep [2]) <|
 .ret
theorem c120 : Try.f120.body.map (fun c => ((compile Try.prog kp120 [] kp120 c).map (·.1), fits Try.f120.ntmps c)) = some (some s120, true) := by kernel_rfl
theorem r120 : Try.f120.results.toList = [.tmp 2] := by kernel_rfl
-- marionette/inst.amoOp
abbrev kp121 : List Nat := [2]
def s121 : SC :=
 .seq (.ops [⟨some 2, .assign (.const (.int .i64 0)), false, none⟩]) <|
 .seq (.keep [0]) <|
 .seq (.seq (.ops [⟨some 3, .move (.tmp 0), false, none⟩]) <|
 .seq (.keep [3]) <|
 .block 0 <| .seq (.ops [⟨some 5, .binOp .eql 3 (.tmp 3) (.const (.int .i64 2)) 3, false, none⟩,
  ⟨some 4, .assign (.tmp 5), false, none⟩]) <|
 .seq (.keep [3, 4]) <|
 .cond (.tmp 4) (.seq (.ops [⟨some 2, .assign (.const (.int .i64 63)), false, none⟩]) <|
 .seq (.keep [2]) <|
 .ret) <|
 .seq (.ops [⟨some 7, .binOp .eql 3 (.tmp 3) (.const (.int .i64 3)) 3, false, none⟩,
  ⟨some 6, .assign (.tmp 7), false, none⟩]) <|
 .seq (.keep [3, 6]) <|
 .cond (.tmp 6) (.seq (.ops [⟨some 2, .assign (.const (.int .i64 64)), false, none⟩]) <|
 .seq (.keep [2]) <|
 .ret) <|
 .seq (.ops [⟨some 9, .binOp .eql 3 (.tmp 3) (.const (.int .i64 1)) 3, false, none⟩,
  ⟨some 8, .assign (.tmp 9), false, none⟩]) <|
 .seq (.keep [3, 8]) <|
 .cond (.tmp 8) (.seq (.ops [⟨some 2, .assign (.const (.int .i64 65)), false, none⟩]) <|
 .seq (.keep [2]) <|
 .ret) <|
 .seq (.ops [⟨some 11, .binOp .eql 3 (.tmp 3) (.const (.int .i64 0)) 3, false, none⟩,
  ⟨some 10, .assign (.tmp 11), false, none⟩]) <|
 .seq (.keep [3, 10]) <|
 .cond (.tmp 10) (.seq (.ops [⟨some 2, .assign (.const (.int .i64 66)), false, none⟩]) <|
 .seq (.keep [2]) <|
 .ret) <|
 .seq (.ops [⟨some 13, .binOp .eql 3 (.tmp 3) (.const (.int .i64 4)) 3, false, none⟩,
  ⟨some 12, .assign (.tmp 13), false, none⟩]) <|
 .seq (.keep [3, 12]) <|
 .cond (.tmp 12) (.seq (.ops [⟨some 2, .assign (.const (.int .i64 67)), false, none⟩]) <|
 .seq (.keep [2]) <|
 .ret) <|
 .seq (.ops [⟨some 15, .binOp .eql 3 (.tmp 3) (.const (.int .i64 12)) 3, false, none⟩,
  ⟨some 14, .assign (.tmp 15), false, none⟩]) <|
 .seq (.keep [3, 14]) <|
 .cond (.tmp 14) (.seq (.ops [⟨some 2, .assign (.const (.int .i64 68)), false, none⟩]) <|
 .seq (.keep [2]) <|
 .ret) <|
 .seq (.ops [⟨some 17, .binOp .eql 3 (.tmp 3) (.const (.int .i64 8)) 3, false, none⟩,
  ⟨some 16, .assign (.tmp 17), false, none⟩]) <|
 .seq (.keep [3, 16]) <|
 .cond (.tmp 16) (.seq (.ops [⟨some 2, .assign (.const (.int .i64 69)), false, none⟩]) <|
 .seq (.keep [2]) <|
 .ret) <|
 .seq (.ops [⟨some 19, .binOp .eql 3 (.tmp 3) (.const (.int .i64 16)) 3, false, none⟩,
  ⟨some 18, .assign (.tmp 19), false, none⟩]) <|
 .seq (.keep [3, 18]) <|
 .cond (.tmp 18) (.seq (.ops [⟨some 2, .assign (.const (.int .i64 70)), false, none⟩]) <|
 .seq (.keep [2]) <|
 .ret) <|
 .seq (.ops [⟨some 21, .binOp .eql 3 (.tmp 3) (.const (.int .i64 20)) 3, false, none⟩,
  ⟨some 20, .assign (.tmp 21), false, none⟩]) <|
 .seq (.keep [3, 20]) <|
 .cond (.tmp 20) (.seq (.ops [⟨some 2, .assign (.const (.int .i64 71)), false, none⟩]) <|
 .seq (.keep [2]) <|
 .ret) <|
 .seq (.ops [⟨some 23, .binOp .eql 3 (.tmp 3) (.const (.int .i64 24)) 3, false, none⟩,
  ⟨some 22, .assign (.tmp 23), false, none⟩]) <|
 .seq (.keep [3, 22]) <|
 .cond (.tmp 22) (.seq (.ops [⟨some 2, .assign (.const (.int .i64 72)), false, none⟩]) <|
 .seq (.keep [2]) <|
 .ret) <|
 .seq (.ops [⟨some 25, .binOp .eql 3 (.tmp 3) (.const (.int .i64 28)) 3, false, none⟩,
  ⟨some 24, .assign (.tmp 25), false, none⟩]) <|
 .seq (.keep [24]) <|
 .cond (.tmp 24) (.seq (.ops [⟨some 2, .assign (.const (.int .i64 73)), false, none⟩]) <|
 .seq (.keep [2]) <|
 .ret) <|
 .skip) <|
 .seq (.keep []) <|
 .seq (.ops [⟨some 2, .assign (.const (.int .i64 0)), false, none⟩]) <|
 .seq (.keep [2]) <|
 .ret
theorem c121 : Try.f121.body.map (fun c => ((compile Try.prog kp121 [] kp121 c).map (·.1), fits Try.f121.ntmps c)) = some (some s121, true) := by kernel_rfl
theorem r121 : Try.f121.results.toList = [.tmp 2] := by kernel_rfl
-- marionette/inst.iImm
abbrev kp122 : List Nat := [2]
def s122 : SC :=
 .seq (.ops [⟨some 2, .assign (.const (.int .i64 0)), false, none⟩]) <|
 .seq (.keep [0]) <|
 .seq (.ops [⟨some 3, .move (.tmp 0), false, none⟩,
  ⟨some 4, .call ⟨.value (.func 91), #[(.tmp 3), (.const (.int .i64 20)), (.const (.int .i64 12))], #[133, 3, 3]⟩, true, none⟩,
  ⟨some 5, .call ⟨.value (.func 118), #[(.tmp 4), (.const (.int .i64 12))], #[3, 3]⟩, true, none⟩,
  ⟨some 2, .assign (.tmp 5), false, none⟩]) <|
 .seq (.keep [2]) <|
 .ret
theorem c122 : Try.f122.body.map (fun c => ((compile Try.prog kp122 [] kp122 c).map (·.1), fits Try.f122.ntmps c)) = some (some s122, true) := by kernel_rfl
theorem r122 : Try.f122.results.toList = [.tmp 2] := by kernel_rfl
-- marionette/inst.loads
abbrev kp123 : List Nat := [2]
def s123 : SC :=
 .seq (.ops [⟨some 2, .assign (.const (.int .i64 0)), false, none⟩]) <|
 .seq (.keep [0]) <|
 .seq (.ops [⟨some 3, .build 172 #[(0, (.const (.int .i64 11))), (1, (.const (.int .i64 12))), (2, (.const (.int .i64 13))), (3, (.const (.int .i64 14))), (4, (.const (.int .i64 15))), (5, (.const (.int .i64 16))), (6, (.const (.int .i64 17))), (7, (.const (.int .i64 0)))], false, none⟩,
  ⟨some 4, .move (.tmp 0), false, none⟩,
  ⟨some 5, .index 172 (.tmp 3) (.tmp 4), false, none⟩,
  ⟨some 2, .assign (.tmp 5), false, none⟩]) <|
 .seq (.keep [2]) <|
 .ret
theorem c123 : Try.f123.body.map (fun c => ((compile Try.prog kp123 [] kp123 c).map (·.1), fits Try.f123.ntmps c)) = some (some s123, true) := by kernel_rfl
theorem r123 : Try.f123.results.toList = [.tmp 2] := by kernel_rfl
-- marionette/inst.shiftImm
abbrev kp124 : List Nat := [10]
def s124 : SC :=
 .seq (.ops [⟨some 10, .alloc 34, true, none⟩]) <|
 .seq (.keep [0, 1, 2, 3, 4, 10]) <|
 .seq (.ops [⟨some 14, .move (.tmp 0), false, none⟩,
  ⟨some 15, .move (.tmp 4), false, none⟩,
  ⟨some 16, .binOp .add 3 (.const (.int .i64 20)) (.tmp 15) 3, false, none⟩,
  ⟨some 17, .move (.tmp 4), false, none⟩,
  ⟨some 18, .binOp .sub 3 (.const (.int .i64 12)) (.tmp 17) 3, false, none⟩,
  ⟨some 19, .call ⟨.value (.func 91), #[(.tmp 14), (.tmp 16), (.tmp 18)], #[133, 3, 3]⟩, true, none⟩,
  ⟨some 11, .assign (.tmp 19), false, none⟩]) <|
 .seq (.keep [0, 1, 2, 3, 4, 10, 11]) <|
 .seq (.ops [⟨some 20, .move (.tmp 0), false, none⟩,
  ⟨some 21, .move (.tmp 4), false, none⟩,
  ⟨some 22, .call ⟨.value (.func 91), #[(.tmp 20), (.const (.int .i64 20)), (.tmp 21)], #[133, 3, 3]⟩, true, none⟩,
  ⟨some 12, .assign (.tmp 22), false, none⟩]) <|
 .seq (.keep [0, 1, 2, 3, 4, 10, 11, 12]) <|
 .seq (.seq (.ops [⟨some 23, .move (.tmp 0), false, none⟩,
  ⟨some 24, .call ⟨.value (.func 91), #[(.tmp 23), (.const (.int .i64 12)), (.const (.int .i64 3))], #[133, 3, 3]⟩, true, none⟩,
  ⟨some 13, .assign (.tmp 24), false, none⟩]) <|
 .seq (.keep [1, 2, 3, 4, 10, 11, 12, 13]) <|
 .block 0 <| .seq (.ops [⟨some 26, .move (.tmp 13), false, none⟩,
  ⟨some 27, .binOp .eql 3 (.tmp 26) (.const (.int .i64 1)) 3, false, none⟩,
  ⟨some 28, .move (.tmp 27), false, none⟩,
  ⟨some 29, .move (.tmp 11), false, some (28, true)⟩,
  ⟨some 30, .binOp .eql 3 (.tmp 29) (.const (.int .i64 0)) 3, false, some (28, true)⟩,
  ⟨some 31, .pick (.tmp 28) (.tmp 30) (.const (.bool false)), false, none⟩,
  ⟨some 25, .assign (.tmp 31), false, none⟩]) <|
 .seq (.keep [1, 2, 3, 4, 10, 11, 12, 13, 25]) <|
 .cond (.tmp 25) (.seq (.ops [⟨some 32, .move (.tmp 1), false, none⟩,
  ⟨some 33, .move (.tmp 12), false, none⟩,
  ⟨some 34, .build 34 #[(0, (.tmp 32)), (4, (.tmp 33))], false, none⟩,
  ⟨none, .store 34 (.tmp 10) (.tmp 34), true, none⟩]) <|
 .seq (.keep [10]) <|
 .ret) <|
 .seq (.ops [⟨some 36, .move (.tmp 13), false, none⟩,
  ⟨some 37, .binOp .eql 3 (.tmp 36) (.const (.int .i64 5)) 3, false, none⟩,
  ⟨some 38, .move (.tmp 37), false, none⟩,
  ⟨some 39, .move (.tmp 11), false, some (38, true)⟩,
  ⟨some 40, .binOp .eql 3 (.tmp 39) (.const (.int .i64 0)) 3, false, some (38, true)⟩,
  ⟨some 41, .pick (.tmp 38) (.tmp 40) (.const (.bool false)), false, none⟩,
  ⟨some 35, .assign (.tmp 41), false, none⟩]) <|
 .seq (.keep [2, 3, 4, 10, 11, 12, 13, 35]) <|
 .cond (.tmp 35) (.seq (.ops [⟨some 42, .move (.tmp 2), false, none⟩,
  ⟨some 43, .move (.tmp 12), false, none⟩,
  ⟨some 44, .build 34 #[(0, (.tmp 42)), (4, (.tmp 43))], false, none⟩,
  ⟨none, .store 34 (.tmp 10) (.tmp 44), true, none⟩]) <|
 .seq (.keep [10]) <|
 .ret) <|
 .seq (.ops [⟨some 46, .move (.tmp 13), false, none⟩,
  ⟨some 47, .binOp .eql 3 (.tmp 46) (.const (.int .i64 5)) 3, false, none⟩,
  ⟨some 48, .move (.tmp 47), false, none⟩,
  ⟨some 49, .move (.tmp 11), false, some (48, true)⟩,
  ⟨some 50, .move (.tmp 4), false, some (48, true)⟩,
  ⟨some 51, .binOp .sub 3 (.const (.int .i64 10)) (.tmp 50) 3, false, some (48, true)⟩,
  ⟨some 52, .binOp .shl 3 (.const (.int .i64 1)) (.tmp 51) 3, false, some (48, true)⟩,
  ⟨some 53, .binOp .eql 3 (.tmp 49) (.tmp 52) 3, false, some (48, true)⟩,
  ⟨some 54, .pick (.tmp 48) (.tmp 53) (.const (.bool false)), false, none⟩,
  ⟨some 45, .assign (.tmp 54), false, none⟩]) <|
 .seq (.keep [3, 10, 12, 45]) <|
 .cond (.tmp 45) (.seq (.ops [⟨some 55, .move (.tmp 3), false, none⟩,
  ⟨some 56, .move (.tmp 12), false, none⟩,
  ⟨some 57, .build 34 #[(0, (.tmp 55)), (4, (.tmp 56))], false, none⟩,
  ⟨none, .store 34 (.tmp 10) (.tmp 57), true, none⟩]) <|
 .seq (.keep [10]) <|
 .ret) <|
 .skip) <|
 .seq (.keep [10]) <|
 .seq (.ops [⟨some 58, .build 34 #[], false, none⟩,
  ⟨none, .store 34 (.tmp 10) (.tmp 58), true, none⟩]) <|
 .seq (.keep [10]) <|
 .ret
theorem c124 : Try.f124.body.map (fun c => ((compile Try.prog kp124 [] kp124 c).map (·.1), fits Try.f124.ntmps c)) = some (some s124, true) := by kernel_rfl
theorem r124 : Try.f124.results.toList = [.cell 10 34] := by kernel_rfl
-- marionette/inst.plainImm
abbrev kp125 : List Nat := [2]
def s125 : SC :=
 .seq (.ops [⟨some 2, .assign (.const (.int .i64 0)), false, none⟩]) <|
 .seq (.keep [0]) <|
 .seq (.ops [⟨some 3, .build 172 #[(0, (.const (.int .i64 22))), (1, (.const (.int .i64 0))), (2, (.const (.int .i64 23))), (3, (.const (.int .i64 24))), (4, (.const (.int .i64 25))), (5, (.const (.int .i64 0))), (6, (.const (.int .i64 26))), (7, (.const (.int .i64 27)))], false, none⟩,
  ⟨some 4, .move (.tmp 0), false, none⟩,
  ⟨some 5, .index 172 (.tmp 3) (.tmp 4), false, none⟩,
  ⟨some 2, .assign (.tmp 5), false, none⟩]) <|
 .seq (.keep [2]) <|
 .ret
theorem c125 : Try.f125.body.map (fun c => ((compile Try.prog kp125 [] kp125 c).map (·.1), fits Try.f125.ntmps c)) = some (some s125, true) := by kernel_rfl
theorem r125 : Try.f125.results.toList = [.tmp 2] := by kernel_rfl
-- marionette/comp.signed
abbrev kp127 : List Nat := [4]
def s127 : SC :=
 .seq (.ops [⟨some 4, .assign (.const (.int .i64 0)), false, none⟩]) <|
 .seq (.keep [0, 1]) <|
 .seq (.ops [⟨some 5, .move (.tmp 0), false, none⟩,
  ⟨some 6, .convert 3 26 (.tmp 5), false, none⟩,
  ⟨some 7, .move (.tmp 1), false, none⟩,
  ⟨some 8, .call ⟨.value (.func 128), #[(.tmp 6), (.tmp 7)], #[26, 3]⟩, true, none⟩,
  ⟨some 9, .convert 26 2 (.tmp 8), false, none⟩,
  ⟨some 4, .assign (.tmp 9), false, none⟩]) <|
 .seq (.keep [4]) <|
 .ret
theorem c127 : Try.f127.body.map (fun c => ((compile Try.prog kp127 [] kp127 c).map (·.1), fits Try.f127.ntmps c)) = some (some s127, true) := by kernel_rfl
theorem r127 : Try.f127.results.toList = [.tmp 4] := by kernel_rfl
-- marionette/word.Sext
abbrev kp128 : List Nat := [4]
def s128 : SC :=
 .seq (.ops [⟨some 4, .assign (.const (.int .u64 0)), false, none⟩]) <|
 .seq (.keep [0, 1]) <|
 .seq (.seq (.ops [⟨some 5, .move (.tmp 1), false, none⟩,
  ⟨some 6, .binOp .lss 3 (.tmp 5) (.const (.int .i64 1)) 3, false, none⟩,
  ⟨some 7, .move (.tmp 6), false, none⟩,
  ⟨some 8, .move (.tmp 1), false, some (7, false)⟩,
  ⟨some 9, .binOp .gtr 3 (.tmp 8) (.const (.int .i64 64)) 3, false, some (7, false)⟩,
  ⟨some 10, .pick (.tmp 7) (.const (.bool true)) (.tmp 9), false, none⟩]) <|
 .seq (.keep [0, 1, 10]) <|
 .cond (.tmp 10) (.seq (.ops [⟨some 11, .move (.tmp 0), false, none⟩,
  ⟨some 4, .assign (.tmp 11), false, none⟩]) <|
 .seq (.keep [4]) <|
 .ret) <|
 .skip) <|
 .seq (.keep [0, 1]) <|
 .seq (.ops [⟨some 12, .move (.tmp 0), false, none⟩,
  ⟨some 13, .move (.tmp 1), false, none⟩,
  ⟨some 14, .binOp .sub 3 (.const (.int .i64 64)) (.tmp 13) 3, false, none⟩,
  ⟨some 15, .binOp .shl 26 (.tmp 12) (.tmp 14) 3, false, none⟩,
  ⟨some 16, .convert 26 2 (.tmp 15), false, none⟩,
  ⟨some 17, .move (.tmp 1), false, none⟩,
  ⟨some 18, .binOp .sub 3 (.const (.int .i64 64)) (.tmp 17) 3, false, none⟩,
  ⟨some 19, .binOp .shr 2 (.tmp 16) (.tmp 18) 3, false, none⟩,
  ⟨some 20, .convert 2 26 (.tmp 19), false, none⟩,
  ⟨some 4, .assign (.tmp 20), false, none⟩]) <|
 .seq (.keep [4]) <|
 .ret
theorem c128 : Try.f128.body.map (fun c => ((compile Try.prog kp128 [] kp128 c).map (·.1), fits Try.f128.ntmps c)) = some (some s128, true) := by kernel_rfl
theorem r128 : Try.f128.results.toList = [.tmp 4] := by kernel_rfl
end Go.SX.G
