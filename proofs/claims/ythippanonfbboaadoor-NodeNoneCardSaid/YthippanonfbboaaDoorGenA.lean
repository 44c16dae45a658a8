/- The compiled texts of the functions that are walked here, each checked against the loaded program; facts on its types. Printed by a program of this session. -/
import Derived.Test.YthippanonfbboaaDoorSxSimp
import Derived.Test.YthippanonfbboaaDoorProg
set_option linter.unusedVariables false
namespace Go.SX.G
open Go Go.SX Go.Proofs
theorem mixed : Tryd.prog.follows .mixedOrders = true := by kernel_rfl
theorem by5 : byP Tryd.prog 5 = some 1 := by kernel_rfl
theorem by59 : byP Tryd.prog 59 = some 32 := by kernel_rfl
theorem by74 : byP Tryd.prog 74 = some 56 := by kernel_rfl
theorem by87 : byP Tryd.prog 87 = some 8 := by kernel_rfl
theorem fo38_3 : foff Tryd.prog 38 3 = some 3 := by kernel_rfl
theorem fo38_4 : foff Tryd.prog 38 4 = some 4 := by kernel_rfl
theorem fo52_0 : foff Tryd.prog 52 0 = some 0 := by kernel_rfl
theorem fo52_1 : foff Tryd.prog 52 1 = some 1 := by kernel_rfl
theorem fo52_2 : foff Tryd.prog 52 2 = some 2 := by kernel_rfl
theorem fo52_3 : foff Tryd.prog 52 3 = some 3 := by kernel_rfl
theorem fo52_4 : foff Tryd.prog 52 4 = some 4 := by kernel_rfl
theorem fo52_5 : foff Tryd.prog 52 5 = some 5 := by kernel_rfl
theorem fo52_6 : foff Tryd.prog 52 6 = some 6 := by kernel_rfl
theorem fo52_7 : foff Tryd.prog 52 7 = some 7 := by kernel_rfl
theorem fo52_8 : foff Tryd.prog 52 8 = some 8 := by kernel_rfl
theorem fo59_0 : foff Tryd.prog 59 0 = some 0 := by kernel_rfl
theorem fo59_1 : foff Tryd.prog 59 1 = some 1 := by kernel_rfl
theorem fo59_2 : foff Tryd.prog 59 2 = some 2 := by kernel_rfl
theorem fo69_0 : foff Tryd.prog 69 0 = some 0 := by kernel_rfl
theorem fo69_1 : foff Tryd.prog 69 1 = some 1 := by kernel_rfl
theorem fo69_2 : foff Tryd.prog 69 2 = some 2 := by kernel_rfl
theorem fo69_3 : foff Tryd.prog 69 3 = some 3 := by kernel_rfl
theorem fo69_4 : foff Tryd.prog 69 4 = some 4 := by kernel_rfl
theorem fo69_5 : foff Tryd.prog 69 5 = some 5 := by kernel_rfl
theorem fo69_6 : foff Tryd.prog 69 6 = some 6 := by kernel_rfl
theorem fo72_0 : foff Tryd.prog 72 0 = some 0 := by kernel_rfl
theorem fo89_0 : foff Tryd.prog 89 0 = some 0 := by kernel_rfl
theorem fo89_1 : foff Tryd.prog 89 1 = some 1 := by kernel_rfl
theorem fo89_2 : foff Tryd.prog 89 2 = some 2 := by kernel_rfl
theorem fo89_3 : foff Tryd.prog 89 3 = some 3 := by kernel_rfl
theorem fo89_4 : foff Tryd.prog 89 4 = some 4 := by kernel_rfl
theorem fo89_5 : foff Tryd.prog 89 5 = some 5 := by kernel_rfl
theorem fo89_6 : foff Tryd.prog 89 6 = some 6 := by kernel_rfl
theorem fo89_7 : foff Tryd.prog 89 7 = some 7 := by kernel_rfl
theorem fo92_0 : foff Tryd.prog 92 0 = some 0 := by kernel_rfl
theorem pl38_0 : place Tryd.prog 38 0 = some (0, 1) := by kernel_rfl
theorem pl38_1 : place Tryd.prog 38 1 = some (1, 1) := by kernel_rfl
theorem pl38_2 : place Tryd.prog 38 2 = some (2, 1) := by kernel_rfl
theorem pl38_3 : place Tryd.prog 38 3 = some (3, 1) := by kernel_rfl
theorem pl38_4 : place Tryd.prog 38 4 = some (4, 1) := by kernel_rfl
theorem pl59_0 : place Tryd.prog 59 0 = some (0, 1) := by kernel_rfl
theorem pl59_1 : place Tryd.prog 59 1 = some (1, 1) := by kernel_rfl
theorem pl59_2 : place Tryd.prog 59 2 = some (2, 1) := by kernel_rfl
theorem pl69_0 : place Tryd.prog 69 0 = some (0, 1) := by kernel_rfl
theorem pl69_1 : place Tryd.prog 69 1 = some (1, 1) := by kernel_rfl
theorem pl69_2 : place Tryd.prog 69 2 = some (2, 1) := by kernel_rfl
theorem pl69_4 : place Tryd.prog 69 4 = some (4, 1) := by kernel_rfl
theorem pl69_5 : place Tryd.prog 69 5 = some (5, 1) := by kernel_rfl
theorem pl72_0 : place Tryd.prog 72 0 = some (0, 1) := by kernel_rfl
theorem pl89_0 : place Tryd.prog 89 0 = some (0, 1) := by kernel_rfl
theorem pl89_1 : place Tryd.prog 89 1 = some (1, 1) := by kernel_rfl
theorem pl89_2 : place Tryd.prog 89 2 = some (2, 1) := by kernel_rfl
theorem pl89_3 : place Tryd.prog 89 3 = some (3, 1) := by kernel_rfl
theorem pl89_5 : place Tryd.prog 89 5 = some (5, 1) := by kernel_rfl
theorem pl89_6 : place Tryd.prog 89 6 = some (6, 1) := by kernel_rfl
theorem pl92_0 : place Tryd.prog 92 0 = some (0, 1) := by kernel_rfl
theorem sd38 : sized Tryd.prog 38 = true := by kernel_rfl
theorem sd59 : sized Tryd.prog 59 = true := by kernel_rfl
theorem sd69 : sized Tryd.prog 69 = true := by kernel_rfl
theorem sd72 : sized Tryd.prog 72 = true := by kernel_rfl
theorem sd89 : sized Tryd.prog 89 = true := by kernel_rfl
theorem sd92 : sized Tryd.prog 92 = true := by kernel_rfl
theorem sh23 : shP Tryd.prog 23 = some .one := by kernel_rfl
theorem sh3 : shP Tryd.prog 3 = some .one := by kernel_rfl
theorem sh38 : shP Tryd.prog 38 = some (.agg 5) := by kernel_rfl
theorem sh4 : shP Tryd.prog 4 = some .one := by kernel_rfl
theorem sh5 : shP Tryd.prog 5 = some .one := by kernel_rfl
theorem sh52 : shP Tryd.prog 52 = some (.agg 9) := by kernel_rfl
theorem sh55 : shP Tryd.prog 55 = some .one := by kernel_rfl
theorem sh59 : shP Tryd.prog 59 = some (.agg 3) := by kernel_rfl
theorem sh70 : shP Tryd.prog 70 = some .one := by kernel_rfl
theorem sh74 : shP Tryd.prog 74 = some (.agg 4) := by kernel_rfl
theorem sh87 : shP Tryd.prog 87 = some .one := by kernel_rfl
theorem sh9 : shP Tryd.prog 9 = some .one := by kernel_rfl
theorem sh90 : shP Tryd.prog 90 = some .one := by kernel_rfl
theorem sl23 : slE Tryd.prog 23 = some (5, 1) := by kernel_rfl
theorem sl55 : slE Tryd.prog 55 = some (59, 3) := by kernel_rfl
theorem sl66 : slE Tryd.prog 66 = some (74, 4) := by kernel_rfl
theorem sl90 : slE Tryd.prog 90 = some (87, 1) := by kernel_rfl
theorem sz23 : szP Tryd.prog 23 = some 1 := by kernel_rfl
theorem sz3 : szP Tryd.prog 3 = some 1 := by kernel_rfl
theorem sz38 : szP Tryd.prog 38 = some 5 := by kernel_rfl
theorem sz5 : szP Tryd.prog 5 = some 1 := by kernel_rfl
theorem sz55 : szP Tryd.prog 55 = some 1 := by kernel_rfl
theorem sz59 : szP Tryd.prog 59 = some 3 := by kernel_rfl
theorem sz74 : szP Tryd.prog 74 = some 4 := by kernel_rfl
theorem sz87 : szP Tryd.prog 87 = some 1 := by kernel_rfl
theorem sz90 : szP Tryd.prog 90 = some 1 := by kernel_rfl
theorem zc38 : zc Tryd.prog 38 = some [(.int .i64 0), (.int .i64 0), (.int .i64 0), (.int .i64 0), (.int .i64 0)] := by kernel_rfl
theorem zc59 : zc Tryd.prog 59 = some [(.string ⟨#[]⟩), (.int .i64 0), (.int .i64 0)] := by kernel_rfl
theorem zc69 : zc Tryd.prog 69 = some [(.int .i64 0), (.int .i64 0), (.slice none 0 0), (.slice none 0 0), (.int .i64 0), (.int .i64 0), (.int .i64 0)] := by kernel_rfl
theorem zc72 : zc Tryd.prog 72 = some [(.map none)] := by kernel_rfl
theorem zc74 : zc Tryd.prog 74 = some [(.string ⟨#[]⟩), (.int .i64 0), (.int .i64 0), (.slice none 0 0)] := by kernel_rfl
theorem zc89 : zc Tryd.prog 89 = some [(.int .i64 0), (.int .i64 0), (.int .i64 0), (.slice none 0 0), (.slice none 0 0), (.int .i64 0), (.int .i64 0), (.int .i64 0)] := by kernel_rfl
theorem zc92 : zc Tryd.prog 92 = some [(.slice none 0 0)] := by kernel_rfl
theorem ze5 : zeroP Tryd.prog 5 = some (.int .u8 0) := by kernel_rfl
theorem ze59 : zeroP Tryd.prog 59 = some (.agg #[(.string ⟨#[]⟩), (.int .i64 0), (.int .i64 0)]) := by kernel_rfl
theorem ze67 : zeroP Tryd.prog 67 = some (.pointer none) := by kernel_rfl
theorem ze74 : zeroP Tryd.prog 74 = some (.agg #[(.string ⟨#[]⟩), (.int .i64 0), (.int .i64 0), (.slice none 0 0)]) := by kernel_rfl
theorem ze87 : zeroP Tryd.prog 87 = some (.pointer none) := by kernel_rfl
-- marionette/marionettelaw15.NodeNone
abbrev kp6 : List Nat := [2]
def s6 : SC :=
 .seq (.ops [⟨some 1, .box 52 (.tmp 0), true, none⟩,
  ⟨some 2, .assign (.const (.bool false)), false, none⟩]) <|
 .seq (.keep [1]) <|
 .seq (.ops [⟨some 3, .assign (.const (.pointer none)), false, none⟩]) <|
 .seq (.keep [1, 3]) <|
 .seq (.seq (.ops [⟨some 12, .load 52 (.tmp 1), false, none⟩,
  ⟨some 13, .call ⟨.value (.func 18), #[(.tmp 12)], #[52]⟩, true, none⟩,
  ⟨some 14, .unOp .not 4 (.tmp 13), false, none⟩]) <|
 .seq (.keep [1, 3, 14]) <|
 .cond (.tmp 14) (.seq (.ops [⟨some 15, .call ⟨.value (.func 8), #[], #[]⟩, true, none⟩,
  ⟨some 2, .assign (.tmp 15), false, none⟩]) <|
 .seq (.keep [2]) <|
 .ret) <|
 .skip) <|
 .seq (.keep [1, 3]) <|
 .seq (.ops [⟨some 17, .move (.tmp 3), false, none⟩,
  ⟨some 18, .fieldAddr 52 (.tmp 1) 1, false, none⟩,
  ⟨some 19, .load 3 (.tmp 18), false, none⟩,
  ⟨some 20, .call ⟨.value (.func 14), #[(.tmp 17), (.tmp 19)], #[25, 3]⟩, true, none⟩,
  ⟨some 16, .move (.tmp 20), false, none⟩,
  ⟨some 21, .extract (.tmp 16) 0, false, none⟩,
  ⟨some 22, .extract (.tmp 16) 1, false, none⟩,
  ⟨some 4, .alloc 38, true, none⟩,
  ⟨none, .store 38 (.tmp 4) (.tmp 21), true, none⟩,
  ⟨some 5, .assign (.tmp 22), false, none⟩]) <|
 .seq (.keep [1, 3, 5]) <|
 .seq (.ops [⟨some 24, .move (.tmp 3), false, none⟩,
  ⟨some 25, .fieldAddr 52 (.tmp 1) 1, false, none⟩,
  ⟨some 26, .load 3 (.tmp 25), false, none⟩,
  ⟨some 27, .call ⟨.value (.func 20), #[(.tmp 24), (.tmp 26)], #[25, 3]⟩, true, none⟩,
  ⟨some 23, .move (.tmp 27), false, none⟩,
  ⟨some 28, .extract (.tmp 23) 0, false, none⟩,
  ⟨some 29, .extract (.tmp 23) 1, false, none⟩,
  ⟨some 6, .assign (.tmp 28), false, none⟩,
  ⟨some 7, .assign (.tmp 29), false, none⟩]) <|
 .seq (.keep [1, 3, 5, 7]) <|
 .seq (.seq (.ops [⟨some 31, .move (.tmp 3), false, none⟩]) <|
 .amb (.seq (.ops [⟨some 32, .call ⟨.value (.func 17), #[], #[]⟩, true, none⟩]) <|
 .seq (.ops [⟨some 33, .load 52 (.tmp 1), false, none⟩]) <|
 .seq (.ops [⟨some 34, .call ⟨.value (.func 19), #[(.tmp 31), (.tmp 32), (.tmp 33)], #[25, 48, 52]⟩, true, none⟩]) <|
 .seq (.ops [⟨some 30, .move (.tmp 34), false, none⟩]) <|
 .seq (.ops [⟨some 35, .extract (.tmp 30) 0, false, none⟩]) <|
 .seq (.ops [⟨some 36, .extract (.tmp 30) 1, false, none⟩]) <|
 .seq (.ops [⟨some 8, .assign (.tmp 35), false, none⟩]) <|
 .seq (.ops [⟨some 9, .assign (.tmp 36), false, none⟩]) <|
 .skip) (.seq (.ops [⟨some 33, .load 52 (.tmp 1), false, none⟩]) <|
 .seq (.ops [⟨some 32, .call ⟨.value (.func 17), #[], #[]⟩, true, none⟩]) <|
 .seq (.ops [⟨some 34, .call ⟨.value (.func 19), #[(.tmp 31), (.tmp 32), (.tmp 33)], #[25, 48, 52]⟩, true, none⟩]) <|
 .seq (.ops [⟨some 30, .move (.tmp 34), false, none⟩]) <|
 .seq (.ops [⟨some 35, .extract (.tmp 30) 0, false, none⟩]) <|
 .seq (.ops [⟨some 36, .extract (.tmp 30) 1, false, none⟩]) <|
 .seq (.ops [⟨some 8, .assign (.tmp 35), false, none⟩]) <|
 .seq (.ops [⟨some 9, .assign (.tmp 36), false, none⟩]) <|
 .skip)) <|
 .seq (.keep [1, 3, 5, 7, 8]) <|
 .seq (.ops [⟨some 37, .call ⟨.value (.func 23), #[(.const (.int .i64 0)), (.const (.int .i64 2)), (.const (.slice none 0 0))], #[3, 26, 23]⟩, true, none⟩,
  ⟨some 10, .assign (.tmp 37), false, none⟩]) <|
 .seq (.keep [1, 3, 5, 7, 8, 10]) <|
 .seq (.ops [⟨some 38, .move (.tmp 3), false, none⟩,
  ⟨some 39, .call ⟨.value (.func 24), #[(.tmp 38), (.const (.int .i64 1))], #[25, 3]⟩, true, none⟩]) <|
 .seq (.keep [1, 3, 5, 7, 8, 10]) <|
 .seq (.ops [⟨some 40, .move (.tmp 3), false, none⟩,
  ⟨some 41, .call ⟨.value (.func 25), #[(.tmp 40), (.const (.int .i64 1))], #[25, 3]⟩, true, none⟩]) <|
 .seq (.keep [1, 3, 5, 7, 8, 10]) <|
 .seq (.ops [⟨some 42, .fieldAddr 52 (.tmp 1) 0, false, none⟩,
  ⟨some 43, .load 3 (.tmp 42), false, none⟩,
  ⟨some 44, .binOp .lss 3 (.tmp 43) (.const (.int .i64 1)) 3, false, none⟩,
  ⟨some 45, .move (.tmp 44), false, none⟩,
  ⟨some 46, .fieldAddr 52 (.tmp 1) 0, false, some (45, false)⟩,
  ⟨some 47, .load 3 (.tmp 46), false, some (45, false)⟩,
  ⟨some 48, .binOp .gtr 3 (.tmp 47) (.const (.int .i64 12)) 3, false, some (45, false)⟩,
  ⟨some 49, .pick (.tmp 45) (.const (.bool true)) (.tmp 48), false, none⟩,
  ⟨some 50, .move (.tmp 49), false, none⟩,
  ⟨some 51, .fieldAddr 52 (.tmp 1) 0, false, some (50, false)⟩,
  ⟨some 52, .load 3 (.tmp 51), false, some (50, false)⟩,
  ⟨some 53, .binOp .eql 3 (.tmp 52) (.const (.int .i64 9)) 3, false, some (50, false)⟩,
  ⟨some 54, .pick (.tmp 50) (.const (.bool true)) (.tmp 53), false, none⟩,
  ⟨some 55, .move (.tmp 54), false, none⟩,
  ⟨some 56, .fieldAddr 52 (.tmp 1) 0, false, some (55, false)⟩,
  ⟨some 57, .load 3 (.tmp 56), false, some (55, false)⟩,
  ⟨some 58, .binOp .eql 3 (.tmp 57) (.const (.int .i64 10)) 3, false, some (55, false)⟩,
  ⟨some 59, .pick (.tmp 55) (.const (.bool true)) (.tmp 58), false, none⟩,
  ⟨some 11, .assign (.tmp 59), false, none⟩]) <|
 .seq (.keep [1, 3, 5, 7, 8, 10, 11]) <|
 .seq (.ops [⟨some 60, .call ⟨.value (.func 8), #[], #[]⟩, true, none⟩,
  ⟨some 61, .move (.tmp 60), false, none⟩,
  ⟨some 62, .move (.tmp 5), false, some (61, true)⟩,
  ⟨some 63, .unOp .not 4 (.tmp 62), false, some (61, true)⟩,
  ⟨some 64, .pick (.tmp 61) (.tmp 63) (.const (.bool false)), false, none⟩,
  ⟨some 65, .move (.tmp 64), false, none⟩,
  ⟨some 66, .move (.tmp 7), false, some (65, true)⟩,
  ⟨some 67, .binOp .eql 26 (.tmp 66) (.const (.int .i64 2)) 26, false, some (65, true)⟩,
  ⟨some 68, .pick (.tmp 65) (.tmp 67) (.const (.bool false)), false, none⟩,
  ⟨some 69, .move (.tmp 68), false, none⟩,
  ⟨some 70, .move (.tmp 11), false, some (69, true)⟩,
  ⟨some 71, .move (.tmp 70), false, some (69, true)⟩,
  ⟨some 72, .move (.tmp 8), false, some (71, false)⟩,
  ⟨some 73, .move (.tmp 10), false, some (71, false)⟩,
  ⟨some 74, .binOp .eql 9 (.tmp 72) (.tmp 73) 9, false, some (71, false)⟩,
  ⟨some 75, .pick (.tmp 71) (.const (.bool true)) (.tmp 74), false, some (69, true)⟩,
  ⟨some 76, .pick (.tmp 69) (.tmp 75) (.const (.bool false)), false, none⟩,
  ⟨some 77, .move (.tmp 76), false, none⟩,
  ⟨some 78, .move (.tmp 3), false, some (77, true)⟩,
  ⟨some 79, .fieldAddr 52 (.tmp 1) 1, false, some (77, true)⟩,
  ⟨some 80, .load 3 (.tmp 79), false, some (77, true)⟩,
  ⟨some 81, .call ⟨.value (.func 21), #[(.tmp 78), (.tmp 80)], #[25, 3]⟩, true, some (77, true)⟩,
  ⟨some 82, .binOp .eql 3 (.tmp 81) (.const (.int .i64 0)) 3, false, some (77, true)⟩,
  ⟨some 83, .pick (.tmp 77) (.tmp 82) (.const (.bool false)), false, none⟩,
  ⟨some 84, .move (.tmp 83), false, none⟩,
  ⟨some 85, .move (.tmp 3), false, some (84, true)⟩,
  ⟨some 86, .call ⟨.value (.func 26), #[(.tmp 85)], #[25]⟩, true, some (84, true)⟩,
  ⟨some 87, .binOp .eql 3 (.tmp 86) (.const (.int .i64 0)) 3, false, some (84, true)⟩,
  ⟨some 88, .pick (.tmp 84) (.tmp 87) (.const (.bool false)), false, none⟩,
  ⟨some 2, .assign (.tmp 88), false, none⟩]) <|
 .seq (.keep [2]) <|
 .ret
theorem c6 : Tryd.f6.body.map (fun c => ((compile Tryd.prog kp6 [] kp6 c).map (·.1), fits Tryd.f6.ntmps c)) = some (some s6, true) := by kernel_rfl
theorem r6 : Tryd.f6.results.toList = [.tmp 2] := by kernel_rfl
-- marionette/node.New
abbrev kp7 : List Nat := [2, 3]
def s7 : SC :=
 .seq (.ops [⟨some 2, .assign (.const (.pointer none)), false, none⟩,
  ⟨some 3, .assign (.const (.int .i64 0)), false, none⟩]) <|
 .seq (.keep [0]) <|
 .seq (.ops [⟨some 8, .makeMap 70 none, true, none⟩,
  ⟨some 9, .build 69 #[(0, (.const (.int .i64 2))), (1, (.const (.int .i64 493))), (4, (.const (.int .i64 1)))], false, none⟩,
  ⟨some 10, .box 69 (.tmp 9), true, none⟩,
  ⟨none, .insert 70 (.tmp 8) (.const (.int .i64 1)) (.tmp 10), true, none⟩,
  ⟨some 11, .move (.tmp 8), false, none⟩,
  ⟨some 12, .build 72 #[(0, (.tmp 11))], false, none⟩,
  ⟨some 13, .box 72 (.tmp 12), true, none⟩,
  ⟨some 4, .assign (.tmp 13), false, none⟩]) <|
 .seq (.keep [0, 4]) <|
 .seq (.seq (.ops [⟨some 14, .move (.tmp 0), false, none⟩,
  ⟨some 15, .call ⟨.builtin .len, #[(.tmp 14)], #[66]⟩, false, none⟩,
  ⟨some 16, .move (.const (.int .i64 0)), false, none⟩]) <|
 .seq (.keep [4, 14, 15, 16]) <|
 .block 0 <| .loop <| .seq (.seq (.ops [⟨some 17, .binOp .lss 3 (.tmp 16) (.tmp 15) 3, false, none⟩]) <|
 .seq (.keep [4, 14, 15, 16, 17]) <|
 .seq (.cond (.tmp 17) (.skip) <|
 .exit 0) <|
 .seq (.keep [4, 14, 15, 16]) <|
 .seq (.block 1 <| .seq (.ops [⟨some 18, .indexAddr 66 (.tmp 14) (.tmp 16), false, none⟩,
  ⟨some 19, .load 74 (.tmp 18), false, none⟩,
  ⟨some 6, .alloc 74, true, none⟩,
  ⟨none, .store 74 (.tmp 6) (.tmp 19), true, none⟩]) <|
 .seq (.keep [4, 6, 14, 15, 16]) <|
 .seq (.ops [⟨some 20, .move (.tmp 4), false, none⟩,
  ⟨some 21, .load 74 (.tmp 6), false, none⟩,
  ⟨some 22, .call ⟨.value (.func 27), #[(.tmp 20), (.tmp 21)], #[25, 74]⟩, true, none⟩,
  ⟨some 7, .assign (.tmp 22), false, none⟩]) <|
 .seq (.keep [4, 7, 14, 15, 16]) <|
 .seq (.ops [⟨some 23, .move (.tmp 7), false, none⟩,
  ⟨some 24, .binOp .neq 26 (.tmp 23) (.const (.int .i64 0)) 26, false, none⟩]) <|
 .seq (.keep [4, 7, 14, 15, 16, 24]) <|
 .cond (.tmp 24) (.seq (.ops [⟨some 25, .move (.tmp 7), false, none⟩,
  ⟨some 2, .assign (.const (.pointer none)), false, none⟩,
  ⟨some 3, .assign (.tmp 25), false, none⟩]) <|
 .seq (.keep [2, 3]) <|
 .ret) <|
 .skip) <|
 .seq (.keep [4, 14, 15, 16]) <|
 .ops [⟨some 26, .binOp .add 3 (.tmp 16) (.const (.int .i64 1)) 3, false, none⟩,
  ⟨some 16, .move (.tmp 26), false, none⟩]) <|
 .keep [4, 14, 15, 16]) <|
 .seq (.keep [4]) <|
 .seq (.ops [⟨some 27, .move (.tmp 4), false, none⟩,
  ⟨some 2, .assign (.tmp 27), false, none⟩,
  ⟨some 3, .assign (.const (.int .i64 0)), false, none⟩]) <|
 .seq (.keep [2, 3]) <|
 .ret
theorem c7 : Tryd.f7.body.map (fun c => ((compile Tryd.prog kp7 [] kp7 c).map (·.1), fits Tryd.f7.ntmps c)) = some (some s7, true) := by kernel_rfl
theorem r7 : Tryd.f7.results.toList = [.tmp 2, .tmp 3] := by kernel_rfl
-- marionette/marionettelaw15.answers
abbrev kp8 : List Nat := [0]
def s8 : SC :=
 .seq (.ops [⟨some 0, .assign (.const (.bool false)), false, none⟩]) <|
 .seq (.keep []) <|
 .seq (.ops [⟨some 6, .call ⟨.value (.func 7), #[(.const (.slice none 0 0))], #[66]⟩, true, none⟩,
  ⟨some 5, .move (.tmp 6), false, none⟩,
  ⟨some 7, .extract (.tmp 5) 0, false, none⟩,
  ⟨some 8, .extract (.tmp 5) 1, false, none⟩,
  ⟨some 1, .assign (.tmp 7), false, none⟩,
  ⟨some 2, .assign (.tmp 8), false, none⟩]) <|
 .seq (.keep [1, 2]) <|
 .seq (.seq (.ops [⟨some 9, .move (.tmp 2), false, none⟩,
  ⟨some 10, .binOp .neq 26 (.tmp 9) (.const (.int .i64 0)) 26, false, none⟩,
  ⟨some 11, .move (.tmp 10), false, none⟩,
  ⟨some 12, .move (.tmp 1), false, some (11, false)⟩,
  ⟨some 13, .binOp .eql 25 (.tmp 12) (.const (.pointer none)) 25, false, some (11, false)⟩,
  ⟨some 14, .pick (.tmp 11) (.const (.bool true)) (.tmp 13), false, none⟩]) <|
 .seq (.keep [1, 14]) <|
 .cond (.tmp 14) (.seq (.ops [⟨some 0, .assign (.const (.bool false)), false, none⟩]) <|
 .seq (.keep [0]) <|
 .ret) <|
 .skip) <|
 .seq (.keep [1]) <|
 .seq (.ops [⟨some 16, .move (.tmp 1), false, none⟩,
  ⟨some 17, .buildSlice 23 1 #[(0, (.const (.int .u8 120)))], true, none⟩,
  ⟨some 18, .convert 23 23 (.tmp 17), true, none⟩,
  ⟨some 19, .call ⟨.value (.func 9), #[(.tmp 16), (.const (.int .i64 1)), (.const (.string ⟨#[97]⟩)), (.const (.int .i64 1)), (.const (.int .i64 420)), (.tmp 18)], #[25, 3, 9, 3, 3, 23]⟩, true, none⟩,
  ⟨some 15, .move (.tmp 19), false, none⟩,
  ⟨some 20, .extract (.tmp 15) 0, false, none⟩,
  ⟨some 21, .extract (.tmp 15) 1, false, none⟩,
  ⟨some 3, .assign (.tmp 20), false, none⟩,
  ⟨some 4, .assign (.tmp 21), false, none⟩]) <|
 .seq (.keep [1, 3, 4]) <|
 .seq (.ops [⟨some 22, .move (.tmp 4), false, none⟩,
  ⟨some 23, .binOp .eql 26 (.tmp 22) (.const (.int .i64 0)) 26, false, none⟩,
  ⟨some 24, .move (.tmp 23), false, none⟩,
  ⟨some 25, .move (.tmp 3), false, some (24, true)⟩,
  ⟨some 26, .binOp .eql 3 (.tmp 25) (.const (.int .i64 2)) 3, false, some (24, true)⟩,
  ⟨some 27, .pick (.tmp 24) (.tmp 26) (.const (.bool false)), false, none⟩,
  ⟨some 28, .move (.tmp 27), false, none⟩,
  ⟨some 29, .move (.tmp 1), false, some (28, true)⟩,
  ⟨some 30, .call ⟨.value (.func 26), #[(.tmp 29)], #[25]⟩, true, some (28, true)⟩,
  ⟨some 31, .binOp .eql 3 (.tmp 30) (.const (.int .i64 2)) 3, false, some (28, true)⟩,
  ⟨some 32, .pick (.tmp 28) (.tmp 31) (.const (.bool false)), false, none⟩,
  ⟨some 0, .assign (.tmp 32), false, none⟩]) <|
 .seq (.keep [0]) <|
 .ret
theorem c8 : Tryd.f8.body.map (fun c => ((compile Tryd.prog kp8 [] kp8 c).map (·.1), fits Tryd.f8.ntmps c)) = some (some s8, true) := by kernel_rfl
theorem r8 : Tryd.f8.results.toList = [.tmp 0] := by kernel_rfl
-- (*marionette/node.Tree).Make
abbrev kp9 : List Nat := [12, 13]
def s9 : SC :=
 .seq (.ops [⟨some 12, .assign (.const (.int .i64 0)), false, none⟩,
  ⟨some 13, .assign (.const (.int .i64 0)), false, none⟩]) <|
 .seq (.keep [0, 1, 2, 3, 4, 5]) <|
 .seq (.ops [⟨some 19, .move (.tmp 0), false, none⟩,
  ⟨some 20, .move (.tmp 1), false, none⟩,
  ⟨some 21, .move (.tmp 2), false, none⟩,
  ⟨some 22, .call ⟨.value (.func 28), #[(.tmp 19), (.tmp 20), (.tmp 21)], #[25, 3, 9]⟩, true, none⟩,
  ⟨some 18, .move (.tmp 22), false, none⟩,
  ⟨some 23, .extract (.tmp 18) 0, false, none⟩,
  ⟨some 24, .extract (.tmp 18) 1, false, none⟩,
  ⟨some 14, .assign (.tmp 23), false, none⟩,
  ⟨some 15, .assign (.tmp 24), false, none⟩]) <|
 .seq (.keep [0, 1, 2, 3, 4, 5, 14, 15]) <|
 .seq (.block 0 <| .seq (.seq (.ops [⟨some 26, .move (.tmp 15), false, none⟩,
  ⟨some 27, .binOp .eql 26 (.tmp 26) (.const (.int .i64 2)) 26, false, none⟩,
  ⟨some 28, .move (.tmp 27), false, none⟩,
  ⟨some 29, .move (.tmp 0), false, some (28, true)⟩,
  ⟨some 30, .move (.tmp 1), false, some (28, true)⟩,
  ⟨some 31, .call ⟨.value (.func 29), #[(.tmp 29), (.tmp 30)], #[25, 3]⟩, true, some (28, true)⟩,
  ⟨some 32, .binOp .eql 67 (.tmp 31) (.const (.pointer none)) 67, false, some (28, true)⟩,
  ⟨some 33, .pick (.tmp 28) (.tmp 32) (.const (.bool false)), false, none⟩,
  ⟨some 25, .assign (.tmp 33), false, none⟩]) <|
 .seq (.keep [0, 1, 2, 3, 4, 5, 14, 15, 25]) <|
 .cond (.tmp 25) (.skip) <|
 .ops [⟨some 34, .move (.tmp 15), false, none⟩,
  ⟨some 35, .binOp .eql 26 (.tmp 34) (.const (.int .i64 20)) 26, false, none⟩,
  ⟨some 25, .assign (.tmp 35), false, none⟩]) <|
 .seq (.keep [0, 1, 2, 3, 4, 5, 14, 15, 25]) <|
 .cond (.tmp 25) (.seq (.ops [⟨some 36, .move (.tmp 15), false, none⟩,
  ⟨some 12, .assign (.const (.int .i64 0)), false, none⟩,
  ⟨some 13, .assign (.tmp 36), false, none⟩]) <|
 .seq (.keep [12, 13]) <|
 .ret) <|
 .seq (.ops [⟨some 38, .move (.tmp 3), false, none⟩,
  ⟨some 39, .move (.tmp 4), false, none⟩,
  ⟨some 40, .move (.tmp 5), false, none⟩,
  ⟨some 41, .call ⟨.value (.func 30), #[(.tmp 38), (.tmp 39), (.tmp 40)], #[3, 3, 23]⟩, true, none⟩,
  ⟨some 42, .unOp .not 4 (.tmp 41), false, none⟩,
  ⟨some 37, .assign (.tmp 42), false, none⟩]) <|
 .seq (.keep [0, 1, 2, 3, 4, 5, 14, 15, 37]) <|
 .cond (.tmp 37) (.seq (.ops [⟨some 12, .assign (.const (.int .i64 0)), false, none⟩,
  ⟨some 13, .assign (.const (.int .i64 22)), false, none⟩]) <|
 .seq (.keep [12, 13]) <|
 .ret) <|
 .seq (.ops [⟨some 44, .move (.tmp 15), false, none⟩,
  ⟨some 45, .binOp .neq 26 (.tmp 44) (.const (.int .i64 0)) 26, false, none⟩,
  ⟨some 43, .assign (.tmp 45), false, none⟩]) <|
 .seq (.keep [0, 1, 2, 3, 4, 5, 14, 15, 43]) <|
 .cond (.tmp 43) (.seq (.ops [⟨some 46, .move (.tmp 15), false, none⟩,
  ⟨some 12, .assign (.const (.int .i64 0)), false, none⟩,
  ⟨some 13, .assign (.tmp 46), false, none⟩]) <|
 .seq (.keep [12, 13]) <|
 .ret) <|
 .seq (.ops [⟨some 48, .move (.tmp 0), false, none⟩,
  ⟨some 49, .nilCheck (.tmp 48), false, none⟩,
  ⟨some 50, .fieldAddr 72 (.tmp 49) 0, false, none⟩,
  ⟨some 51, .load 70 (.tmp 50), false, none⟩,
  ⟨some 52, .call ⟨.builtin .len, #[(.tmp 51)], #[70]⟩, false, none⟩,
  ⟨some 53, .binOp .geq 3 (.tmp 52) (.const (.int .i64 1024)) 3, false, none⟩,
  ⟨some 47, .assign (.tmp 53), false, none⟩]) <|
 .seq (.keep [0, 1, 2, 3, 4, 5, 14, 47]) <|
 .cond (.tmp 47) (.seq (.ops [⟨some 12, .assign (.const (.int .i64 0)), false, none⟩,
  ⟨some 13, .assign (.const (.int .i64 28)), false, none⟩]) <|
 .seq (.keep [12, 13]) <|
 .ret) <|
 .skip) <|
 .seq (.keep [0, 1, 2, 3, 4, 5, 14]) <|
 .seq (.ops [⟨some 54, .move (.tmp 0), false, none⟩,
  ⟨some 55, .call ⟨.value (.func 31), #[(.tmp 54)], #[25]⟩, true, none⟩,
  ⟨some 16, .assign (.tmp 55), false, none⟩]) <|
 .seq (.keep [0, 1, 2, 3, 4, 5, 14, 16]) <|
 .seq (.ops [⟨some 56, .move (.tmp 3), false, none⟩,
  ⟨some 57, .move (.tmp 4), false, none⟩,
  ⟨some 58, .move (.tmp 5), false, none⟩,
  ⟨some 59, .call ⟨.value (.func 32), #[(.tmp 58)], #[23]⟩, true, none⟩,
  ⟨some 60, .build 69 #[(0, (.tmp 56)), (1, (.tmp 57)), (2, (.tmp 59)), (5, (.const (.int .i64 1)))], false, none⟩,
  ⟨some 61, .box 69 (.tmp 60), true, none⟩,
  ⟨some 17, .assign (.tmp 61), false, none⟩]) <|
 .seq (.keep [0, 1, 2, 3, 14, 16, 17]) <|
 .seq (.seq (.ops [⟨some 62, .move (.tmp 3), false, none⟩,
  ⟨some 63, .binOp .eql 3 (.tmp 62) (.const (.int .i64 2)) 3, false, none⟩]) <|
 .seq (.keep [0, 1, 2, 3, 14, 16, 17, 63]) <|
 .cond (.tmp 63) (.ops [⟨some 64, .move (.tmp 17), false, none⟩,
  ⟨some 65, .move (.tmp 1), false, none⟩,
  ⟨some 66, .nilCheck (.tmp 64), false, none⟩,
  ⟨some 67, .fieldAddr 69 (.tmp 66) 4, false, none⟩,
  ⟨none, .store 3 (.tmp 67) (.tmp 65), true, none⟩]) <|
 .skip) <|
 .seq (.keep [0, 2, 3, 14, 16, 17]) <|
 .seq (.ops [⟨some 68, .move (.tmp 0), false, none⟩,
  ⟨some 69, .nilCheck (.tmp 68), false, none⟩,
  ⟨some 70, .fieldAddr 72 (.tmp 69) 0, false, none⟩,
  ⟨some 71, .load 70 (.tmp 70), false, none⟩,
  ⟨some 72, .move (.tmp 16), false, none⟩,
  ⟨some 73, .move (.tmp 17), false, none⟩,
  ⟨none, .mapUpdate 70 (.tmp 71) (.tmp 72) (.tmp 73), true, none⟩]) <|
 .seq (.keep [2, 3, 14, 16]) <|
 .seq (.ops [⟨some 74, .move (.tmp 14), false, none⟩,
  ⟨some 75, .move (.tmp 14), false, none⟩,
  ⟨some 76, .nilCheck (.tmp 75), false, none⟩,
  ⟨some 77, .fieldAddr 69 (.tmp 76) 3, false, none⟩,
  ⟨some 78, .load 55 (.tmp 77), false, none⟩,
  ⟨some 79, .move (.tmp 2), false, none⟩,
  ⟨some 80, .move (.tmp 16), false, none⟩,
  ⟨some 81, .move (.tmp 3), false, none⟩,
  ⟨some 82, .build 59 #[(0, (.tmp 79)), (1, (.tmp 80)), (2, (.tmp 81))], false, none⟩,
  ⟨some 83, .buildSlice 55 1 #[(0, (.tmp 82))], true, none⟩,
  ⟨some 84, .call ⟨.builtin .append, #[(.tmp 78), (.tmp 83)], #[55, 55]⟩, true, none⟩,
  ⟨some 85, .nilCheck (.tmp 74), false, none⟩,
  ⟨some 86, .fieldAddr 69 (.tmp 85) 3, false, none⟩,
  ⟨none, .store 55 (.tmp 86) (.tmp 84), true, none⟩]) <|
 .seq (.keep [16]) <|
 .seq (.ops [⟨some 87, .move (.tmp 16), false, none⟩,
  ⟨some 12, .assign (.tmp 87), false, none⟩,
  ⟨some 13, .assign (.const (.int .i64 0)), false, none⟩]) <|
 .seq (.keep [12, 13]) <|
 .ret
theorem c9 : Tryd.f9.body.map (fun c => ((compile Tryd.prog kp9 [] kp9 c).map (·.1), fits Tryd.f9.ntmps c)) = some (some s9, true) := by kernel_rfl
theorem r9 : Tryd.f9.results.toList = [.tmp 12, .tmp 13] := by kernel_rfl
-- (*marionette/node.Tree).Write
abbrev kp10 : List Nat := [8, 9]
def s10 : SC :=
 .seq (.ops [⟨some 8, .assign (.const (.int .i64 0)), false, none⟩,
  ⟨some 9, .assign (.const (.int .i64 0)), false, none⟩]) <|
 .seq (.keep [0, 1, 2, 3]) <|
 .seq (.ops [⟨some 14, .move (.tmp 0), false, none⟩,
  ⟨some 15, .move (.tmp 1), false, none⟩,
  ⟨some 16, .call ⟨.value (.func 33), #[(.tmp 14), (.tmp 15)], #[25, 3]⟩, true, none⟩,
  ⟨some 13, .move (.tmp 16), false, none⟩,
  ⟨some 17, .extract (.tmp 13) 0, false, none⟩,
  ⟨some 18, .extract (.tmp 13) 1, false, none⟩,
  ⟨some 10, .assign (.tmp 17), false, none⟩,
  ⟨some 11, .assign (.tmp 18), false, none⟩]) <|
 .seq (.keep [2, 3, 10, 11]) <|
 .seq (.block 0 <| .seq (.ops [⟨some 20, .move (.tmp 11), false, none⟩,
  ⟨some 21, .binOp .neq 26 (.tmp 20) (.const (.int .i64 0)) 26, false, none⟩,
  ⟨some 19, .assign (.tmp 21), false, none⟩]) <|
 .seq (.keep [2, 3, 10, 11, 19]) <|
 .cond (.tmp 19) (.seq (.ops [⟨some 22, .move (.tmp 11), false, none⟩,
  ⟨some 8, .assign (.const (.int .i64 0)), false, none⟩,
  ⟨some 9, .assign (.tmp 22), false, none⟩]) <|
 .seq (.keep [8, 9]) <|
 .ret) <|
 .seq (.ops [⟨some 24, .move (.tmp 2), false, none⟩,
  ⟨some 25, .binOp .lss 3 (.tmp 24) (.const (.int .i64 0)) 3, false, none⟩,
  ⟨some 23, .assign (.tmp 25), false, none⟩]) <|
 .seq (.keep [2, 3, 10, 23]) <|
 .cond (.tmp 23) (.seq (.ops [⟨some 8, .assign (.const (.int .i64 0)), false, none⟩,
  ⟨some 9, .assign (.const (.int .i64 22)), false, none⟩]) <|
 .seq (.keep [8, 9]) <|
 .ret) <|
 .seq (.ops [⟨some 27, .move (.tmp 10), false, none⟩,
  ⟨some 28, .nilCheck (.tmp 27), false, none⟩,
  ⟨some 29, .fieldAddr 69 (.tmp 28) 0, false, none⟩,
  ⟨some 30, .load 3 (.tmp 29), false, none⟩,
  ⟨some 31, .binOp .neq 3 (.tmp 30) (.const (.int .i64 1)) 3, false, none⟩,
  ⟨some 32, .move (.tmp 31), false, none⟩,
  ⟨some 33, .move (.tmp 3), false, some (32, false)⟩,
  ⟨some 34, .call ⟨.builtin .len, #[(.tmp 33)], #[23]⟩, false, some (32, false)⟩,
  ⟨some 35, .binOp .eql 3 (.tmp 34) (.const (.int .i64 0)) 3, false, some (32, false)⟩,
  ⟨some 36, .pick (.tmp 32) (.const (.bool true)) (.tmp 35), false, none⟩,
  ⟨some 26, .assign (.tmp 36), false, none⟩]) <|
 .seq (.keep [2, 3, 10, 26]) <|
 .cond (.tmp 26) (.seq (.ops [⟨some 37, .move (.tmp 3), false, none⟩,
  ⟨some 38, .call ⟨.builtin .len, #[(.tmp 37)], #[23]⟩, false, none⟩,
  ⟨some 8, .assign (.tmp 38), false, none⟩,
  ⟨some 9, .assign (.const (.int .i64 0)), false, none⟩]) <|
 .seq (.keep [8, 9]) <|
 .ret) <|
 .seq (.ops [⟨some 40, .move (.tmp 2), false, none⟩,
  ⟨some 41, .binOp .gtr 3 (.tmp 40) (.const (.int .i64 1048576)) 3, false, none⟩,
  ⟨some 42, .move (.tmp 41), false, none⟩,
  ⟨some 43, .move (.tmp 3), false, some (42, false)⟩,
  ⟨some 44, .call ⟨.builtin .len, #[(.tmp 43)], #[23]⟩, false, some (42, false)⟩,
  ⟨some 45, .move (.tmp 2), false, some (42, false)⟩,
  ⟨some 46, .binOp .sub 3 (.const (.int .i64 1048576)) (.tmp 45) 3, false, some (42, false)⟩,
  ⟨some 47, .binOp .gtr 3 (.tmp 44) (.tmp 46) 3, false, some (42, false)⟩,
  ⟨some 48, .pick (.tmp 42) (.const (.bool true)) (.tmp 47), false, none⟩,
  ⟨some 39, .assign (.tmp 48), false, none⟩]) <|
 .seq (.keep [2, 3, 10, 39]) <|
 .cond (.tmp 39) (.seq (.ops [⟨some 8, .assign (.const (.int .i64 0)), false, none⟩,
  ⟨some 9, .assign (.const (.int .i64 27)), false, none⟩]) <|
 .seq (.keep [8, 9]) <|
 .ret) <|
 .skip) <|
 .seq (.keep [2, 3, 10]) <|
 .seq (.seq (.ops [⟨some 49, .move (.tmp 2), false, none⟩,
  ⟨some 50, .move (.tmp 3), false, none⟩,
  ⟨some 51, .call ⟨.builtin .len, #[(.tmp 50)], #[23]⟩, false, none⟩,
  ⟨some 52, .binOp .add 3 (.tmp 49) (.tmp 51) 3, false, none⟩,
  ⟨some 12, .assign (.tmp 52), false, none⟩]) <|
 .seq (.keep [2, 3, 10, 12]) <|
 .seq (.ops [⟨some 53, .move (.tmp 12), false, none⟩,
  ⟨some 54, .move (.tmp 10), false, none⟩,
  ⟨some 55, .nilCheck (.tmp 54), false, none⟩,
  ⟨some 56, .fieldAddr 69 (.tmp 55) 2, false, none⟩,
  ⟨some 57, .load 23 (.tmp 56), false, none⟩,
  ⟨some 58, .call ⟨.builtin .len, #[(.tmp 57)], #[23]⟩, false, none⟩,
  ⟨some 59, .binOp .gtr 3 (.tmp 53) (.tmp 58) 3, false, none⟩]) <|
 .seq (.keep [2, 3, 10, 12, 59]) <|
 .cond (.tmp 59) (.seq (.ops [⟨some 60, .move (.tmp 10), false, none⟩]) <|
 .seq (.ops [⟨some 61, .move (.tmp 10), false, none⟩]) <|
 .seq (.ops [⟨some 62, .nilCheck (.tmp 61), false, none⟩]) <|
 .seq (.ops [⟨some 63, .fieldAddr 69 (.tmp 62) 2, false, none⟩]) <|
 .seq (.ops [⟨some 64, .load 23 (.tmp 63), false, none⟩]) <|
 .seq (.ops [⟨some 65, .move (.tmp 12), false, none⟩]) <|
 .seq (.ops [⟨some 66, .move (.tmp 10), false, none⟩]) <|
 .seq (.ops [⟨some 67, .nilCheck (.tmp 66), false, none⟩]) <|
 .seq (.ops [⟨some 68, .fieldAddr 69 (.tmp 67) 2, false, none⟩]) <|
 .seq (.ops [⟨some 69, .load 23 (.tmp 68), false, none⟩]) <|
 .seq (.ops [⟨some 70, .call ⟨.builtin .len, #[(.tmp 69)], #[23]⟩, false, none⟩]) <|
 .seq (.ops [⟨some 71, .binOp .sub 3 (.tmp 65) (.tmp 70) 3, false, none⟩]) <|
 .seq (.ops [⟨some 72, .call ⟨.builtin .append, #[(.tmp 64), (.tmp 71)], #[23, 3]⟩, true, none⟩]) <|
 .seq (.ops [⟨some 73, .nilCheck (.tmp 60), false, none⟩]) <|
 .seq (.ops [⟨some 74, .fieldAddr 69 (.tmp 73) 2, false, none⟩]) <|
 .seq (.ops [⟨none, .store 23 (.tmp 74) (.tmp 72), true, none⟩]) <|
 .skip) <|
 .skip) <|
 .seq (.keep [2, 3, 10]) <|
 .seq (.ops [⟨some 75, .move (.tmp 10), false, none⟩,
  ⟨some 76, .nilCheck (.tmp 75), false, none⟩,
  ⟨some 77, .fieldAddr 69 (.tmp 76) 2, false, none⟩,
  ⟨some 78, .load 23 (.tmp 77), false, none⟩,
  ⟨some 79, .move (.tmp 2), false, none⟩,
  ⟨some 80, .slice 23 (.tmp 78) (some (.tmp 79)) none none, false, none⟩,
  ⟨some 81, .move (.tmp 3), false, none⟩,
  ⟨some 82, .call ⟨.builtin .copy, #[(.tmp 80), (.tmp 81)], #[23, 23]⟩, true, none⟩]) <|
 .seq (.keep [3]) <|
 .seq (.ops [⟨some 83, .move (.tmp 3), false, none⟩,
  ⟨some 84, .call ⟨.builtin .len, #[(.tmp 83)], #[23]⟩, false, none⟩,
  ⟨some 8, .assign (.tmp 84), false, none⟩,
  ⟨some 9, .assign (.const (.int .i64 0)), false, none⟩]) <|
 .seq (.keep [8, 9]) <|
 .ret
theorem c10 : Tryd.f10.body.map (fun c => ((compile Tryd.prog kp10 [] kp10 c).map (·.1), fits Tryd.f10.ntmps c)) = some (some s10, true) := by kernel_rfl
theorem r10 : Tryd.f10.results.toList = [.tmp 8, .tmp 9] := by kernel_rfl
-- (*marionette/node.Tree).Read
abbrev kp11 : List Nat := [8, 9]
def s11 : SC :=
 .seq (.ops [⟨some 8, .assign (.const (.slice none 0 0)), false, none⟩,
  ⟨some 9, .assign (.const (.int .i64 0)), false, none⟩]) <|
 .seq (.keep [0, 1, 2, 3]) <|
 .seq (.ops [⟨some 13, .move (.tmp 0), false, none⟩,
  ⟨some 14, .move (.tmp 1), false, none⟩,
  ⟨some 15, .call ⟨.value (.func 33), #[(.tmp 13), (.tmp 14)], #[25, 3]⟩, true, none⟩,
  ⟨some 12, .move (.tmp 15), false, none⟩,
  ⟨some 16, .extract (.tmp 12) 0, false, none⟩,
  ⟨some 17, .extract (.tmp 12) 1, false, none⟩,
  ⟨some 10, .assign (.tmp 16), false, none⟩,
  ⟨some 11, .assign (.tmp 17), false, none⟩]) <|
 .seq (.keep [2, 3, 10, 11]) <|
 .seq (.block 0 <| .seq (.ops [⟨some 19, .move (.tmp 11), false, none⟩,
  ⟨some 20, .binOp .neq 26 (.tmp 19) (.const (.int .i64 0)) 26, false, none⟩,
  ⟨some 18, .assign (.tmp 20), false, none⟩]) <|
 .seq (.keep [2, 3, 10, 11, 18]) <|
 .cond (.tmp 18) (.seq (.ops [⟨some 21, .move (.tmp 11), false, none⟩,
  ⟨some 8, .assign (.const (.slice none 0 0)), false, none⟩,
  ⟨some 9, .assign (.tmp 21), false, none⟩]) <|
 .seq (.keep [8, 9]) <|
 .ret) <|
 .seq (.ops [⟨some 23, .move (.tmp 2), false, none⟩,
  ⟨some 24, .binOp .lss 3 (.tmp 23) (.const (.int .i64 0)) 3, false, none⟩,
  ⟨some 25, .move (.tmp 24), false, none⟩,
  ⟨some 26, .move (.tmp 3), false, some (25, false)⟩,
  ⟨some 27, .binOp .lss 3 (.tmp 26) (.const (.int .i64 0)) 3, false, some (25, false)⟩,
  ⟨some 28, .pick (.tmp 25) (.const (.bool true)) (.tmp 27), false, none⟩,
  ⟨some 22, .assign (.tmp 28), false, none⟩]) <|
 .seq (.keep [2, 3, 10, 22]) <|
 .cond (.tmp 22) (.seq (.ops [⟨some 8, .assign (.const (.slice none 0 0)), false, none⟩,
  ⟨some 9, .assign (.const (.int .i64 22)), false, none⟩]) <|
 .seq (.keep [8, 9]) <|
 .ret) <|
 .skip) <|
 .seq (.keep [2, 3, 10]) <|
 .seq (.ops [⟨some 29, .move (.tmp 3), false, none⟩,
  ⟨some 30, .call ⟨.builtin .min, #[(.tmp 29), (.const (.int .i64 65536))], #[3, 3]⟩, false, none⟩,
  ⟨some 3, .assign (.tmp 30), false, none⟩]) <|
 .seq (.keep [2, 3, 10]) <|
 .seq (.block 1 <| .seq (.ops [⟨some 32, .move (.tmp 10), false, none⟩,
  ⟨some 33, .nilCheck (.tmp 32), false, none⟩,
  ⟨some 34, .fieldAddr 69 (.tmp 33) 0, false, none⟩,
  ⟨some 35, .load 3 (.tmp 34), false, none⟩,
  ⟨some 36, .binOp .eql 3 (.tmp 35) (.const (.int .i64 5)) 3, false, none⟩,
  ⟨some 31, .assign (.tmp 36), false, none⟩]) <|
 .seq (.keep [2, 3, 10, 31]) <|
 .cond (.tmp 31) (.seq (.ops [⟨some 37, .move (.tmp 3), false, none⟩,
  ⟨some 38, .makeSlice 23 (.tmp 37) (.tmp 37), true, none⟩,
  ⟨some 8, .assign (.tmp 38), false, none⟩,
  ⟨some 9, .assign (.const (.int .i64 0)), false, none⟩]) <|
 .seq (.keep [8, 9]) <|
 .ret) <|
 .seq (.ops [⟨some 40, .move (.tmp 10), false, none⟩,
  ⟨some 41, .nilCheck (.tmp 40), false, none⟩,
  ⟨some 42, .fieldAddr 69 (.tmp 41) 0, false, none⟩,
  ⟨some 43, .load 3 (.tmp 42), false, none⟩,
  ⟨some 44, .binOp .eql 3 (.tmp 43) (.const (.int .i64 4)) 3, false, none⟩,
  ⟨some 45, .move (.tmp 44), false, none⟩,
  ⟨some 46, .move (.tmp 2), false, some (45, false)⟩,
  ⟨some 47, .move (.tmp 10), false, some (45, false)⟩,
  ⟨some 48, .nilCheck (.tmp 47), false, some (45, false)⟩,
  ⟨some 49, .fieldAddr 69 (.tmp 48) 2, false, some (45, false)⟩,
  ⟨some 50, .load 23 (.tmp 49), false, some (45, false)⟩,
  ⟨some 51, .call ⟨.builtin .len, #[(.tmp 50)], #[23]⟩, false, some (45, false)⟩,
  ⟨some 52, .binOp .geq 3 (.tmp 46) (.tmp 51) 3, false, some (45, false)⟩,
  ⟨some 53, .pick (.tmp 45) (.const (.bool true)) (.tmp 52), false, none⟩,
  ⟨some 39, .assign (.tmp 53), false, none⟩]) <|
 .seq (.keep [2, 3, 10, 39]) <|
 .cond (.tmp 39) (.seq (.ops [⟨some 8, .assign (.const (.slice none 0 0)), false, none⟩,
  ⟨some 9, .assign (.const (.int .i64 0)), false, none⟩]) <|
 .seq (.keep [8, 9]) <|
 .ret) <|
 .skip) <|
 .seq (.keep [2, 3, 10]) <|
 .seq (.seq (.ops [⟨some 54, .move (.tmp 10), false, none⟩]) <|
 .seq (.ops [⟨some 55, .nilCheck (.tmp 54), false, none⟩]) <|
 .seq (.ops [⟨some 56, .fieldAddr 69 (.tmp 55) 2, false, none⟩]) <|
 .seq (.ops [⟨some 57, .load 23 (.tmp 56), false, none⟩]) <|
 .seq (.ops [⟨some 58, .move (.tmp 2), false, none⟩]) <|
 .seq (.ops [⟨some 59, .move (.tmp 2), false, none⟩]) <|
 .seq (.ops [⟨some 60, .move (.tmp 3), false, none⟩]) <|
 .seq (.ops [⟨some 61, .binOp .add 3 (.tmp 59) (.tmp 60) 3, false, none⟩]) <|
 .seq (.ops [⟨some 62, .move (.tmp 10), false, none⟩]) <|
 .seq (.ops [⟨some 63, .nilCheck (.tmp 62), false, none⟩]) <|
 .seq (.ops [⟨some 64, .fieldAddr 69 (.tmp 63) 2, false, none⟩]) <|
 .seq (.ops [⟨some 65, .load 23 (.tmp 64), false, none⟩]) <|
 .seq (.ops [⟨some 66, .call ⟨.builtin .len, #[(.tmp 65)], #[23]⟩, false, none⟩]) <|
 .seq (.ops [⟨some 67, .call ⟨.builtin .min, #[(.tmp 61), (.tmp 66)], #[3, 3]⟩, false, none⟩]) <|
 .seq (.ops [⟨some 68, .slice 23 (.tmp 57) (some (.tmp 58)) (some (.tmp 67)) none, false, none⟩]) <|
 .seq (.ops [⟨some 69, .call ⟨.value (.func 32), #[(.tmp 68)], #[23]⟩, true, none⟩]) <|
 .seq (.ops [⟨some 8, .assign (.tmp 69), false, none⟩]) <|
 .seq (.ops [⟨some 9, .assign (.const (.int .i64 0)), false, none⟩]) <|
 .skip) <|
 .seq (.keep [8, 9]) <|
 .ret
theorem c11 : Tryd.f11.body.map (fun c => ((compile Tryd.prog kp11 [] kp11 c).map (·.1), fits Tryd.f11.ntmps c)) = some (some s11, true) := by kernel_rfl
theorem r11 : Tryd.f11.results.toList = [.tmp 8, .tmp 9] := by kernel_rfl
-- (*marionette/node.Tree).Cut
abbrev kp13 : List Nat := [6]
def s13 : SC :=
 .seq (.ops [⟨some 6, .assign (.const (.int .i64 0)), false, none⟩]) <|
 .seq (.keep [0, 1, 2]) <|
 .seq (.ops [⟨some 10, .move (.tmp 0), false, none⟩,
  ⟨some 11, .move (.tmp 1), false, none⟩,
  ⟨some 12, .call ⟨.value (.func 33), #[(.tmp 10), (.tmp 11)], #[25, 3]⟩, true, none⟩,
  ⟨some 9, .move (.tmp 12), false, none⟩,
  ⟨some 13, .extract (.tmp 9) 0, false, none⟩,
  ⟨some 14, .extract (.tmp 9) 1, false, none⟩,
  ⟨some 7, .assign (.tmp 13), false, none⟩,
  ⟨some 8, .assign (.tmp 14), false, none⟩]) <|
 .seq (.keep [2, 7, 8]) <|
 .seq (.block 0 <| .seq (.ops [⟨some 16, .move (.tmp 8), false, none⟩,
  ⟨some 17, .binOp .neq 26 (.tmp 16) (.const (.int .i64 0)) 26, false, none⟩,
  ⟨some 15, .assign (.tmp 17), false, none⟩]) <|
 .seq (.keep [2, 7, 8, 15]) <|
 .cond (.tmp 15) (.seq (.ops [⟨some 18, .move (.tmp 8), false, none⟩,
  ⟨some 6, .assign (.tmp 18), false, none⟩]) <|
 .seq (.keep [6]) <|
 .ret) <|
 .seq (.ops [⟨some 20, .move (.tmp 7), false, none⟩,
  ⟨some 21, .nilCheck (.tmp 20), false, none⟩,
  ⟨some 22, .fieldAddr 69 (.tmp 21) 0, false, none⟩,
  ⟨some 23, .load 3 (.tmp 22), false, none⟩,
  ⟨some 24, .binOp .neq 3 (.tmp 23) (.const (.int .i64 1)) 3, false, none⟩,
  ⟨some 25, .move (.tmp 24), false, none⟩,
  ⟨some 26, .move (.tmp 2), false, some (25, false)⟩,
  ⟨some 27, .binOp .lss 3 (.tmp 26) (.const (.int .i64 0)) 3, false, some (25, false)⟩,
  ⟨some 28, .pick (.tmp 25) (.const (.bool true)) (.tmp 27), false, none⟩,
  ⟨some 19, .assign (.tmp 28), false, none⟩]) <|
 .seq (.keep [2, 7, 19]) <|
 .cond (.tmp 19) (.seq (.ops [⟨some 6, .assign (.const (.int .i64 22)), false, none⟩]) <|
 .seq (.keep [6]) <|
 .ret) <|
 .seq (.ops [⟨some 30, .move (.tmp 2), false, none⟩,
  ⟨some 31, .binOp .gtr 3 (.tmp 30) (.const (.int .i64 1048576)) 3, false, none⟩,
  ⟨some 29, .assign (.tmp 31), false, none⟩]) <|
 .seq (.keep [2, 7, 29]) <|
 .cond (.tmp 29) (.seq (.ops [⟨some 6, .assign (.const (.int .i64 27)), false, none⟩]) <|
 .seq (.keep [6]) <|
 .ret) <|
 .skip) <|
 .seq (.keep [2, 7]) <|
 .seq (.seq (.ops [⟨some 32, .move (.tmp 2), false, none⟩,
  ⟨some 33, .move (.tmp 7), false, none⟩,
  ⟨some 34, .nilCheck (.tmp 33), false, none⟩,
  ⟨some 35, .fieldAddr 69 (.tmp 34) 2, false, none⟩,
  ⟨some 36, .load 23 (.tmp 35), false, none⟩,
  ⟨some 37, .call ⟨.builtin .len, #[(.tmp 36)], #[23]⟩, false, none⟩,
  ⟨some 38, .binOp .leq 3 (.tmp 32) (.tmp 37) 3, false, none⟩]) <|
 .seq (.keep [2, 7, 38]) <|
 .cond (.tmp 38) (.ops [⟨some 39, .move (.tmp 7), false, none⟩,
  ⟨some 40, .move (.tmp 7), false, none⟩,
  ⟨some 41, .nilCheck (.tmp 40), false, none⟩,
  ⟨some 42, .fieldAddr 69 (.tmp 41) 2, false, none⟩,
  ⟨some 43, .load 23 (.tmp 42), false, none⟩,
  ⟨some 44, .move (.tmp 2), false, none⟩,
  ⟨some 45, .move (.tmp 2), false, none⟩,
  ⟨some 46, .slice 23 (.tmp 43) none (some (.tmp 44)) (some (.tmp 45)), false, none⟩,
  ⟨some 47, .nilCheck (.tmp 39), false, none⟩,
  ⟨some 48, .fieldAddr 69 (.tmp 47) 2, false, none⟩,
  ⟨none, .store 23 (.tmp 48) (.tmp 46), true, none⟩]) <|
 .seq (.ops [⟨some 49, .move (.tmp 7), false, none⟩]) <|
 .seq (.ops [⟨some 50, .move (.tmp 7), false, none⟩]) <|
 .seq (.ops [⟨some 51, .nilCheck (.tmp 50), false, none⟩]) <|
 .seq (.ops [⟨some 52, .fieldAddr 69 (.tmp 51) 2, false, none⟩]) <|
 .seq (.ops [⟨some 53, .load 23 (.tmp 52), false, none⟩]) <|
 .seq (.ops [⟨some 54, .move (.tmp 2), false, none⟩]) <|
 .seq (.ops [⟨some 55, .move (.tmp 7), false, none⟩]) <|
 .seq (.ops [⟨some 56, .nilCheck (.tmp 55), false, none⟩]) <|
 .seq (.ops [⟨some 57, .fieldAddr 69 (.tmp 56) 2, false, none⟩]) <|
 .seq (.ops [⟨some 58, .load 23 (.tmp 57), false, none⟩]) <|
 .seq (.ops [⟨some 59, .call ⟨.builtin .len, #[(.tmp 58)], #[23]⟩, false, none⟩]) <|
 .seq (.ops [⟨some 60, .binOp .sub 3 (.tmp 54) (.tmp 59) 3, false, none⟩]) <|
 .seq (.ops [⟨some 61, .call ⟨.builtin .append, #[(.tmp 53), (.tmp 60)], #[23, 3]⟩, true, none⟩]) <|
 .seq (.ops [⟨some 62, .nilCheck (.tmp 49), false, none⟩]) <|
 .seq (.ops [⟨some 63, .fieldAddr 69 (.tmp 62) 2, false, none⟩]) <|
 .seq (.ops [⟨none, .store 23 (.tmp 63) (.tmp 61), true, none⟩]) <|
 .skip) <|
 .seq (.keep []) <|
 .seq (.ops [⟨some 6, .assign (.const (.int .i64 0)), false, none⟩]) <|
 .seq (.keep [6]) <|
 .ret
theorem c13 : Tryd.f13.body.map (fun c => ((compile Tryd.prog kp13 [] kp13 c).map (·.1), fits Tryd.f13.ntmps c)) = some (some s13, true) := by kernel_rfl
theorem r13 : Tryd.f13.results.toList = [.tmp 6] := by kernel_rfl
-- (*marionette/node.Tree).Info
abbrev kp14 : List Nat := [4, 5]
def s14 : SC :=
 .seq (.ops [⟨some 4, .alloc 38, true, none⟩,
  ⟨some 5, .assign (.const (.bool false)), false, none⟩]) <|
 .seq (.keep [0, 1, 4]) <|
 .seq (.ops [⟨some 10, .move (.tmp 0), false, none⟩,
  ⟨some 11, .move (.tmp 1), false, none⟩,
  ⟨some 12, .call ⟨.value (.func 29), #[(.tmp 10), (.tmp 11)], #[25, 3]⟩, true, none⟩,
  ⟨some 6, .assign (.tmp 12), false, none⟩]) <|
 .seq (.keep [1, 4, 6]) <|
 .seq (.seq (.ops [⟨some 13, .move (.tmp 6), false, none⟩,
  ⟨some 14, .binOp .eql 67 (.tmp 13) (.const (.pointer none)) 67, false, none⟩]) <|
 .seq (.keep [1, 4, 6, 14]) <|
 .cond (.tmp 14) (.seq (.ops [⟨some 15, .build 38 #[], false, none⟩,
  ⟨none, .store 38 (.tmp 4) (.tmp 15), true, none⟩,
  ⟨some 5, .assign (.const (.bool false)), false, none⟩]) <|
 .seq (.keep [4, 5]) <|
 .ret) <|
 .skip) <|
 .seq (.keep [1, 4, 6]) <|
 .seq (.seq (.ops [⟨some 16, .move (.tmp 1), false, none⟩]) <|
 .seq (.ops [⟨some 17, .move (.tmp 6), false, none⟩]) <|
 .seq (.ops [⟨some 18, .nilCheck (.tmp 17), false, none⟩]) <|
 .seq (.ops [⟨some 19, .fieldAddr 69 (.tmp 18) 0, false, none⟩]) <|
 .seq (.ops [⟨some 21, .move (.tmp 6), false, none⟩]) <|
 .seq (.ops [⟨some 22, .nilCheck (.tmp 21), false, none⟩]) <|
 .seq (.ops [⟨some 23, .fieldAddr 69 (.tmp 22) 1, false, none⟩]) <|
 .seq (.ops [⟨some 25, .move (.tmp 6), false, none⟩]) <|
 .seq (.ops [⟨some 26, .nilCheck (.tmp 25), false, none⟩]) <|
 .seq (.ops [⟨some 27, .fieldAddr 69 (.tmp 26) 5, false, none⟩]) <|
 .seq (.ops [⟨some 29, .move (.tmp 6), false, none⟩]) <|
 .seq (.ops [⟨some 30, .nilCheck (.tmp 29), false, none⟩]) <|
 .seq (.ops [⟨some 31, .fieldAddr 69 (.tmp 30) 2, false, none⟩]) <|
 .amb (.seq (.ops [⟨some 20, .load 3 (.tmp 19), false, none⟩]) <|
 .amb (.seq (.ops [⟨some 24, .load 3 (.tmp 23), false, none⟩]) <|
 .amb (.seq (.ops [⟨some 28, .load 3 (.tmp 27), false, none⟩]) <|
 .amb (.seq (.ops [⟨some 32, .load 23 (.tmp 31), false, none⟩]) <|
 .seq (.ops [⟨some 33, .call ⟨.builtin .len, #[(.tmp 32)], #[23]⟩, false, none⟩]) <|
 .seq (.ops [⟨some 34, .build 38 #[(0, (.tmp 16)), (1, (.tmp 20)), (2, (.tmp 24)), (3, (.tmp 28)), (4, (.tmp 33))], false, none⟩]) <|
 .seq (.ops [⟨some 7, .alloc 38, true, none⟩]) <|
 .seq (.ops [⟨none, .store 38 (.tmp 7) (.tmp 34), true, none⟩]) <|
 .skip) (.seq (.ops [⟨some 7, .alloc 38, true, none⟩]) <|
 .seq (.ops [⟨some 32, .load 23 (.tmp 31), false, none⟩]) <|
 .seq (.ops [⟨some 33, .call ⟨.builtin .len, #[(.tmp 32)], #[23]⟩, false, none⟩]) <|
 .seq (.ops [⟨some 34, .build 38 #[(0, (.tmp 16)), (1, (.tmp 20)), (2, (.tmp 24)), (3, (.tmp 28)), (4, (.tmp 33))], false, none⟩]) <|
 .seq (.ops [⟨none, .store 38 (.tmp 7) (.tmp 34), true, none⟩]) <|
 .skip)) (.amb (.seq (.ops [⟨some 32, .load 23 (.tmp 31), false, none⟩]) <|
 .seq (.ops [⟨some 33, .call ⟨.builtin .len, #[(.tmp 32)], #[23]⟩, false, none⟩]) <|
 .seq (.ops [⟨some 7, .alloc 38, true, none⟩]) <|
 .seq (.ops [⟨some 28, .load 3 (.tmp 27), false, none⟩]) <|
 .seq (.ops [⟨some 34, .build 38 #[(0, (.tmp 16)), (1, (.tmp 20)), (2, (.tmp 24)), (3, (.tmp 28)), (4, (.tmp 33))], false, none⟩]) <|
 .seq (.ops [⟨none, .store 38 (.tmp 7) (.tmp 34), true, none⟩]) <|
 .skip) (.seq (.ops [⟨some 7, .alloc 38, true, none⟩]) <|
 .seq (.ops [⟨some 28, .load 3 (.tmp 27), false, none⟩]) <|
 .seq (.ops [⟨some 32, .load 23 (.tmp 31), false, none⟩]) <|
 .seq (.ops [⟨some 33, .call ⟨.builtin .len, #[(.tmp 32)], #[23]⟩, false, none⟩]) <|
 .seq (.ops [⟨some 34, .build 38 #[(0, (.tmp 16)), (1, (.tmp 20)), (2, (.tmp 24)), (3, (.tmp 28)), (4, (.tmp 33))], false, none⟩]) <|
 .seq (.ops [⟨none, .store 38 (.tmp 7) (.tmp 34), true, none⟩]) <|
 .skip))) (.amb (.seq (.ops [⟨some 28, .load 3 (.tmp 27), false, none⟩]) <|
 .amb (.seq (.ops [⟨some 32, .load 23 (.tmp 31), false, none⟩]) <|
 .seq (.ops [⟨some 33, .call ⟨.builtin .len, #[(.tmp 32)], #[23]⟩, false, none⟩]) <|
 .seq (.ops [⟨some 7, .alloc 38, true, none⟩]) <|
 .seq (.ops [⟨some 24, .load 3 (.tmp 23), false, none⟩]) <|
 .seq (.ops [⟨some 34, .build 38 #[(0, (.tmp 16)), (1, (.tmp 20)), (2, (.tmp 24)), (3, (.tmp 28)), (4, (.tmp 33))], false, none⟩]) <|
 .seq (.ops [⟨none, .store 38 (.tmp 7) (.tmp 34), true, none⟩]) <|
 .skip) (.seq (.ops [⟨some 7, .alloc 38, true, none⟩]) <|
 .seq (.ops [⟨some 24, .load 3 (.tmp 23), false, none⟩]) <|
 .seq (.ops [⟨some 32, .load 23 (.tmp 31), false, none⟩]) <|
 .seq (.ops [⟨some 33, .call ⟨.builtin .len, #[(.tmp 32)], #[23]⟩, false, none⟩]) <|
 .seq (.ops [⟨some 34, .build 38 #[(0, (.tmp 16)), (1, (.tmp 20)), (2, (.tmp 24)), (3, (.tmp 28)), (4, (.tmp 33))], false, none⟩]) <|
 .seq (.ops [⟨none, .store 38 (.tmp 7) (.tmp 34), true, none⟩]) <|
 .skip)) (.amb (.seq (.ops [⟨some 32, .load 23 (.tmp 31), false, none⟩]) <|
 .seq (.ops [⟨some 33, .call ⟨.builtin .len, #[(.tmp 32)], #[23]⟩, false, none⟩]) <|
 .seq (.ops [⟨some 7, .alloc 38, true, none⟩]) <|
 .seq (.ops [⟨some 24, .load 3 (.tmp 23), false, none⟩]) <|
 .seq (.ops [⟨some 28, .load 3 (.tmp 27), false, none⟩]) <|
 .seq (.ops [⟨some 34, .build 38 #[(0, (.tmp 16)), (1, (.tmp 20)), (2, (.tmp 24)), (3, (.tmp 28)), (4, (.tmp 33))], false, none⟩]) <|
 .seq (.ops [⟨none, .store 38 (.tmp 7) (.tmp 34), true, none⟩]) <|
 .skip) (.seq (.ops [⟨some 7, .alloc 38, true, none⟩]) <|
 .seq (.ops [⟨some 24, .load 3 (.tmp 23), false, none⟩]) <|
 .seq (.ops [⟨some 28, .load 3 (.tmp 27), false, none⟩]) <|
 .seq (.ops [⟨some 32, .load 23 (.tmp 31), false, none⟩]) <|
 .seq (.ops [⟨some 33, .call ⟨.builtin .len, #[(.tmp 32)], #[23]⟩, false, none⟩]) <|
 .seq (.ops [⟨some 34, .build 38 #[(0, (.tmp 16)), (1, (.tmp 20)), (2, (.tmp 24)), (3, (.tmp 28)), (4, (.tmp 33))], false, none⟩]) <|
 .seq (.ops [⟨none, .store 38 (.tmp 7) (.tmp 34), true, none⟩]) <|
 .skip)))) (.amb (.seq (.ops [⟨some 24, .load 3 (.tmp 23), false, none⟩]) <|
 .amb (.seq (.ops [⟨some 28, .load 3 (.tmp 27), false, none⟩]) <|
 .amb (.seq (.ops [⟨some 32, .load 23 (.tmp 31), false, none⟩]) <|
 .seq (.ops [⟨some 33, .call ⟨.builtin .len, #[(.tmp 32)], #[23]⟩, false, none⟩]) <|
 .seq (.ops [⟨some 7, .alloc 38, true, none⟩]) <|
 .seq (.ops [⟨some 20, .load 3 (.tmp 19), false, none⟩]) <|
 .seq (.ops [⟨some 34, .build 38 #[(0, (.tmp 16)), (1, (.tmp 20)), (2, (.tmp 24)), (3, (.tmp 28)), (4, (.tmp 33))], false, none⟩]) <|
 .seq (.ops [⟨none, .store 38 (.tmp 7) (.tmp 34), true, none⟩]) <|
 .skip) (.seq (.ops [⟨some 7, .alloc 38, true, none⟩]) <|
 .seq (.ops [⟨some 20, .load 3 (.tmp 19), false, none⟩]) <|
 .seq (.ops [⟨some 32, .load 23 (.tmp 31), false, none⟩]) <|
 .seq (.ops [⟨some 33, .call ⟨.builtin .len, #[(.tmp 32)], #[23]⟩, false, none⟩]) <|
 .seq (.ops [⟨some 34, .build 38 #[(0, (.tmp 16)), (1, (.tmp 20)), (2, (.tmp 24)), (3, (.tmp 28)), (4, (.tmp 33))], false, none⟩]) <|
 .seq (.ops [⟨none, .store 38 (.tmp 7) (.tmp 34), true, none⟩]) <|
 .skip)) (.amb (.seq (.ops [⟨some 32, .load 23 (.tmp 31), false, none⟩]) <|
 .seq (.ops [⟨some 33, .call ⟨.builtin .len, #[(.tmp 32)], #[23]⟩, false, none⟩]) <|
 .seq (.ops [⟨some 7, .alloc 38, true, none⟩]) <|
 .seq (.ops [⟨some 20, .load 3 (.tmp 19), false, none⟩]) <|
 .seq (.ops [⟨some 28, .load 3 (.tmp 27), false, none⟩]) <|
 .seq (.ops [⟨some 34, .build 38 #[(0, (.tmp 16)), (1, (.tmp 20)), (2, (.tmp 24)), (3, (.tmp 28)), (4, (.tmp 33))], false, none⟩]) <|
 .seq (.ops [⟨none, .store 38 (.tmp 7) (.tmp 34), true, none⟩]) <|
 .skip) (.seq (.ops [⟨some 7, .alloc 38, true, none⟩]) <|
 .seq (.ops [⟨some 20, .load 3 (.tmp 19), false, none⟩]) <|
 .seq (.ops [⟨some 28, .load 3 (.tmp 27), false, none⟩]) <|
 .seq (.ops [⟨some 32, .load 23 (.tmp 31), false, none⟩]) <|
 .seq (.ops [⟨some 33, .call ⟨.builtin .len, #[(.tmp 32)], #[23]⟩, false, none⟩]) <|
 .seq (.ops [⟨some 34, .build 38 #[(0, (.tmp 16)), (1, (.tmp 20)), (2, (.tmp 24)), (3, (.tmp 28)), (4, (.tmp 33))], false, none⟩]) <|
 .seq (.ops [⟨none, .store 38 (.tmp 7) (.tmp 34), true, none⟩]) <|
 .skip))) (.amb (.seq (.ops [⟨some 28, .load 3 (.tmp 27), false, none⟩]) <|
 .amb (.seq (.ops [⟨some 32, .load 23 (.tmp 31), false, none⟩]) <|
 .seq (.ops [⟨some 33, .call ⟨.builtin .len, #[(.tmp 32)], #[23]⟩, false, none⟩]) <|
 .seq (.ops [⟨some 7, .alloc 38, true, none⟩]) <|
 .seq (.ops [⟨some 20, .load 3 (.tmp 19), false, none⟩]) <|
 .seq (.ops [⟨some 24, .load 3 (.tmp 23), false, none⟩]) <|
 .seq (.ops [⟨some 34, .build 38 #[(0, (.tmp 16)), (1, (.tmp 20)), (2, (.tmp 24)), (3, (.tmp 28)), (4, (.tmp 33))], false, none⟩]) <|
 .seq (.ops [⟨none, .store 38 (.tmp 7) (.tmp 34), true, none⟩]) <|
 .skip) (.seq (.ops [⟨some 7, .alloc 38, true, none⟩]) <|
 .seq (.ops [⟨some 20, .load 3 (.tmp 19), false, none⟩]) <|
 .seq (.ops [⟨some 24, .load 3 (.tmp 23), false, none⟩]) <|
 .seq (.ops [⟨some 32, .load 23 (.tmp 31), false, none⟩]) <|
 .seq (.ops [⟨some 33, .call ⟨.builtin .len, #[(.tmp 32)], #[23]⟩, false, none⟩]) <|
 .seq (.ops [⟨some 34, .build 38 #[(0, (.tmp 16)), (1, (.tmp 20)), (2, (.tmp 24)), (3, (.tmp 28)), (4, (.tmp 33))], false, none⟩]) <|
 .seq (.ops [⟨none, .store 38 (.tmp 7) (.tmp 34), true, none⟩]) <|
 .skip)) (.amb (.seq (.ops [⟨some 32, .load 23 (.tmp 31), false, none⟩]) <|
 .seq (.ops [⟨some 33, .call ⟨.builtin .len, #[(.tmp 32)], #[23]⟩, false, none⟩]) <|
 .seq (.ops [⟨some 7, .alloc 38, true, none⟩]) <|
 .seq (.ops [⟨some 20, .load 3 (.tmp 19), false, none⟩]) <|
 .seq (.ops [⟨some 24, .load 3 (.tmp 23), false, none⟩]) <|
 .seq (.ops [⟨some 28, .load 3 (.tmp 27), false, none⟩]) <|
 .seq (.ops [⟨some 34, .build 38 #[(0, (.tmp 16)), (1, (.tmp 20)), (2, (.tmp 24)), (3, (.tmp 28)), (4, (.tmp 33))], false, none⟩]) <|
 .seq (.ops [⟨none, .store 38 (.tmp 7) (.tmp 34), true, none⟩]) <|
 .skip) (.seq (.ops [⟨some 7, .alloc 38, true, none⟩]) <|
 .seq (.ops [⟨some 20, .load 3 (.tmp 19), false, none⟩]) <|
 .seq (.ops [⟨some 24, .load 3 (.tmp 23), false, none⟩]) <|
 .seq (.ops [⟨some 28, .load 3 (.tmp 27), false, none⟩]) <|
 .seq (.ops [⟨some 32, .load 23 (.tmp 31), false, none⟩]) <|
 .seq (.ops [⟨some 33, .call ⟨.builtin .len, #[(.tmp 32)], #[23]⟩, false, none⟩]) <|
 .seq (.ops [⟨some 34, .build 38 #[(0, (.tmp 16)), (1, (.tmp 20)), (2, (.tmp 24)), (3, (.tmp 28)), (4, (.tmp 33))], false, none⟩]) <|
 .seq (.ops [⟨none, .store 38 (.tmp 7) (.tmp 34), true, none⟩]) <|
 .skip))))) <|
 .seq (.keep [4, 6, 7]) <|
 .seq (.seq (.ops [⟨some 35, .move (.tmp 6), false, none⟩,
  ⟨some 36, .nilCheck (.tmp 35), false, none⟩,
  ⟨some 37, .fieldAddr 69 (.tmp 36) 0, false, none⟩,
  ⟨some 38, .load 3 (.tmp 37), false, none⟩,
  ⟨some 39, .binOp .eql 3 (.tmp 38) (.const (.int .i64 2)) 3, false, none⟩]) <|
 .seq (.keep [4, 6, 7, 39]) <|
 .cond (.tmp 39) (.seq (.ops [⟨some 40, .move (.tmp 6), false, none⟩,
  ⟨some 41, .nilCheck (.tmp 40), false, none⟩,
  ⟨some 42, .fieldAddr 69 (.tmp 41) 3, false, none⟩,
  ⟨some 43, .load 55 (.tmp 42), false, none⟩,
  ⟨some 44, .call ⟨.builtin .len, #[(.tmp 43)], #[55]⟩, false, none⟩,
  ⟨some 45, .fieldAddr 38 (.tmp 7) 4, false, none⟩,
  ⟨none, .store 3 (.tmp 45) (.tmp 44), true, none⟩,
  ⟨some 46, .fieldAddr 38 (.tmp 7) 3, false, none⟩,
  ⟨none, .store 3 (.tmp 46) (.const (.int .i64 2)), true, none⟩]) <|
 .seq (.keep [4, 6, 7]) <|
 .seq (.seq (.ops [⟨some 47, .move (.tmp 6), false, none⟩,
  ⟨some 48, .nilCheck (.tmp 47), false, none⟩,
  ⟨some 49, .fieldAddr 69 (.tmp 48) 3, false, none⟩,
  ⟨some 50, .load 55 (.tmp 49), false, none⟩,
  ⟨some 51, .call ⟨.builtin .len, #[(.tmp 50)], #[55]⟩, false, none⟩,
  ⟨some 52, .move (.const (.int .i64 0)), false, none⟩]) <|
 .seq (.keep [4, 6, 7, 50, 51, 52]) <|
 .block 0 <| .loop <| .seq (.seq (.ops [⟨some 53, .binOp .lss 3 (.tmp 52) (.tmp 51) 3, false, none⟩]) <|
 .seq (.keep [4, 6, 7, 50, 51, 52, 53]) <|
 .seq (.cond (.tmp 53) (.skip) <|
 .exit 0) <|
 .seq (.keep [4, 6, 7, 50, 51, 52]) <|
 .seq (.block 1 <| .seq (.ops [⟨some 54, .indexAddr 55 (.tmp 50) (.tmp 52), false, none⟩,
  ⟨some 55, .load 59 (.tmp 54), false, none⟩,
  ⟨some 9, .alloc 59, true, none⟩,
  ⟨none, .store 59 (.tmp 9) (.tmp 55), true, none⟩]) <|
 .seq (.keep [4, 6, 7, 9, 50, 51, 52]) <|
 .seq (.ops [⟨some 56, .fieldAddr 59 (.tmp 9) 2, false, none⟩,
  ⟨some 57, .load 3 (.tmp 56), false, none⟩,
  ⟨some 58, .binOp .eql 3 (.tmp 57) (.const (.int .i64 2)) 3, false, none⟩]) <|
 .seq (.keep [4, 6, 7, 50, 51, 52, 58]) <|
 .cond (.tmp 58) (.ops [⟨some 59, .fieldAddr 38 (.tmp 7) 3, false, none⟩,
  ⟨some 60, .load 3 (.tmp 59), false, none⟩,
  ⟨some 61, .binOp .add 3 (.tmp 60) (.const (.int .i64 1)) 3, false, none⟩,
  ⟨some 62, .fieldAddr 38 (.tmp 7) 3, false, none⟩,
  ⟨none, .store 3 (.tmp 62) (.tmp 61), true, none⟩]) <|
 .skip) <|
 .seq (.keep [4, 6, 7, 50, 51, 52]) <|
 .ops [⟨some 63, .binOp .add 3 (.tmp 52) (.const (.int .i64 1)) 3, false, none⟩,
  ⟨some 52, .move (.tmp 63), false, none⟩]) <|
 .keep [4, 6, 7, 50, 51, 52]) <|
 .seq (.keep [4, 6, 7]) <|
 .seq (.ops [⟨some 64, .move (.tmp 6), false, none⟩,
  ⟨some 65, .call ⟨.value (.func 34), #[(.tmp 64)], #[67]⟩, true, none⟩]) <|
 .seq (.keep [4, 7, 65]) <|
 .cond (.tmp 65) (.ops [⟨some 66, .fieldAddr 38 (.tmp 7) 3, false, none⟩,
  ⟨none, .store 3 (.tmp 66) (.const (.int .i64 0)), true, none⟩]) <|
 .skip) <|
 .skip) <|
 .seq (.keep [4, 7]) <|
 .seq (.ops [⟨some 67, .load 38 (.tmp 7), false, none⟩,
  ⟨none, .store 38 (.tmp 4) (.tmp 67), true, none⟩,
  ⟨some 5, .assign (.const (.bool true)), false, none⟩]) <|
 .seq (.keep [4, 5]) <|
 .ret
theorem c14 : Tryd.f14.body.map (fun c => ((compile Tryd.prog kp14 [] kp14 c).map (·.1), fits Tryd.f14.ntmps c)) = some (some s14, true) := by kernel_rfl
theorem r14 : Tryd.f14.results.toList = [.cell 4 38, .tmp 5] := by kernel_rfl
-- marionette/marionetteref01.Dec
abbrev kp15 : List Nat := [2]
def s15 : SC :=
 .seq (.ops [⟨some 2, .assign (.const (.string ⟨#[]⟩)), false, none⟩]) <|
 .seq (.keep [0]) <|
 .seq (.seq (.ops [⟨some 3, .move (.tmp 0), false, none⟩,
  ⟨some 4, .binOp .lss 3 (.tmp 3) (.const (.int .i64 0)) 3, false, none⟩]) <|
 .seq (.keep [0, 4]) <|
 .cond (.tmp 4) (.seq (.ops [⟨some 5, .move (.tmp 0), false, none⟩,
  ⟨some 6, .binOp .add 3 (.tmp 5) (.const (.int .i64 1)) 3, false, none⟩,
  ⟨some 7, .unOp .neg 3 (.tmp 6), false, none⟩,
  ⟨some 8, .convert 3 83 (.tmp 7), false, none⟩,
  ⟨some 9, .binOp .add 83 (.tmp 8) (.const (.int .u64 1)) 83, false, none⟩,
  ⟨some 10, .call ⟨.value (.func 35), #[(.tmp 9)], #[83]⟩, true, none⟩,
  ⟨some 11, .binOp .add 9 (.const (.string ⟨#[45]⟩)) (.tmp 10) 9, false, none⟩,
  ⟨some 2, .assign (.tmp 11), false, none⟩]) <|
 .seq (.keep [2]) <|
 .ret) <|
 .skip) <|
 .seq (.keep [0]) <|
 .seq (.ops [⟨some 12, .move (.tmp 0), false, none⟩,
  ⟨some 13, .convert 3 83 (.tmp 12), false, none⟩,
  ⟨some 14, .call ⟨.value (.func 35), #[(.tmp 13)], #[83]⟩, true, none⟩,
  ⟨some 2, .assign (.tmp 14), false, none⟩]) <|
 .seq (.keep [2]) <|
 .ret
theorem c15 : Tryd.f15.body.map (fun c => ((compile Tryd.prog kp15 [] kp15 c).map (·.1), fits Tryd.f15.ntmps c)) = some (some s15, true) := by kernel_rfl
theorem r15 : Tryd.f15.results.toList = [.tmp 2] := by kernel_rfl
-- (*marionette/node.Tree).Remove
abbrev kp16 : List Nat := [8]
def s16 : SC :=
 .seq (.ops [⟨some 8, .assign (.const (.int .i64 0)), false, none⟩]) <|
 .seq (.keep [0, 1, 2, 3]) <|
 .seq (.ops [⟨some 14, .move (.tmp 0), false, none⟩,
  ⟨some 15, .move (.tmp 1), false, none⟩,
  ⟨some 16, .call ⟨.value (.func 36), #[(.tmp 14), (.tmp 15)], #[25, 3]⟩, true, none⟩,
  ⟨some 13, .move (.tmp 16), false, none⟩,
  ⟨some 17, .extract (.tmp 13) 0, false, none⟩,
  ⟨some 18, .extract (.tmp 13) 1, false, none⟩,
  ⟨some 9, .assign (.tmp 17), false, none⟩,
  ⟨some 10, .assign (.tmp 18), false, none⟩]) <|
 .seq (.keep [0, 2, 3, 9, 10]) <|
 .seq (.block 0 <| .seq (.ops [⟨some 20, .move (.tmp 10), false, none⟩,
  ⟨some 21, .binOp .neq 26 (.tmp 20) (.const (.int .i64 0)) 26, false, none⟩,
  ⟨some 19, .assign (.tmp 21), false, none⟩]) <|
 .seq (.keep [0, 2, 3, 9, 10, 19]) <|
 .cond (.tmp 19) (.seq (.ops [⟨some 22, .move (.tmp 10), false, none⟩,
  ⟨some 8, .assign (.tmp 22), false, none⟩]) <|
 .seq (.keep [8]) <|
 .ret) <|
 .seq (.ops [⟨some 24, .move (.tmp 2), false, none⟩,
  ⟨some 25, .binOp .eql 9 (.tmp 24) (.const (.string ⟨#[46]⟩)) 9, false, none⟩,
  ⟨some 23, .assign (.tmp 25), false, none⟩]) <|
 .seq (.keep [0, 2, 3, 9, 23]) <|
 .cond (.tmp 23) (.seq (.ops [⟨some 8, .assign (.const (.int .i64 22)), false, none⟩]) <|
 .seq (.keep [8]) <|
 .ret) <|
 .seq (.ops [⟨some 27, .move (.tmp 2), false, none⟩,
  ⟨some 28, .binOp .eql 9 (.tmp 27) (.const (.string ⟨#[46, 46]⟩)) 9, false, none⟩,
  ⟨some 26, .assign (.tmp 28), false, none⟩]) <|
 .seq (.keep [0, 2, 3, 9, 26]) <|
 .cond (.tmp 26) (.seq (.ops [⟨some 8, .assign (.const (.int .i64 39)), false, none⟩]) <|
 .seq (.keep [8]) <|
 .ret) <|
 .skip) <|
 .seq (.keep [0, 2, 3, 9]) <|
 .seq (.ops [⟨some 29, .move (.tmp 9), false, none⟩,
  ⟨some 30, .move (.tmp 2), false, none⟩,
  ⟨some 31, .call ⟨.value (.func 37), #[(.tmp 29), (.tmp 30)], #[67, 9]⟩, true, none⟩,
  ⟨some 11, .assign (.tmp 31), false, none⟩]) <|
 .seq (.keep [0, 3, 9, 11]) <|
 .seq (.seq (.ops [⟨some 32, .move (.tmp 11), false, none⟩,
  ⟨some 33, .binOp .lss 3 (.tmp 32) (.const (.int .i64 0)) 3, false, none⟩]) <|
 .seq (.keep [0, 3, 9, 11, 33]) <|
 .cond (.tmp 33) (.seq (.ops [⟨some 8, .assign (.const (.int .i64 2)), false, none⟩]) <|
 .seq (.keep [8]) <|
 .ret) <|
 .skip) <|
 .seq (.keep [0, 3, 9, 11]) <|
 .seq (.seq (.seq (.ops [⟨some 34, .move (.tmp 0), false, none⟩]) <|
 .seq (.ops [⟨some 35, .nilCheck (.tmp 34), false, none⟩]) <|
 .seq (.ops [⟨some 36, .fieldAddr 72 (.tmp 35) 0, false, none⟩]) <|
 .seq (.ops [⟨some 37, .load 70 (.tmp 36), false, none⟩]) <|
 .seq (.ops [⟨some 38, .move (.tmp 9), false, none⟩]) <|
 .seq (.ops [⟨some 39, .nilCheck (.tmp 38), false, none⟩]) <|
 .seq (.ops [⟨some 40, .fieldAddr 69 (.tmp 39) 3, false, none⟩]) <|
 .seq (.ops [⟨some 41, .load 55 (.tmp 40), false, none⟩]) <|
 .seq (.ops [⟨some 42, .move (.tmp 11), false, none⟩]) <|
 .seq (.ops [⟨some 43, .indexAddr 55 (.tmp 41) (.tmp 42), false, none⟩]) <|
 .seq (.ops [⟨some 44, .fieldAddr 59 (.tmp 43) 1, false, none⟩]) <|
 .seq (.ops [⟨some 45, .load 3 (.tmp 44), false, none⟩]) <|
 .seq (.ops [⟨some 46, .lookup 70 (.tmp 37) (.tmp 45) false, false, none⟩]) <|
 .seq (.ops [⟨some 47, .move (.tmp 3), false, none⟩]) <|
 .seq (.ops [⟨some 48, .call ⟨.value (.func 38), #[(.tmp 46), (.tmp 47)], #[67, 4]⟩, true, none⟩]) <|
 .seq (.ops [⟨some 12, .assign (.tmp 48), false, none⟩]) <|
 .skip) <|
 .seq (.keep [0, 9, 11, 12]) <|
 .seq (.ops [⟨some 49, .move (.tmp 12), false, none⟩,
  ⟨some 50, .binOp .neq 26 (.tmp 49) (.const (.int .i64 0)) 26, false, none⟩]) <|
 .seq (.keep [0, 9, 11, 12, 50]) <|
 .cond (.tmp 50) (.seq (.ops [⟨some 51, .move (.tmp 12), false, none⟩,
  ⟨some 8, .assign (.tmp 51), false, none⟩]) <|
 .seq (.keep [8]) <|
 .ret) <|
 .skip) <|
 .seq (.keep [0, 9, 11]) <|
 .seq (.ops [⟨some 52, .move (.tmp 0), false, none⟩,
  ⟨some 53, .move (.tmp 9), false, none⟩,
  ⟨some 54, .move (.tmp 11), false, none⟩,
  ⟨some 55, .call ⟨.value (.func 39), #[(.tmp 52), (.tmp 53), (.tmp 54)], #[25, 67, 3]⟩, true, none⟩]) <|
 .seq (.keep []) <|
 .seq (.ops [⟨some 8, .assign (.const (.int .i64 0)), false, none⟩]) <|
 .seq (.keep [8]) <|
 .ret
theorem c16 : Tryd.f16.body.map (fun c => ((compile Tryd.prog kp16 [] kp16 c).map (·.1), fits Tryd.f16.ntmps c)) = some (some s16, true) := by kernel_rfl
theorem r16 : Tryd.f16.results.toList = [.tmp 8] := by kernel_rfl
-- marionette/marionetteref15.Empty
abbrev kp17 : List Nat := [0]
def s17 : SC :=
 .seq (.ops [⟨some 0, .assign (.const (.pointer none)), false, none⟩]) <|
 .seq (.keep []) <|
 .seq (.ops [⟨some 1, .build 89 #[(0, (.const (.int .i64 1))), (1, (.const (.int .i64 2))), (2, (.const (.int .i64 493))), (5, (.const (.int .i64 1)))], false, none⟩,
  ⟨some 2, .box 89 (.tmp 1), true, none⟩,
  ⟨some 3, .buildSlice 90 1 #[(0, (.tmp 2))], true, none⟩,
  ⟨some 4, .build 92 #[(0, (.tmp 3))], false, none⟩,
  ⟨some 5, .box 92 (.tmp 4), true, none⟩,
  ⟨some 0, .assign (.tmp 5), false, none⟩]) <|
 .seq (.keep [0]) <|
 .ret
theorem c17 : Tryd.f17.body.map (fun c => ((compile Tryd.prog kp17 [] kp17 c).map (·.1), fits Tryd.f17.ntmps c)) = some (some s17, true) := by kernel_rfl
theorem r17 : Tryd.f17.results.toList = [.tmp 0] := by kernel_rfl
-- marionette/marionettelaw15.light
abbrev kp18 : List Nat := [2]
def s18 : SC :=
 .seq (.ops [⟨some 1, .box 52 (.tmp 0), true, none⟩,
  ⟨some 2, .assign (.const (.bool false)), false, none⟩]) <|
 .seq (.keep [1]) <|
 .seq (.ops [⟨some 3, .fieldAddr 52 (.tmp 1) 5, false, none⟩,
  ⟨some 4, .load 9 (.tmp 3), false, none⟩,
  ⟨some 5, .call ⟨.builtin .len, #[(.tmp 4)], #[9]⟩, false, none⟩,
  ⟨some 6, .binOp .leq 3 (.tmp 5) (.const (.int .i64 300)) 3, false, none⟩,
  ⟨some 7, .move (.tmp 6), false, none⟩,
  ⟨some 8, .fieldAddr 52 (.tmp 1) 6, false, some (7, true)⟩,
  ⟨some 9, .load 9 (.tmp 8), false, some (7, true)⟩,
  ⟨some 10, .call ⟨.builtin .len, #[(.tmp 9)], #[9]⟩, false, some (7, true)⟩,
  ⟨some 11, .binOp .leq 3 (.tmp 10) (.const (.int .i64 300)) 3, false, some (7, true)⟩,
  ⟨some 12, .pick (.tmp 7) (.tmp 11) (.const (.bool false)), false, none⟩,
  ⟨some 13, .move (.tmp 12), false, none⟩,
  ⟨some 14, .fieldAddr 52 (.tmp 1) 7, false, some (13, true)⟩,
  ⟨some 15, .load 23 (.tmp 14), false, some (13, true)⟩,
  ⟨some 16, .call ⟨.builtin .len, #[(.tmp 15)], #[23]⟩, false, some (13, true)⟩,
  ⟨some 17, .binOp .leq 3 (.tmp 16) (.const (.int .i64 5000)) 3, false, some (13, true)⟩,
  ⟨some 18, .pick (.tmp 13) (.tmp 17) (.const (.bool false)), false, none⟩,
  ⟨some 19, .move (.tmp 18), false, none⟩,
  ⟨some 20, .fieldAddr 52 (.tmp 1) 0, false, some (19, true)⟩,
  ⟨some 21, .load 3 (.tmp 20), false, some (19, true)⟩,
  ⟨some 22, .binOp .neq 3 (.tmp 21) (.const (.int .i64 6)) 3, false, some (19, true)⟩,
  ⟨some 23, .move (.tmp 22), false, some (19, true)⟩,
  ⟨some 24, .fieldAddr 52 (.tmp 1) 0, false, some (23, true)⟩,
  ⟨some 25, .load 3 (.tmp 24), false, some (23, true)⟩,
  ⟨some 26, .binOp .neq 3 (.tmp 25) (.const (.int .i64 7)) 3, false, some (23, true)⟩,
  ⟨some 27, .pick (.tmp 23) (.tmp 26) (.const (.bool false)), false, some (19, true)⟩,
  ⟨some 28, .move (.tmp 27), false, some (19, true)⟩,
  ⟨some 29, .fieldAddr 52 (.tmp 1) 3, false, some (28, false)⟩,
  ⟨some 30, .load 3 (.tmp 29), false, some (28, false)⟩,
  ⟨some 31, .binOp .lss 3 (.tmp 30) (.const (.int .i64 20000)) 3, false, some (28, false)⟩,
  ⟨some 32, .pick (.tmp 28) (.const (.bool true)) (.tmp 31), false, some (19, true)⟩,
  ⟨some 33, .move (.tmp 32), false, some (19, true)⟩,
  ⟨some 34, .fieldAddr 52 (.tmp 1) 3, false, some (33, false)⟩,
  ⟨some 35, .load 3 (.tmp 34), false, some (33, false)⟩,
  ⟨some 36, .binOp .gtr 3 (.tmp 35) (.const (.int .i64 1048576)) 3, false, some (33, false)⟩,
  ⟨some 37, .pick (.tmp 33) (.const (.bool true)) (.tmp 36), false, some (19, true)⟩,
  ⟨some 38, .pick (.tmp 19) (.tmp 37) (.const (.bool false)), false, none⟩,
  ⟨some 2, .assign (.tmp 38), false, none⟩]) <|
 .seq (.keep [2]) <|
 .ret
theorem c18 : Tryd.f18.body.map (fun c => ((compile Tryd.prog kp18 [] kp18 c).map (·.1), fits Tryd.f18.ntmps c)) = some (some s18, true) := by kernel_rfl
theorem r18 : Tryd.f18.results.toList = [.tmp 2] := by kernel_rfl
def t19_0 : SC :=
 .seq (.ops [⟨some 21, .move (.tmp 0), false, none⟩]) <|
 .seq (.ops [⟨some 22, .fieldAddr 52 (.tmp 5) 1, false, none⟩]) <|
 .seq (.ops [⟨some 24, .fieldAddr 52 (.tmp 5) 5, false, none⟩]) <|
 .seq (.ops [⟨some 26, .fieldAddr 52 (.tmp 5) 3, false, none⟩]) <|
 .seq (.ops [⟨some 28, .fieldAddr 52 (.tmp 5) 4, false, none⟩]) <|
 .seq (.ops [⟨some 31, .fieldAddr 52 (.tmp 5) 7, false, none⟩]) <|
 .amb (.seq (.ops [⟨some 23, .load 3 (.tmp 22), false, none⟩]) <|
 .amb (.seq (.ops [⟨some 25, .load 9 (.tmp 24), false, none⟩]) <|
 .amb (.seq (.ops [⟨some 27, .load 3 (.tmp 26), false, none⟩]) <|
 .amb (.seq (.ops [⟨some 29, .load 3 (.tmp 28), false, none⟩]) <|
 .amb (.seq (.ops [⟨some 30, .buildSlice 23 0 #[], true, none⟩]) <|
 .seq (.ops [⟨some 32, .load 23 (.tmp 31), false, none⟩]) <|
 .seq (.ops [⟨some 33, .call ⟨.builtin .append, #[(.tmp 30), (.tmp 32)], #[23, 23]⟩, true, none⟩]) <|
 .seq (.ops [⟨some 34, .call ⟨.value (.func 9), #[(.tmp 21), (.tmp 23), (.tmp 25), (.tmp 27), (.tmp 29), (.tmp 33)], #[25, 3, 9, 3, 3, 23]⟩, true, none⟩]) <|
 .seq (.ops [⟨some 20, .move (.tmp 34), false, none⟩]) <|
 .seq (.ops [⟨some 35, .extract (.tmp 20) 0, false, none⟩]) <|
 .seq (.ops [⟨some 36, .extract (.tmp 20) 1, false, none⟩]) <|
 .seq (.ops [⟨some 8, .assign (.tmp 35), false, none⟩]) <|
 .seq (.ops [⟨some 10, .assign (.tmp 36), false, none⟩]) <|
 .skip) (.seq (.ops [⟨some 32, .load 23 (.tmp 31), false, none⟩]) <|
 .seq (.ops [⟨some 30, .buildSlice 23 0 #[], true, none⟩]) <|
 .seq (.ops [⟨some 33, .call ⟨.builtin .append, #[(.tmp 30), (.tmp 32)], #[23, 23]⟩, true, none⟩]) <|
 .seq (.ops [⟨some 34, .call ⟨.value (.func 9), #[(.tmp 21), (.tmp 23), (.tmp 25), (.tmp 27), (.tmp 29), (.tmp 33)], #[25, 3, 9, 3, 3, 23]⟩, true, none⟩]) <|
 .seq (.ops [⟨some 20, .move (.tmp 34), false, none⟩]) <|
 .seq (.ops [⟨some 35, .extract (.tmp 20) 0, false, none⟩]) <|
 .seq (.ops [⟨some 36, .extract (.tmp 20) 1, false, none⟩]) <|
 .seq (.ops [⟨some 8, .assign (.tmp 35), false, none⟩]) <|
 .seq (.ops [⟨some 10, .assign (.tmp 36), false, none⟩]) <|
 .skip)) (.amb (.seq (.ops [⟨some 30, .buildSlice 23 0 #[], true, none⟩]) <|
 .seq (.ops [⟨some 32, .load 23 (.tmp 31), false, none⟩]) <|
 .amb (.seq (.ops [⟨some 29, .load 3 (.tmp 28), false, none⟩]) <|
 .seq (.ops [⟨some 33, .call ⟨.builtin .append, #[(.tmp 30), (.tmp 32)], #[23, 23]⟩, true, none⟩]) <|
 .seq (.ops [⟨some 34, .call ⟨.value (.func 9), #[(.tmp 21), (.tmp 23), (.tmp 25), (.tmp 27), (.tmp 29), (.tmp 33)], #[25, 3, 9, 3, 3, 23]⟩, true, none⟩]) <|
 .seq (.ops [⟨some 20, .move (.tmp 34), false, none⟩]) <|
 .seq (.ops [⟨some 35, .extract (.tmp 20) 0, false, none⟩]) <|
 .seq (.ops [⟨some 36, .extract (.tmp 20) 1, false, none⟩]) <|
 .seq (.ops [⟨some 8, .assign (.tmp 35), false, none⟩]) <|
 .seq (.ops [⟨some 10, .assign (.tmp 36), false, none⟩]) <|
 .skip) (.seq (.ops [⟨some 33, .call ⟨.builtin .append, #[(.tmp 30), (.tmp 32)], #[23, 23]⟩, true, none⟩]) <|
 .seq (.ops [⟨some 29, .load 3 (.tmp 28), false, none⟩]) <|
 .seq (.ops [⟨some 34, .call ⟨.value (.func 9), #[(.tmp 21), (.tmp 23), (.tmp 25), (.tmp 27), (.tmp 29), (.tmp 33)], #[25, 3, 9, 3, 3, 23]⟩, true, none⟩]) <|
 .seq (.ops [⟨some 20, .move (.tmp 34), false, none⟩]) <|
 .seq (.ops [⟨some 35, .extract (.tmp 20) 0, false, none⟩]) <|
 .seq (.ops [⟨some 36, .extract (.tmp 20) 1, false, none⟩]) <|
 .seq (.ops [⟨some 8, .assign (.tmp 35), false, none⟩]) <|
 .seq (.ops [⟨some 10, .assign (.tmp 36), false, none⟩]) <|
 .skip)) (.seq (.ops [⟨some 32, .load 23 (.tmp 31), false, none⟩]) <|
 .seq (.ops [⟨some 30, .buildSlice 23 0 #[], true, none⟩]) <|
 .amb (.seq (.ops [⟨some 29, .load 3 (.tmp 28), false, none⟩]) <|
 .seq (.ops [⟨some 33, .call ⟨.builtin .append, #[(.tmp 30), (.tmp 32)], #[23, 23]⟩, true, none⟩]) <|
 .seq (.ops [⟨some 34, .call ⟨.value (.func 9), #[(.tmp 21), (.tmp 23), (.tmp 25), (.tmp 27), (.tmp 29), (.tmp 33)], #[25, 3, 9, 3, 3, 23]⟩, true, none⟩]) <|
 .seq (.ops [⟨some 20, .move (.tmp 34), false, none⟩]) <|
 .seq (.ops [⟨some 35, .extract (.tmp 20) 0, false, none⟩]) <|
 .seq (.ops [⟨some 36, .extract (.tmp 20) 1, false, none⟩]) <|
 .seq (.ops [⟨some 8, .assign (.tmp 35), false, none⟩]) <|
 .seq (.ops [⟨some 10, .assign (.tmp 36), false, none⟩]) <|
 .skip) (.seq (.ops [⟨some 33, .call ⟨.builtin .append, #[(.tmp 30), (.tmp 32)], #[23, 23]⟩, true, none⟩]) <|
 .seq (.ops [⟨some 29, .load 3 (.tmp 28), false, none⟩]) <|
 .seq (.ops [⟨some 34, .call ⟨.value (.func 9), #[(.tmp 21), (.tmp 23), (.tmp 25), (.tmp 27), (.tmp 29), (.tmp 33)], #[25, 3, 9, 3, 3, 23]⟩, true, none⟩]) <|
 .seq (.ops [⟨some 20, .move (.tmp 34), false, none⟩]) <|
 .seq (.ops [⟨some 35, .extract (.tmp 20) 0, false, none⟩]) <|
 .seq (.ops [⟨some 36, .extract (.tmp 20) 1, false, none⟩]) <|
 .seq (.ops [⟨some 8, .assign (.tmp 35), false, none⟩]) <|
 .seq (.ops [⟨some 10, .assign (.tmp 36), false, none⟩]) <|
 .skip)))) (.amb (.seq (.ops [⟨some 29, .load 3 (.tmp 28), false, none⟩]) <|
 .amb (.seq (.ops [⟨some 30, .buildSlice 23 0 #[], true, none⟩]) <|
 .seq (.ops [⟨some 32, .load 23 (.tmp 31), false, none⟩]) <|
 .amb (.seq (.ops [⟨some 27, .load 3 (.tmp 26), false, none⟩]) <|
 .seq (.ops [⟨some 33, .call ⟨.builtin .append, #[(.tmp 30), (.tmp 32)], #[23, 23]⟩, true, none⟩]) <|
 .seq (.ops [⟨some 34, .call ⟨.value (.func 9), #[(.tmp 21), (.tmp 23), (.tmp 25), (.tmp 27), (.tmp 29), (.tmp 33)], #[25, 3, 9, 3, 3, 23]⟩, true, none⟩]) <|
 .seq (.ops [⟨some 20, .move (.tmp 34), false, none⟩]) <|
 .seq (.ops [⟨some 35, .extract (.tmp 20) 0, false, none⟩]) <|
 .seq (.ops [⟨some 36, .extract (.tmp 20) 1, false, none⟩]) <|
 .seq (.ops [⟨some 8, .assign (.tmp 35), false, none⟩]) <|
 .seq (.ops [⟨some 10, .assign (.tmp 36), false, none⟩]) <|
 .skip) (.seq (.ops [⟨some 33, .call ⟨.builtin .append, #[(.tmp 30), (.tmp 32)], #[23, 23]⟩, true, none⟩]) <|
 .seq (.ops [⟨some 27, .load 3 (.tmp 26), false, none⟩]) <|
 .seq (.ops [⟨some 34, .call ⟨.value (.func 9), #[(.tmp 21), (.tmp 23), (.tmp 25), (.tmp 27), (.tmp 29), (.tmp 33)], #[25, 3, 9, 3, 3, 23]⟩, true, none⟩]) <|
 .seq (.ops [⟨some 20, .move (.tmp 34), false, none⟩]) <|
 .seq (.ops [⟨some 35, .extract (.tmp 20) 0, false, none⟩]) <|
 .seq (.ops [⟨some 36, .extract (.tmp 20) 1, false, none⟩]) <|
 .seq (.ops [⟨some 8, .assign (.tmp 35), false, none⟩]) <|
 .seq (.ops [⟨some 10, .assign (.tmp 36), false, none⟩]) <|
 .skip)) (.seq (.ops [⟨some 32, .load 23 (.tmp 31), false, none⟩]) <|
 .seq (.ops [⟨some 30, .buildSlice 23 0 #[], true, none⟩]) <|
 .amb (.seq (.ops [⟨some 27, .load 3 (.tmp 26), false, none⟩]) <|
 .seq (.ops [⟨some 33, .call ⟨.builtin .append, #[(.tmp 30), (.tmp 32)], #[23, 23]⟩, true, none⟩]) <|
 .seq (.ops [⟨some 34, .call ⟨.value (.func 9), #[(.tmp 21), (.tmp 23), (.tmp 25), (.tmp 27), (.tmp 29), (.tmp 33)], #[25, 3, 9, 3, 3, 23]⟩, true, none⟩]) <|
 .seq (.ops [⟨some 20, .move (.tmp 34), false, none⟩]) <|
 .seq (.ops [⟨some 35, .extract (.tmp 20) 0, false, none⟩]) <|
 .seq (.ops [⟨some 36, .extract (.tmp 20) 1, false, none⟩]) <|
 .seq (.ops [⟨some 8, .assign (.tmp 35), false, none⟩]) <|
 .seq (.ops [⟨some 10, .assign (.tmp 36), false, none⟩]) <|
 .skip) (.seq (.ops [⟨some 33, .call ⟨.builtin .append, #[(.tmp 30), (.tmp 32)], #[23, 23]⟩, true, none⟩]) <|
 .seq (.ops [⟨some 27, .load 3 (.tmp 26), false, none⟩]) <|
 .seq (.ops [⟨some 34, .call ⟨.value (.func 9), #[(.tmp 21), (.tmp 23), (.tmp 25), (.tmp 27), (.tmp 29), (.tmp 33)], #[25, 3, 9, 3, 3, 23]⟩, true, none⟩]) <|
 .seq (.ops [⟨some 20, .move (.tmp 34), false, none⟩]) <|
 .seq (.ops [⟨some 35, .extract (.tmp 20) 0, false, none⟩]) <|
 .seq (.ops [⟨some 36, .extract (.tmp 20) 1, false, none⟩]) <|
 .seq (.ops [⟨some 8, .assign (.tmp 35), false, none⟩]) <|
 .seq (.ops [⟨some 10, .assign (.tmp 36), false, none⟩]) <|
 .skip))) (.amb (.seq (.ops [⟨some 30, .buildSlice 23 0 #[], true, none⟩]) <|
 .seq (.ops [⟨some 32, .load 23 (.tmp 31), false, none⟩]) <|
 .amb (.seq (.ops [⟨some 27, .load 3 (.tmp 26), false, none⟩]) <|
 .amb (.seq (.ops [⟨some 29, .load 3 (.tmp 28), false, none⟩]) <|
 .seq (.ops [⟨some 33, .call ⟨.builtin .append, #[(.tmp 30), (.tmp 32)], #[23, 23]⟩, true, none⟩]) <|
 .seq (.ops [⟨some 34, .call ⟨.value (.func 9), #[(.tmp 21), (.tmp 23), (.tmp 25), (.tmp 27), (.tmp 29), (.tmp 33)], #[25, 3, 9, 3, 3, 23]⟩, true, none⟩]) <|
 .seq (.ops [⟨some 20, .move (.tmp 34), false, none⟩]) <|
 .seq (.ops [⟨some 35, .extract (.tmp 20) 0, false, none⟩]) <|
 .seq (.ops [⟨some 36, .extract (.tmp 20) 1, false, none⟩]) <|
 .seq (.ops [⟨some 8, .assign (.tmp 35), false, none⟩]) <|
 .seq (.ops [⟨some 10, .assign (.tmp 36), false, none⟩]) <|
 .skip) (.seq (.ops [⟨some 33, .call ⟨.builtin .append, #[(.tmp 30), (.tmp 32)], #[23, 23]⟩, true, none⟩]) <|
 .seq (.ops [⟨some 29, .load 3 (.tmp 28), false, none⟩]) <|
 .seq (.ops [⟨some 34, .call ⟨.value (.func 9), #[(.tmp 21), (.tmp 23), (.tmp 25), (.tmp 27), (.tmp 29), (.tmp 33)], #[25, 3, 9, 3, 3, 23]⟩, true, none⟩]) <|
 .seq (.ops [⟨some 20, .move (.tmp 34), false, none⟩]) <|
 .seq (.ops [⟨some 35, .extract (.tmp 20) 0, false, none⟩]) <|
 .seq (.ops [⟨some 36, .extract (.tmp 20) 1, false, none⟩]) <|
 .seq (.ops [⟨some 8, .assign (.tmp 35), false, none⟩]) <|
 .seq (.ops [⟨some 10, .assign (.tmp 36), false, none⟩]) <|
 .skip)) (.amb (.seq (.ops [⟨some 29, .load 3 (.tmp 28), false, none⟩]) <|
 .seq (.ops [⟨some 33, .call ⟨.builtin .append, #[(.tmp 30), (.tmp 32)], #[23, 23]⟩, true, none⟩]) <|
 .seq (.ops [⟨some 27, .load 3 (.tmp 26), false, none⟩]) <|
 .seq (.ops [⟨some 34, .call ⟨.value (.func 9), #[(.tmp 21), (.tmp 23), (.tmp 25), (.tmp 27), (.tmp 29), (.tmp 33)], #[25, 3, 9, 3, 3, 23]⟩, true, none⟩]) <|
 .seq (.ops [⟨some 20, .move (.tmp 34), false, none⟩]) <|
 .seq (.ops [⟨some 35, .extract (.tmp 20) 0, false, none⟩]) <|
 .seq (.ops [⟨some 36, .extract (.tmp 20) 1, false, none⟩]) <|
 .seq (.ops [⟨some 8, .assign (.tmp 35), false, none⟩]) <|
 .seq (.ops [⟨some 10, .assign (.tmp 36), false, none⟩]) <|
 .skip) (.seq (.ops [⟨some 33, .call ⟨.builtin .append, #[(.tmp 30), (.tmp 32)], #[23, 23]⟩, true, none⟩]) <|
 .seq (.ops [⟨some 27, .load 3 (.tmp 26), false, none⟩]) <|
 .seq (.ops [⟨some 29, .load 3 (.tmp 28), false, none⟩]) <|
 .seq (.ops [⟨some 34, .call ⟨.value (.func 9), #[(.tmp 21), (.tmp 23), (.tmp 25), (.tmp 27), (.tmp 29), (.tmp 33)], #[25, 3, 9, 3, 3, 23]⟩, true, none⟩]) <|
 .seq (.ops [⟨some 20, .move (.tmp 34), false, none⟩]) <|
 .seq (.ops [⟨some 35, .extract (.tmp 20) 0, false, none⟩]) <|
 .seq (.ops [⟨some 36, .extract (.tmp 20) 1, false, none⟩]) <|
 .seq (.ops [⟨some 8, .assign (.tmp 35), false, none⟩]) <|
 .seq (.ops [⟨some 10, .assign (.tmp 36), false, none⟩]) <|
 .skip))) (.seq (.ops [⟨some 32, .load 23 (.tmp 31), false, none⟩]) <|
 .seq (.ops [⟨some 30, .buildSlice 23 0 #[], true, none⟩]) <|
 .amb (.seq (.ops [⟨some 27, .load 3 (.tmp 26), false, none⟩]) <|
 .amb (.seq (.ops [⟨some 29, .load 3 (.tmp 28), false, none⟩]) <|
 .seq (.ops [⟨some 33, .call ⟨.builtin .append, #[(.tmp 30), (.tmp 32)], #[23, 23]⟩, true, none⟩]) <|
 .seq (.ops [⟨some 34, .call ⟨.value (.func 9), #[(.tmp 21), (.tmp 23), (.tmp 25), (.tmp 27), (.tmp 29), (.tmp 33)], #[25, 3, 9, 3, 3, 23]⟩, true, none⟩]) <|
 .seq (.ops [⟨some 20, .move (.tmp 34), false, none⟩]) <|
 .seq (.ops [⟨some 35, .extract (.tmp 20) 0, false, none⟩]) <|
 .seq (.ops [⟨some 36, .extract (.tmp 20) 1, false, none⟩]) <|
 .seq (.ops [⟨some 8, .assign (.tmp 35), false, none⟩]) <|
 .seq (.ops [⟨some 10, .assign (.tmp 36), false, none⟩]) <|
 .skip) (.seq (.ops [⟨some 33, .call ⟨.builtin .append, #[(.tmp 30), (.tmp 32)], #[23, 23]⟩, true, none⟩]) <|
 .seq (.ops [⟨some 29, .load 3 (.tmp 28), false, none⟩]) <|
 .seq (.ops [⟨some 34, .call ⟨.value (.func 9), #[(.tmp 21), (.tmp 23), (.tmp 25), (.tmp 27), (.tmp 29), (.tmp 33)], #[25, 3, 9, 3, 3, 23]⟩, true, none⟩]) <|
 .seq (.ops [⟨some 20, .move (.tmp 34), false, none⟩]) <|
 .seq (.ops [⟨some 35, .extract (.tmp 20) 0, false, none⟩]) <|
 .seq (.ops [⟨some 36, .extract (.tmp 20) 1, false, none⟩]) <|
 .seq (.ops [⟨some 8, .assign (.tmp 35), false, none⟩]) <|
 .seq (.ops [⟨some 10, .assign (.tmp 36), false, none⟩]) <|
 .skip)) (.amb (.seq (.ops [⟨some 29, .load 3 (.tmp 28), false, none⟩]) <|
 .seq (.ops [⟨some 33, .call ⟨.builtin .append, #[(.tmp 30), (.tmp 32)], #[23, 23]⟩, true, none⟩]) <|
 .seq (.ops [⟨some 27, .load 3 (.tmp 26), false, none⟩]) <|
 .seq (.ops [⟨some 34, .call ⟨.value (.func 9), #[(.tmp 21), (.tmp 23), (.tmp 25), (.tmp 27), (.tmp 29), (.tmp 33)], #[25, 3, 9, 3, 3, 23]⟩, true, none⟩]) <|
 .seq (.ops [⟨some 20, .move (.tmp 34), false, none⟩]) <|
 .seq (.ops [⟨some 35, .extract (.tmp 20) 0, false, none⟩]) <|
 .seq (.ops [⟨some 36, .extract (.tmp 20) 1, false, none⟩]) <|
 .seq (.ops [⟨some 8, .assign (.tmp 35), false, none⟩]) <|
 .seq (.ops [⟨some 10, .assign (.tmp 36), false, none⟩]) <|
 .skip) (.seq (.ops [⟨some 33, .call ⟨.builtin .append, #[(.tmp 30), (.tmp 32)], #[23, 23]⟩, true, none⟩]) <|
 .seq (.ops [⟨some 27, .load 3 (.tmp 26), false, none⟩]) <|
 .seq (.ops [⟨some 29, .load 3 (.tmp 28), false, none⟩]) <|
 .seq (.ops [⟨some 34, .call ⟨.value (.func 9), #[(.tmp 21), (.tmp 23), (.tmp 25), (.tmp 27), (.tmp 29), (.tmp 33)], #[25, 3, 9, 3, 3, 23]⟩, true, none⟩]) <|
 .seq (.ops [⟨some 20, .move (.tmp 34), false, none⟩]) <|
 .seq (.ops [⟨some 35, .extract (.tmp 20) 0, false, none⟩]) <|
 .seq (.ops [⟨some 36, .extract (.tmp 20) 1, false, none⟩]) <|
 .seq (.ops [⟨some 8, .assign (.tmp 35), false, none⟩]) <|
 .seq (.ops [⟨some 10, .assign (.tmp 36), false, none⟩]) <|
 .skip)))))) (.amb (.seq (.ops [⟨some 27, .load 3 (.tmp 26), false, none⟩]) <|
 .amb (.seq (.ops [⟨some 29, .load 3 (.tmp 28), false, none⟩]) <|
 .amb (.seq (.ops [⟨some 30, .buildSlice 23 0 #[], true, none⟩]) <|
 .seq (.ops [⟨some 32, .load 23 (.tmp 31), false, none⟩]) <|
 .amb (.seq (.ops [⟨some 25, .load 9 (.tmp 24), false, none⟩]) <|
 .seq (.ops [⟨some 33, .call ⟨.builtin .append, #[(.tmp 30), (.tmp 32)], #[23, 23]⟩, true, none⟩]) <|
 .seq (.ops [⟨some 34, .call ⟨.value (.func 9), #[(.tmp 21), (.tmp 23), (.tmp 25), (.tmp 27), (.tmp 29), (.tmp 33)], #[25, 3, 9, 3, 3, 23]⟩, true, none⟩]) <|
 .seq (.ops [⟨some 20, .move (.tmp 34), false, none⟩]) <|
 .seq (.ops [⟨some 35, .extract (.tmp 20) 0, false, none⟩]) <|
 .seq (.ops [⟨some 36, .extract (.tmp 20) 1, false, none⟩]) <|
 .seq (.ops [⟨some 8, .assign (.tmp 35), false, none⟩]) <|
 .seq (.ops [⟨some 10, .assign (.tmp 36), false, none⟩]) <|
 .skip) (.seq (.ops [⟨some 33, .call ⟨.builtin .append, #[(.tmp 30), (.tmp 32)], #[23, 23]⟩, true, none⟩]) <|
 .seq (.ops [⟨some 25, .load 9 (.tmp 24), false, none⟩]) <|
 .seq (.ops [⟨some 34, .call ⟨.value (.func 9), #[(.tmp 21), (.tmp 23), (.tmp 25), (.tmp 27), (.tmp 29), (.tmp 33)], #[25, 3, 9, 3, 3, 23]⟩, true, none⟩]) <|
 .seq (.ops [⟨some 20, .move (.tmp 34), false, none⟩]) <|
 .seq (.ops [⟨some 35, .extract (.tmp 20) 0, false, none⟩]) <|
 .seq (.ops [⟨some 36, .extract (.tmp 20) 1, false, none⟩]) <|
 .seq (.ops [⟨some 8, .assign (.tmp 35), false, none⟩]) <|
 .seq (.ops [⟨some 10, .assign (.tmp 36), false, none⟩]) <|
 .skip)) (.seq (.ops [⟨some 32, .load 23 (.tmp 31), false, none⟩]) <|
 .seq (.ops [⟨some 30, .buildSlice 23 0 #[], true, none⟩]) <|
 .amb (.seq (.ops [⟨some 25, .load 9 (.tmp 24), false, none⟩]) <|
 .seq (.ops [⟨some 33, .call ⟨.builtin .append, #[(.tmp 30), (.tmp 32)], #[23, 23]⟩, true, none⟩]) <|
 .seq (.ops [⟨some 34, .call ⟨.value (.func 9), #[(.tmp 21), (.tmp 23), (.tmp 25), (.tmp 27), (.tmp 29), (.tmp 33)], #[25, 3, 9, 3, 3, 23]⟩, true, none⟩]) <|
 .seq (.ops [⟨some 20, .move (.tmp 34), false, none⟩]) <|
 .seq (.ops [⟨some 35, .extract (.tmp 20) 0, false, none⟩]) <|
 .seq (.ops [⟨some 36, .extract (.tmp 20) 1, false, none⟩]) <|
 .seq (.ops [⟨some 8, .assign (.tmp 35), false, none⟩]) <|
 .seq (.ops [⟨some 10, .assign (.tmp 36), false, none⟩]) <|
 .skip) (.seq (.ops [⟨some 33, .call ⟨.builtin .append, #[(.tmp 30), (.tmp 32)], #[23, 23]⟩, true, none⟩]) <|
 .seq (.ops [⟨some 25, .load 9 (.tmp 24), false, none⟩]) <|
 .seq (.ops [⟨some 34, .call ⟨.value (.func 9), #[(.tmp 21), (.tmp 23), (.tmp 25), (.tmp 27), (.tmp 29), (.tmp 33)], #[25, 3, 9, 3, 3, 23]⟩, true, none⟩]) <|
 .seq (.ops [⟨some 20, .move (.tmp 34), false, none⟩]) <|
 .seq (.ops [⟨some 35, .extract (.tmp 20) 0, false, none⟩]) <|
 .seq (.ops [⟨some 36, .extract (.tmp 20) 1, false, none⟩]) <|
 .seq (.ops [⟨some 8, .assign (.tmp 35), false, none⟩]) <|
 .seq (.ops [⟨some 10, .assign (.tmp 36), false, none⟩]) <|
 .skip))) (.amb (.seq (.ops [⟨some 30, .buildSlice 23 0 #[], true, none⟩]) <|
 .seq (.ops [⟨some 32, .load 23 (.tmp 31), false, none⟩]) <|
 .amb (.seq (.ops [⟨some 25, .load 9 (.tmp 24), false, none⟩]) <|
 .amb (.seq (.ops [⟨some 29, .load 3 (.tmp 28), false, none⟩]) <|
 .seq (.ops [⟨some 33, .call ⟨.builtin .append, #[(.tmp 30), (.tmp 32)], #[23, 23]⟩, true, none⟩]) <|
 .seq (.ops [⟨some 34, .call ⟨.value (.func 9), #[(.tmp 21), (.tmp 23), (.tmp 25), (.tmp 27), (.tmp 29), (.tmp 33)], #[25, 3, 9, 3, 3, 23]⟩, true, none⟩]) <|
 .seq (.ops [⟨some 20, .move (.tmp 34), false, none⟩]) <|
 .seq (.ops [⟨some 35, .extract (.tmp 20) 0, false, none⟩]) <|
 .seq (.ops [⟨some 36, .extract (.tmp 20) 1, false, none⟩]) <|
 .seq (.ops [⟨some 8, .assign (.tmp 35), false, none⟩]) <|
 .seq (.ops [⟨some 10, .assign (.tmp 36), false, none⟩]) <|
 .skip) (.seq (.ops [⟨some 33, .call ⟨.builtin .append, #[(.tmp 30), (.tmp 32)], #[23, 23]⟩, true, none⟩]) <|
 .seq (.ops [⟨some 29, .load 3 (.tmp 28), false, none⟩]) <|
 .seq (.ops [⟨some 34, .call ⟨.value (.func 9), #[(.tmp 21), (.tmp 23), (.tmp 25), (.tmp 27), (.tmp 29), (.tmp 33)], #[25, 3, 9, 3, 3, 23]⟩, true, none⟩]) <|
 .seq (.ops [⟨some 20, .move (.tmp 34), false, none⟩]) <|
 .seq (.ops [⟨some 35, .extract (.tmp 20) 0, false, none⟩]) <|
 .seq (.ops [⟨some 36, .extract (.tmp 20) 1, false, none⟩]) <|
 .seq (.ops [⟨some 8, .assign (.tmp 35), false, none⟩]) <|
 .seq (.ops [⟨some 10, .assign (.tmp 36), false, none⟩]) <|
 .skip)) (.amb (.seq (.ops [⟨some 29, .load 3 (.tmp 28), false, none⟩]) <|
 .seq (.ops [⟨some 33, .call ⟨.builtin .append, #[(.tmp 30), (.tmp 32)], #[23, 23]⟩, true, none⟩]) <|
 .seq (.ops [⟨some 25, .load 9 (.tmp 24), false, none⟩]) <|
 .seq (.ops [⟨some 34, .call ⟨.value (.func 9), #[(.tmp 21), (.tmp 23), (.tmp 25), (.tmp 27), (.tmp 29), (.tmp 33)], #[25, 3, 9, 3, 3, 23]⟩, true, none⟩]) <|
 .seq (.ops [⟨some 20, .move (.tmp 34), false, none⟩]) <|
 .seq (.ops [⟨some 35, .extract (.tmp 20) 0, false, none⟩]) <|
 .seq (.ops [⟨some 36, .extract (.tmp 20) 1, false, none⟩]) <|
 .seq (.ops [⟨some 8, .assign (.tmp 35), false, none⟩]) <|
 .seq (.ops [⟨some 10, .assign (.tmp 36), false, none⟩]) <|
 .skip) (.seq (.ops [⟨some 33, .call ⟨.builtin .append, #[(.tmp 30), (.tmp 32)], #[23, 23]⟩, true, none⟩]) <|
 .seq (.ops [⟨some 25, .load 9 (.tmp 24), false, none⟩]) <|
 .seq (.ops [⟨some 29, .load 3 (.tmp 28), false, none⟩]) <|
 .seq (.ops [⟨some 34, .call ⟨.value (.func 9), #[(.tmp 21), (.tmp 23), (.tmp 25), (.tmp 27), (.tmp 29), (.tmp 33)], #[25, 3, 9, 3, 3, 23]⟩, true, none⟩]) <|
 .seq (.ops [⟨some 20, .move (.tmp 34), false, none⟩]) <|
 .seq (.ops [⟨some 35, .extract (.tmp 20) 0, false, none⟩]) <|
 .seq (.ops [⟨some 36, .extract (.tmp 20) 1, false, none⟩]) <|
 .seq (.ops [⟨some 8, .assign (.tmp 35), false, none⟩]) <|
 .seq (.ops [⟨some 10, .assign (.tmp 36), false, none⟩]) <|
 .skip))) (.seq (.ops [⟨some 32, .load 23 (.tmp 31), false, none⟩]) <|
 .seq (.ops [⟨some 30, .buildSlice 23 0 #[], true, none⟩]) <|
 .amb (.seq (.ops [⟨some 25, .load 9 (.tmp 24), false, none⟩]) <|
 .amb (.seq (.ops [⟨some 29, .load 3 (.tmp 28), false, none⟩]) <|
 .seq (.ops [⟨some 33, .call ⟨.builtin .append, #[(.tmp 30), (.tmp 32)], #[23, 23]⟩, true, none⟩]) <|
 .seq (.ops [⟨some 34, .call ⟨.value (.func 9), #[(.tmp 21), (.tmp 23), (.tmp 25), (.tmp 27), (.tmp 29), (.tmp 33)], #[25, 3, 9, 3, 3, 23]⟩, true, none⟩]) <|
 .seq (.ops [⟨some 20, .move (.tmp 34), false, none⟩]) <|
 .seq (.ops [⟨some 35, .extract (.tmp 20) 0, false, none⟩]) <|
 .seq (.ops [⟨some 36, .extract (.tmp 20) 1, false, none⟩]) <|
 .seq (.ops [⟨some 8, .assign (.tmp 35), false, none⟩]) <|
 .seq (.ops [⟨some 10, .assign (.tmp 36), false, none⟩]) <|
 .skip) (.seq (.ops [⟨some 33, .call ⟨.builtin .append, #[(.tmp 30), (.tmp 32)], #[23, 23]⟩, true, none⟩]) <|
 .seq (.ops [⟨some 29, .load 3 (.tmp 28), false, none⟩]) <|
 .seq (.ops [⟨some 34, .call ⟨.value (.func 9), #[(.tmp 21), (.tmp 23), (.tmp 25), (.tmp 27), (.tmp 29), (.tmp 33)], #[25, 3, 9, 3, 3, 23]⟩, true, none⟩]) <|
 .seq (.ops [⟨some 20, .move (.tmp 34), false, none⟩]) <|
 .seq (.ops [⟨some 35, .extract (.tmp 20) 0, false, none⟩]) <|
 .seq (.ops [⟨some 36, .extract (.tmp 20) 1, false, none⟩]) <|
 .seq (.ops [⟨some 8, .assign (.tmp 35), false, none⟩]) <|
 .seq (.ops [⟨some 10, .assign (.tmp 36), false, none⟩]) <|
 .skip)) (.amb (.seq (.ops [⟨some 29, .load 3 (.tmp 28), false, none⟩]) <|
 .seq (.ops [⟨some 33, .call ⟨.builtin .append, #[(.tmp 30), (.tmp 32)], #[23, 23]⟩, true, none⟩]) <|
 .seq (.ops [⟨some 25, .load 9 (.tmp 24), false, none⟩]) <|
 .seq (.ops [⟨some 34, .call ⟨.value (.func 9), #[(.tmp 21), (.tmp 23), (.tmp 25), (.tmp 27), (.tmp 29), (.tmp 33)], #[25, 3, 9, 3, 3, 23]⟩, true, none⟩]) <|
 .seq (.ops [⟨some 20, .move (.tmp 34), false, none⟩]) <|
 .seq (.ops [⟨some 35, .extract (.tmp 20) 0, false, none⟩]) <|
 .seq (.ops [⟨some 36, .extract (.tmp 20) 1, false, none⟩]) <|
 .seq (.ops [⟨some 8, .assign (.tmp 35), false, none⟩]) <|
 .seq (.ops [⟨some 10, .assign (.tmp 36), false, none⟩]) <|
 .skip) (.seq (.ops [⟨some 33, .call ⟨.builtin .append, #[(.tmp 30), (.tmp 32)], #[23, 23]⟩, true, none⟩]) <|
 .seq (.ops [⟨some 25, .load 9 (.tmp 24), false, none⟩]) <|
 .seq (.ops [⟨some 29, .load 3 (.tmp 28), false, none⟩]) <|
 .seq (.ops [⟨some 34, .call ⟨.value (.func 9), #[(.tmp 21), (.tmp 23), (.tmp 25), (.tmp 27), (.tmp 29), (.tmp 33)], #[25, 3, 9, 3, 3, 23]⟩, true, none⟩]) <|
 .seq (.ops [⟨some 20, .move (.tmp 34), false, none⟩]) <|
 .seq (.ops [⟨some 35, .extract (.tmp 20) 0, false, none⟩]) <|
 .seq (.ops [⟨some 36, .extract (.tmp 20) 1, false, none⟩]) <|
 .seq (.ops [⟨some 8, .assign (.tmp 35), false, none⟩]) <|
 .seq (.ops [⟨some 10, .assign (.tmp 36), false, none⟩]) <|
 .skip))))) (.amb (.seq (.ops [⟨some 29, .load 3 (.tmp 28), false, none⟩]) <|
 .amb (.seq (.ops [⟨some 30, .buildSlice 23 0 #[], true, none⟩]) <|
 .seq (.ops [⟨some 32, .load 23 (.tmp 31), false, none⟩]) <|
 .amb (.seq (.ops [⟨some 25, .load 9 (.tmp 24), false, none⟩]) <|
 .amb (.seq (.ops [⟨some 27, .load 3 (.tmp 26), false, none⟩]) <|
 .seq (.ops [⟨some 33, .call ⟨.builtin .append, #[(.tmp 30), (.tmp 32)], #[23, 23]⟩, true, none⟩]) <|
 .seq (.ops [⟨some 34, .call ⟨.value (.func 9), #[(.tmp 21), (.tmp 23), (.tmp 25), (.tmp 27), (.tmp 29), (.tmp 33)], #[25, 3, 9, 3, 3, 23]⟩, true, none⟩]) <|
 .seq (.ops [⟨some 20, .move (.tmp 34), false, none⟩]) <|
 .seq (.ops [⟨some 35, .extract (.tmp 20) 0, false, none⟩]) <|
 .seq (.ops [⟨some 36, .extract (.tmp 20) 1, false, none⟩]) <|
 .seq (.ops [⟨some 8, .assign (.tmp 35), false, none⟩]) <|
 .seq (.ops [⟨some 10, .assign (.tmp 36), false, none⟩]) <|
 .skip) (.seq (.ops [⟨some 33, .call ⟨.builtin .append, #[(.tmp 30), (.tmp 32)], #[23, 23]⟩, true, none⟩]) <|
 .seq (.ops [⟨some 27, .load 3 (.tmp 26), false, none⟩]) <|
 .seq (.ops [⟨some 34, .call ⟨.value (.func 9), #[(.tmp 21), (.tmp 23), (.tmp 25), (.tmp 27), (.tmp 29), (.tmp 33)], #[25, 3, 9, 3, 3, 23]⟩, true, none⟩]) <|
 .seq (.ops [⟨some 20, .move (.tmp 34), false, none⟩]) <|
 .seq (.ops [⟨some 35, .extract (.tmp 20) 0, false, none⟩]) <|
 .seq (.ops [⟨some 36, .extract (.tmp 20) 1, false, none⟩]) <|
 .seq (.ops [⟨some 8, .assign (.tmp 35), false, none⟩]) <|
 .seq (.ops [⟨some 10, .assign (.tmp 36), false, none⟩]) <|
 .skip)) (.amb (.seq (.ops [⟨some 27, .load 3 (.tmp 26), false, none⟩]) <|
 .seq (.ops [⟨some 33, .call ⟨.builtin .append, #[(.tmp 30), (.tmp 32)], #[23, 23]⟩, true, none⟩]) <|
 .seq (.ops [⟨some 25, .load 9 (.tmp 24), false, none⟩]) <|
 .seq (.ops [⟨some 34, .call ⟨.value (.func 9), #[(.tmp 21), (.tmp 23), (.tmp 25), (.tmp 27), (.tmp 29), (.tmp 33)], #[25, 3, 9, 3, 3, 23]⟩, true, none⟩]) <|
 .seq (.ops [⟨some 20, .move (.tmp 34), false, none⟩]) <|
 .seq (.ops [⟨some 35, .extract (.tmp 20) 0, false, none⟩]) <|
 .seq (.ops [⟨some 36, .extract (.tmp 20) 1, false, none⟩]) <|
 .seq (.ops [⟨some 8, .assign (.tmp 35), false, none⟩]) <|
 .seq (.ops [⟨some 10, .assign (.tmp 36), false, none⟩]) <|
 .skip) (.seq (.ops [⟨some 33, .call ⟨.builtin .append, #[(.tmp 30), (.tmp 32)], #[23, 23]⟩, true, none⟩]) <|
 .seq (.ops [⟨some 25, .load 9 (.tmp 24), false, none⟩]) <|
 .seq (.ops [⟨some 27, .load 3 (.tmp 26), false, none⟩]) <|
 .seq (.ops [⟨some 34, .call ⟨.value (.func 9), #[(.tmp 21), (.tmp 23), (.tmp 25), (.tmp 27), (.tmp 29), (.tmp 33)], #[25, 3, 9, 3, 3, 23]⟩, true, none⟩]) <|
 .seq (.ops [⟨some 20, .move (.tmp 34), false, none⟩]) <|
 .seq (.ops [⟨some 35, .extract (.tmp 20) 0, false, none⟩]) <|
 .seq (.ops [⟨some 36, .extract (.tmp 20) 1, false, none⟩]) <|
 .seq (.ops [⟨some 8, .assign (.tmp 35), false, none⟩]) <|
 .seq (.ops [⟨some 10, .assign (.tmp 36), false, none⟩]) <|
 .skip))) (.seq (.ops [⟨some 32, .load 23 (.tmp 31), false, none⟩]) <|
 .seq (.ops [⟨some 30, .buildSlice 23 0 #[], true, none⟩]) <|
 .amb (.seq (.ops [⟨some 25, .load 9 (.tmp 24), false, none⟩]) <|
 .amb (.seq (.ops [⟨some 27, .load 3 (.tmp 26), false, none⟩]) <|
 .seq (.ops [⟨some 33, .call ⟨.builtin .append, #[(.tmp 30), (.tmp 32)], #[23, 23]⟩, true, none⟩]) <|
 .seq (.ops [⟨some 34, .call ⟨.value (.func 9), #[(.tmp 21), (.tmp 23), (.tmp 25), (.tmp 27), (.tmp 29), (.tmp 33)], #[25, 3, 9, 3, 3, 23]⟩, true, none⟩]) <|
 .seq (.ops [⟨some 20, .move (.tmp 34), false, none⟩]) <|
 .seq (.ops [⟨some 35, .extract (.tmp 20) 0, false, none⟩]) <|
 .seq (.ops [⟨some 36, .extract (.tmp 20) 1, false, none⟩]) <|
 .seq (.ops [⟨some 8, .assign (.tmp 35), false, none⟩]) <|
 .seq (.ops [⟨some 10, .assign (.tmp 36), false, none⟩]) <|
 .skip) (.seq (.ops [⟨some 33, .call ⟨.builtin .append, #[(.tmp 30), (.tmp 32)], #[23, 23]⟩, true, none⟩]) <|
 .seq (.ops [⟨some 27, .load 3 (.tmp 26), false, none⟩]) <|
 .seq (.ops [⟨some 34, .call ⟨.value (.func 9), #[(.tmp 21), (.tmp 23), (.tmp 25), (.tmp 27), (.tmp 29), (.tmp 33)], #[25, 3, 9, 3, 3, 23]⟩, true, none⟩]) <|
 .seq (.ops [⟨some 20, .move (.tmp 34), false, none⟩]) <|
 .seq (.ops [⟨some 35, .extract (.tmp 20) 0, false, none⟩]) <|
 .seq (.ops [⟨some 36, .extract (.tmp 20) 1, false, none⟩]) <|
 .seq (.ops [⟨some 8, .assign (.tmp 35), false, none⟩]) <|
 .seq (.ops [⟨some 10, .assign (.tmp 36), false, none⟩]) <|
 .skip)) (.amb (.seq (.ops [⟨some 27, .load 3 (.tmp 26), false, none⟩]) <|
 .seq (.ops [⟨some 33, .call ⟨.builtin .append, #[(.tmp 30), (.tmp 32)], #[23, 23]⟩, true, none⟩]) <|
 .seq (.ops [⟨some 25, .load 9 (.tmp 24), false, none⟩]) <|
 .seq (.ops [⟨some 34, .call ⟨.value (.func 9), #[(.tmp 21), (.tmp 23), (.tmp 25), (.tmp 27), (.tmp 29), (.tmp 33)], #[25, 3, 9, 3, 3, 23]⟩, true, none⟩]) <|
 .seq (.ops [⟨some 20, .move (.tmp 34), false, none⟩]) <|
 .seq (.ops [⟨some 35, .extract (.tmp 20) 0, false, none⟩]) <|
 .seq (.ops [⟨some 36, .extract (.tmp 20) 1, false, none⟩]) <|
 .seq (.ops [⟨some 8, .assign (.tmp 35), false, none⟩]) <|
 .seq (.ops [⟨some 10, .assign (.tmp 36), false, none⟩]) <|
 .skip) (.seq (.ops [⟨some 33, .call ⟨.builtin .append, #[(.tmp 30), (.tmp 32)], #[23, 23]⟩, true, none⟩]) <|
 .seq (.ops [⟨some 25, .load 9 (.tmp 24), false, none⟩]) <|
 .seq (.ops [⟨some 27, .load 3 (.tmp 26), false, none⟩]) <|
 .seq (.ops [⟨some 34, .call ⟨.value (.func 9), #[(.tmp 21), (.tmp 23), (.tmp 25), (.tmp 27), (.tmp 29), (.tmp 33)], #[25, 3, 9, 3, 3, 23]⟩, true, none⟩]) <|
 .seq (.ops [⟨some 20, .move (.tmp 34), false, none⟩]) <|
 .seq (.ops [⟨some 35, .extract (.tmp 20) 0, false, none⟩]) <|
 .seq (.ops [⟨some 36, .extract (.tmp 20) 1, false, none⟩]) <|
 .seq (.ops [⟨some 8, .assign (.tmp 35), false, none⟩]) <|
 .seq (.ops [⟨some 10, .assign (.tmp 36), false, none⟩]) <|
 .skip)))) (.amb (.seq (.ops [⟨some 30, .buildSlice 23 0 #[], true, none⟩]) <|
 .seq (.ops [⟨some 32, .load 23 (.tmp 31), false, none⟩]) <|
 .amb (.seq (.ops [⟨some 25, .load 9 (.tmp 24), false, none⟩]) <|
 .amb (.seq (.ops [⟨some 27, .load 3 (.tmp 26), false, none⟩]) <|
 .amb (.seq (.ops [⟨some 29, .load 3 (.tmp 28), false, none⟩]) <|
 .seq (.ops [⟨some 33, .call ⟨.builtin .append, #[(.tmp 30), (.tmp 32)], #[23, 23]⟩, true, none⟩]) <|
 .seq (.ops [⟨some 34, .call ⟨.value (.func 9), #[(.tmp 21), (.tmp 23), (.tmp 25), (.tmp 27), (.tmp 29), (.tmp 33)], #[25, 3, 9, 3, 3, 23]⟩, true, none⟩]) <|
 .seq (.ops [⟨some 20, .move (.tmp 34), false, none⟩]) <|
 .seq (.ops [⟨some 35, .extract (.tmp 20) 0, false, none⟩]) <|
 .seq (.ops [⟨some 36, .extract (.tmp 20) 1, false, none⟩]) <|
 .seq (.ops [⟨some 8, .assign (.tmp 35), false, none⟩]) <|
 .seq (.ops [⟨some 10, .assign (.tmp 36), false, none⟩]) <|
 .skip) (.seq (.ops [⟨some 33, .call ⟨.builtin .append, #[(.tmp 30), (.tmp 32)], #[23, 23]⟩, true, none⟩]) <|
 .seq (.ops [⟨some 29, .load 3 (.tmp 28), false, none⟩]) <|
 .seq (.ops [⟨some 34, .call ⟨.value (.func 9), #[(.tmp 21), (.tmp 23), (.tmp 25), (.tmp 27), (.tmp 29), (.tmp 33)], #[25, 3, 9, 3, 3, 23]⟩, true, none⟩]) <|
 .seq (.ops [⟨some 20, .move (.tmp 34), false, none⟩]) <|
 .seq (.ops [⟨some 35, .extract (.tmp 20) 0, false, none⟩]) <|
 .seq (.ops [⟨some 36, .extract (.tmp 20) 1, false, none⟩]) <|
 .seq (.ops [⟨some 8, .assign (.tmp 35), false, none⟩]) <|
 .seq (.ops [⟨some 10, .assign (.tmp 36), false, none⟩]) <|
 .skip)) (.amb (.seq (.ops [⟨some 29, .load 3 (.tmp 28), false, none⟩]) <|
 .seq (.ops [⟨some 33, .call ⟨.builtin .append, #[(.tmp 30), (.tmp 32)], #[23, 23]⟩, true, none⟩]) <|
 .seq (.ops [⟨some 27, .load 3 (.tmp 26), false, none⟩]) <|
 .seq (.ops [⟨some 34, .call ⟨.value (.func 9), #[(.tmp 21), (.tmp 23), (.tmp 25), (.tmp 27), (.tmp 29), (.tmp 33)], #[25, 3, 9, 3, 3, 23]⟩, true, none⟩]) <|
 .seq (.ops [⟨some 20, .move (.tmp 34), false, none⟩]) <|
 .seq (.ops [⟨some 35, .extract (.tmp 20) 0, false, none⟩]) <|
 .seq (.ops [⟨some 36, .extract (.tmp 20) 1, false, none⟩]) <|
 .seq (.ops [⟨some 8, .assign (.tmp 35), false, none⟩]) <|
 .seq (.ops [⟨some 10, .assign (.tmp 36), false, none⟩]) <|
 .skip) (.seq (.ops [⟨some 33, .call ⟨.builtin .append, #[(.tmp 30), (.tmp 32)], #[23, 23]⟩, true, none⟩]) <|
 .seq (.ops [⟨some 27, .load 3 (.tmp 26), false, none⟩]) <|
 .seq (.ops [⟨some 29, .load 3 (.tmp 28), false, none⟩]) <|
 .seq (.ops [⟨some 34, .call ⟨.value (.func 9), #[(.tmp 21), (.tmp 23), (.tmp 25), (.tmp 27), (.tmp 29), (.tmp 33)], #[25, 3, 9, 3, 3, 23]⟩, true, none⟩]) <|
 .seq (.ops [⟨some 20, .move (.tmp 34), false, none⟩]) <|
 .seq (.ops [⟨some 35, .extract (.tmp 20) 0, false, none⟩]) <|
 .seq (.ops [⟨some 36, .extract (.tmp 20) 1, false, none⟩]) <|
 .seq (.ops [⟨some 8, .assign (.tmp 35), false, none⟩]) <|
 .seq (.ops [⟨some 10, .assign (.tmp 36), false, none⟩]) <|
 .skip))) (.amb (.seq (.ops [⟨some 27, .load 3 (.tmp 26), false, none⟩]) <|
 .amb (.seq (.ops [⟨some 29, .load 3 (.tmp 28), false, none⟩]) <|
 .seq (.ops [⟨some 33, .call ⟨.builtin .append, #[(.tmp 30), (.tmp 32)], #[23, 23]⟩, true, none⟩]) <|
 .seq (.ops [⟨some 25, .load 9 (.tmp 24), false, none⟩]) <|
 .seq (.ops [⟨some 34, .call ⟨.value (.func 9), #[(.tmp 21), (.tmp 23), (.tmp 25), (.tmp 27), (.tmp 29), (.tmp 33)], #[25, 3, 9, 3, 3, 23]⟩, true, none⟩]) <|
 .seq (.ops [⟨some 20, .move (.tmp 34), false, none⟩]) <|
 .seq (.ops [⟨some 35, .extract (.tmp 20) 0, false, none⟩]) <|
 .seq (.ops [⟨some 36, .extract (.tmp 20) 1, false, none⟩]) <|
 .seq (.ops [⟨some 8, .assign (.tmp 35), false, none⟩]) <|
 .seq (.ops [⟨some 10, .assign (.tmp 36), false, none⟩]) <|
 .skip) (.seq (.ops [⟨some 33, .call ⟨.builtin .append, #[(.tmp 30), (.tmp 32)], #[23, 23]⟩, true, none⟩]) <|
 .seq (.ops [⟨some 25, .load 9 (.tmp 24), false, none⟩]) <|
 .seq (.ops [⟨some 29, .load 3 (.tmp 28), false, none⟩]) <|
 .seq (.ops [⟨some 34, .call ⟨.value (.func 9), #[(.tmp 21), (.tmp 23), (.tmp 25), (.tmp 27), (.tmp 29), (.tmp 33)], #[25, 3, 9, 3, 3, 23]⟩, true, none⟩]) <|
 .seq (.ops [⟨some 20, .move (.tmp 34), false, none⟩]) <|
 .seq (.ops [⟨some 35, .extract (.tmp 20) 0, false, none⟩]) <|
 .seq (.ops [⟨some 36, .extract (.tmp 20) 1, false, none⟩]) <|
 .seq (.ops [⟨some 8, .assign (.tmp 35), false, none⟩]) <|
 .seq (.ops [⟨some 10, .assign (.tmp 36), false, none⟩]) <|
 .skip)) (.amb (.seq (.ops [⟨some 29, .load 3 (.tmp 28), false, none⟩]) <|
 .seq (.ops [⟨some 33, .call ⟨.builtin .append, #[(.tmp 30), (.tmp 32)], #[23, 23]⟩, true, none⟩]) <|
 .seq (.ops [⟨some 25, .load 9 (.tmp 24), false, none⟩]) <|
 .seq (.ops [⟨some 27, .load 3 (.tmp 26), false, none⟩]) <|
 .seq (.ops [⟨some 34, .call ⟨.value (.func 9), #[(.tmp 21), (.tmp 23), (.tmp 25), (.tmp 27), (.tmp 29), (.tmp 33)], #[25, 3, 9, 3, 3, 23]⟩, true, none⟩]) <|
 .seq (.ops [⟨some 20, .move (.tmp 34), false, none⟩]) <|
 .seq (.ops [⟨some 35, .extract (.tmp 20) 0, false, none⟩]) <|
 .seq (.ops [⟨some 36, .extract (.tmp 20) 1, false, none⟩]) <|
 .seq (.ops [⟨some 8, .assign (.tmp 35), false, none⟩]) <|
 .seq (.ops [⟨some 10, .assign (.tmp 36), false, none⟩]) <|
 .skip) (.seq (.ops [⟨some 33, .call ⟨.builtin .append, #[(.tmp 30), (.tmp 32)], #[23, 23]⟩, true, none⟩]) <|
 .seq (.ops [⟨some 25, .load 9 (.tmp 24), false, none⟩]) <|
 .seq (.ops [⟨some 27, .load 3 (.tmp 26), false, none⟩]) <|
 .seq (.ops [⟨some 29, .load 3 (.tmp 28), false, none⟩]) <|
 .seq (.ops [⟨some 34, .call ⟨.value (.func 9), #[(.tmp 21), (.tmp 23), (.tmp 25), (.tmp 27), (.tmp 29), (.tmp 33)], #[25, 3, 9, 3, 3, 23]⟩, true, none⟩]) <|
 .seq (.ops [⟨some 20, .move (.tmp 34), false, none⟩]) <|
 .seq (.ops [⟨some 35, .extract (.tmp 20) 0, false, none⟩]) <|
 .seq (.ops [⟨some 36, .extract (.tmp 20) 1, false, none⟩]) <|
 .seq (.ops [⟨some 8, .assign (.tmp 35), false, none⟩]) <|
 .seq (.ops [⟨some 10, .assign (.tmp 36), false, none⟩]) <|
 .skip)))) (.seq (.ops [⟨some 32, .load 23 (.tmp 31), false, none⟩]) <|
 .seq (.ops [⟨some 30, .buildSlice 23 0 #[], true, none⟩]) <|
 .amb (.seq (.ops [⟨some 25, .load 9 (.tmp 24), false, none⟩]) <|
 .amb (.seq (.ops [⟨some 27, .load 3 (.tmp 26), false, none⟩]) <|
 .amb (.seq (.ops [⟨some 29, .load 3 (.tmp 28), false, none⟩]) <|
 .seq (.ops [⟨some 33, .call ⟨.builtin .append, #[(.tmp 30), (.tmp 32)], #[23, 23]⟩, true, none⟩]) <|
 .seq (.ops [⟨some 34, .call ⟨.value (.func 9), #[(.tmp 21), (.tmp 23), (.tmp 25), (.tmp 27), (.tmp 29), (.tmp 33)], #[25, 3, 9, 3, 3, 23]⟩, true, none⟩]) <|
 .seq (.ops [⟨some 20, .move (.tmp 34), false, none⟩]) <|
 .seq (.ops [⟨some 35, .extract (.tmp 20) 0, false, none⟩]) <|
 .seq (.ops [⟨some 36, .extract (.tmp 20) 1, false, none⟩]) <|
 .seq (.ops [⟨some 8, .assign (.tmp 35), false, none⟩]) <|
 .seq (.ops [⟨some 10, .assign (.tmp 36), false, none⟩]) <|
 .skip) (.seq (.ops [⟨some 33, .call ⟨.builtin .append, #[(.tmp 30), (.tmp 32)], #[23, 23]⟩, true, none⟩]) <|
 .seq (.ops [⟨some 29, .load 3 (.tmp 28), false, none⟩]) <|
 .seq (.ops [⟨some 34, .call ⟨.value (.func 9), #[(.tmp 21), (.tmp 23), (.tmp 25), (.tmp 27), (.tmp 29), (.tmp 33)], #[25, 3, 9, 3, 3, 23]⟩, true, none⟩]) <|
 .seq (.ops [⟨some 20, .move (.tmp 34), false, none⟩]) <|
 .seq (.ops [⟨some 35, .extract (.tmp 20) 0, false, none⟩]) <|
 .seq (.ops [⟨some 36, .extract (.tmp 20) 1, false, none⟩]) <|
 .seq (.ops [⟨some 8, .assign (.tmp 35), false, none⟩]) <|
 .seq (.ops [⟨some 10, .assign (.tmp 36), false, none⟩]) <|
 .skip)) (.amb (.seq (.ops [⟨some 29, .load 3 (.tmp 28), false, none⟩]) <|
 .seq (.ops [⟨some 33, .call ⟨.builtin .append, #[(.tmp 30), (.tmp 32)], #[23, 23]⟩, true, none⟩]) <|
 .seq (.ops [⟨some 27, .load 3 (.tmp 26), false, none⟩]) <|
 .seq (.ops [⟨some 34, .call ⟨.value (.func 9), #[(.tmp 21), (.tmp 23), (.tmp 25), (.tmp 27), (.tmp 29), (.tmp 33)], #[25, 3, 9, 3, 3, 23]⟩, true, none⟩]) <|
 .seq (.ops [⟨some 20, .move (.tmp 34), false, none⟩]) <|
 .seq (.ops [⟨some 35, .extract (.tmp 20) 0, false, none⟩]) <|
 .seq (.ops [⟨some 36, .extract (.tmp 20) 1, false, none⟩]) <|
 .seq (.ops [⟨some 8, .assign (.tmp 35), false, none⟩]) <|
 .seq (.ops [⟨some 10, .assign (.tmp 36), false, none⟩]) <|
 .skip) (.seq (.ops [⟨some 33, .call ⟨.builtin .append, #[(.tmp 30), (.tmp 32)], #[23, 23]⟩, true, none⟩]) <|
 .seq (.ops [⟨some 27, .load 3 (.tmp 26), false, none⟩]) <|
 .seq (.ops [⟨some 29, .load 3 (.tmp 28), false, none⟩]) <|
 .seq (.ops [⟨some 34, .call ⟨.value (.func 9), #[(.tmp 21), (.tmp 23), (.tmp 25), (.tmp 27), (.tmp 29), (.tmp 33)], #[25, 3, 9, 3, 3, 23]⟩, true, none⟩]) <|
 .seq (.ops [⟨some 20, .move (.tmp 34), false, none⟩]) <|
 .seq (.ops [⟨some 35, .extract (.tmp 20) 0, false, none⟩]) <|
 .seq (.ops [⟨some 36, .extract (.tmp 20) 1, false, none⟩]) <|
 .seq (.ops [⟨some 8, .assign (.tmp 35), false, none⟩]) <|
 .seq (.ops [⟨some 10, .assign (.tmp 36), false, none⟩]) <|
 .skip))) (.amb (.seq (.ops [⟨some 27, .load 3 (.tmp 26), false, none⟩]) <|
 .amb (.seq (.ops [⟨some 29, .load 3 (.tmp 28), false, none⟩]) <|
 .seq (.ops [⟨some 33, .call ⟨.builtin .append, #[(.tmp 30), (.tmp 32)], #[23, 23]⟩, true, none⟩]) <|
 .seq (.ops [⟨some 25, .load 9 (.tmp 24), false, none⟩]) <|
 .seq (.ops [⟨some 34, .call ⟨.value (.func 9), #[(.tmp 21), (.tmp 23), (.tmp 25), (.tmp 27), (.tmp 29), (.tmp 33)], #[25, 3, 9, 3, 3, 23]⟩, true, none⟩]) <|
 .seq (.ops [⟨some 20, .move (.tmp 34), false, none⟩]) <|
 .seq (.ops [⟨some 35, .extract (.tmp 20) 0, false, none⟩]) <|
 .seq (.ops [⟨some 36, .extract (.tmp 20) 1, false, none⟩]) <|
 .seq (.ops [⟨some 8, .assign (.tmp 35), false, none⟩]) <|
 .seq (.ops [⟨some 10, .assign (.tmp 36), false, none⟩]) <|
 .skip) (.seq (.ops [⟨some 33, .call ⟨.builtin .append, #[(.tmp 30), (.tmp 32)], #[23, 23]⟩, true, none⟩]) <|
 .seq (.ops [⟨some 25, .load 9 (.tmp 24), false, none⟩]) <|
 .seq (.ops [⟨some 29, .load 3 (.tmp 28), false, none⟩]) <|
 .seq (.ops [⟨some 34, .call ⟨.value (.func 9), #[(.tmp 21), (.tmp 23), (.tmp 25), (.tmp 27), (.tmp 29), (.tmp 33)], #[25, 3, 9, 3, 3, 23]⟩, true, none⟩]) <|
 .seq (.ops [⟨some 20, .move (.tmp 34), false, none⟩]) <|
 .seq (.ops [⟨some 35, .extract (.tmp 20) 0, false, none⟩]) <|
 .seq (.ops [⟨some 36, .extract (.tmp 20) 1, false, none⟩]) <|
 .seq (.ops [⟨some 8, .assign (.tmp 35), false, none⟩]) <|
 .seq (.ops [⟨some 10, .assign (.tmp 36), false, none⟩]) <|
 .skip)) (.amb (.seq (.ops [⟨some 29, .load 3 (.tmp 28), false, none⟩]) <|
 .seq (.ops [⟨some 33, .call ⟨.builtin .append, #[(.tmp 30), (.tmp 32)], #[23, 23]⟩, true, none⟩]) <|
 .seq (.ops [⟨some 25, .load 9 (.tmp 24), false, none⟩]) <|
 .seq (.ops [⟨some 27, .load 3 (.tmp 26), false, none⟩]) <|
 .seq (.ops [⟨some 34, .call ⟨.value (.func 9), #[(.tmp 21), (.tmp 23), (.tmp 25), (.tmp 27), (.tmp 29), (.tmp 33)], #[25, 3, 9, 3, 3, 23]⟩, true, none⟩]) <|
 .seq (.ops [⟨some 20, .move (.tmp 34), false, none⟩]) <|
 .seq (.ops [⟨some 35, .extract (.tmp 20) 0, false, none⟩]) <|
 .seq (.ops [⟨some 36, .extract (.tmp 20) 1, false, none⟩]) <|
 .seq (.ops [⟨some 8, .assign (.tmp 35), false, none⟩]) <|
 .seq (.ops [⟨some 10, .assign (.tmp 36), false, none⟩]) <|
 .skip) (.seq (.ops [⟨some 33, .call ⟨.builtin .append, #[(.tmp 30), (.tmp 32)], #[23, 23]⟩, true, none⟩]) <|
 .seq (.ops [⟨some 25, .load 9 (.tmp 24), false, none⟩]) <|
 .seq (.ops [⟨some 27, .load 3 (.tmp 26), false, none⟩]) <|
 .seq (.ops [⟨some 29, .load 3 (.tmp 28), false, none⟩]) <|
 .seq (.ops [⟨some 34, .call ⟨.value (.func 9), #[(.tmp 21), (.tmp 23), (.tmp 25), (.tmp 27), (.tmp 29), (.tmp 33)], #[25, 3, 9, 3, 3, 23]⟩, true, none⟩]) <|
 .seq (.ops [⟨some 20, .move (.tmp 34), false, none⟩]) <|
 .seq (.ops [⟨some 35, .extract (.tmp 20) 0, false, none⟩]) <|
 .seq (.ops [⟨some 36, .extract (.tmp 20) 1, false, none⟩]) <|
 .seq (.ops [⟨some 8, .assign (.tmp 35), false, none⟩]) <|
 .seq (.ops [⟨some 10, .assign (.tmp 36), false, none⟩]) <|
 .skip)))))))) (.amb (.seq (.ops [⟨some 25, .load 9 (.tmp 24), false, none⟩]) <|
 .amb (.seq (.ops [⟨some 27, .load 3 (.tmp 26), false, none⟩]) <|
 .amb (.seq (.ops [⟨some 29, .load 3 (.tmp 28), false, none⟩]) <|
 .amb (.seq (.ops [⟨some 30, .buildSlice 23 0 #[], true, none⟩]) <|
 .seq (.ops [⟨some 32, .load 23 (.tmp 31), false, none⟩]) <|
 .amb (.seq (.ops [⟨some 23, .load 3 (.tmp 22), false, none⟩]) <|
 .seq (.ops [⟨some 33, .call ⟨.builtin .append, #[(.tmp 30), (.tmp 32)], #[23, 23]⟩, true, none⟩]) <|
 .seq (.ops [⟨some 34, .call ⟨.value (.func 9), #[(.tmp 21), (.tmp 23), (.tmp 25), (.tmp 27), (.tmp 29), (.tmp 33)], #[25, 3, 9, 3, 3, 23]⟩, true, none⟩]) <|
 .seq (.ops [⟨some 20, .move (.tmp 34), false, none⟩]) <|
 .seq (.ops [⟨some 35, .extract (.tmp 20) 0, false, none⟩]) <|
 .seq (.ops [⟨some 36, .extract (.tmp 20) 1, false, none⟩]) <|
 .seq (.ops [⟨some 8, .assign (.tmp 35), false, none⟩]) <|
 .seq (.ops [⟨some 10, .assign (.tmp 36), false, none⟩]) <|
 .skip) (.seq (.ops [⟨some 33, .call ⟨.builtin .append, #[(.tmp 30), (.tmp 32)], #[23, 23]⟩, true, none⟩]) <|
 .seq (.ops [⟨some 23, .load 3 (.tmp 22), false, none⟩]) <|
 .seq (.ops [⟨some 34, .call ⟨.value (.func 9), #[(.tmp 21), (.tmp 23), (.tmp 25), (.tmp 27), (.tmp 29), (.tmp 33)], #[25, 3, 9, 3, 3, 23]⟩, true, none⟩]) <|
 .seq (.ops [⟨some 20, .move (.tmp 34), false, none⟩]) <|
 .seq (.ops [⟨some 35, .extract (.tmp 20) 0, false, none⟩]) <|
 .seq (.ops [⟨some 36, .extract (.tmp 20) 1, false, none⟩]) <|
 .seq (.ops [⟨some 8, .assign (.tmp 35), false, none⟩]) <|
 .seq (.ops [⟨some 10, .assign (.tmp 36), false, none⟩]) <|
 .skip)) (.seq (.ops [⟨some 32, .load 23 (.tmp 31), false, none⟩]) <|
 .seq (.ops [⟨some 30, .buildSlice 23 0 #[], true, none⟩]) <|
 .amb (.seq (.ops [⟨some 23, .load 3 (.tmp 22), false, none⟩]) <|
 .seq (.ops [⟨some 33, .call ⟨.builtin .append, #[(.tmp 30), (.tmp 32)], #[23, 23]⟩, true, none⟩]) <|
 .seq (.ops [⟨some 34, .call ⟨.value (.func 9), #[(.tmp 21), (.tmp 23), (.tmp 25), (.tmp 27), (.tmp 29), (.tmp 33)], #[25, 3, 9, 3, 3, 23]⟩, true, none⟩]) <|
 .seq (.ops [⟨some 20, .move (.tmp 34), false, none⟩]) <|
 .seq (.ops [⟨some 35, .extract (.tmp 20) 0, false, none⟩]) <|
 .seq (.ops [⟨some 36, .extract (.tmp 20) 1, false, none⟩]) <|
 .seq (.ops [⟨some 8, .assign (.tmp 35), false, none⟩]) <|
 .seq (.ops [⟨some 10, .assign (.tmp 36), false, none⟩]) <|
 .skip) (.seq (.ops [⟨some 33, .call ⟨.builtin .append, #[(.tmp 30), (.tmp 32)], #[23, 23]⟩, true, none⟩]) <|
 .seq (.ops [⟨some 23, .load 3 (.tmp 22), false, none⟩]) <|
 .seq (.ops [⟨some 34, .call ⟨.value (.func 9), #[(.tmp 21), (.tmp 23), (.tmp 25), (.tmp 27), (.tmp 29), (.tmp 33)], #[25, 3, 9, 3, 3, 23]⟩, true, none⟩]) <|
 .seq (.ops [⟨some 20, .move (.tmp 34), false, none⟩]) <|
 .seq (.ops [⟨some 35, .extract (.tmp 20) 0, false, none⟩]) <|
 .seq (.ops [⟨some 36, .extract (.tmp 20) 1, false, none⟩]) <|
 .seq (.ops [⟨some 8, .assign (.tmp 35), false, none⟩]) <|
 .seq (.ops [⟨some 10, .assign (.tmp 36), false, none⟩]) <|
 .skip))) (.amb (.seq (.ops [⟨some 30, .buildSlice 23 0 #[], true, none⟩]) <|
 .seq (.ops [⟨some 32, .load 23 (.tmp 31), false, none⟩]) <|
 .amb (.seq (.ops [⟨some 23, .load 3 (.tmp 22), false, none⟩]) <|
 .amb (.seq (.ops [⟨some 29, .load 3 (.tmp 28), false, none⟩]) <|
 .seq (.ops [⟨some 33, .call ⟨.builtin .append, #[(.tmp 30), (.tmp 32)], #[23, 23]⟩, true, none⟩]) <|
 .seq (.ops [⟨some 34, .call ⟨.value (.func 9), #[(.tmp 21), (.tmp 23), (.tmp 25), (.tmp 27), (.tmp 29), (.tmp 33)], #[25, 3, 9, 3, 3, 23]⟩, true, none⟩]) <|
 .seq (.ops [⟨some 20, .move (.tmp 34), false, none⟩]) <|
 .seq (.ops [⟨some 35, .extract (.tmp 20) 0, false, none⟩]) <|
 .seq (.ops [⟨some 36, .extract (.tmp 20) 1, false, none⟩]) <|
 .seq (.ops [⟨some 8, .assign (.tmp 35), false, none⟩]) <|
 .seq (.ops [⟨some 10, .assign (.tmp 36), false, none⟩]) <|
 .skip) (.seq (.ops [⟨some 33, .call ⟨.builtin .append, #[(.tmp 30), (.tmp 32)], #[23, 23]⟩, true, none⟩]) <|
 .seq (.ops [⟨some 29, .load 3 (.tmp 28), false, none⟩]) <|
 .seq (.ops [⟨some 34, .call ⟨.value (.func 9), #[(.tmp 21), (.tmp 23), (.tmp 25), (.tmp 27), (.tmp 29), (.tmp 33)], #[25, 3, 9, 3, 3, 23]⟩, true, none⟩]) <|
 .seq (.ops [⟨some 20, .move (.tmp 34), false, none⟩]) <|
 .seq (.ops [⟨some 35, .extract (.tmp 20) 0, false, none⟩]) <|
 .seq (.ops [⟨some 36, .extract (.tmp 20) 1, false, none⟩]) <|
 .seq (.ops [⟨some 8, .assign (.tmp 35), false, none⟩]) <|
 .seq (.ops [⟨some 10, .assign (.tmp 36), false, none⟩]) <|
 .skip)) (.amb (.seq (.ops [⟨some 29, .load 3 (.tmp 28), false, none⟩]) <|
 .seq (.ops [⟨some 33, .call ⟨.builtin .append, #[(.tmp 30), (.tmp 32)], #[23, 23]⟩, true, none⟩]) <|
 .seq (.ops [⟨some 23, .load 3 (.tmp 22), false, none⟩]) <|
 .seq (.ops [⟨some 34, .call ⟨.value (.func 9), #[(.tmp 21), (.tmp 23), (.tmp 25), (.tmp 27), (.tmp 29), (.tmp 33)], #[25, 3, 9, 3, 3, 23]⟩, true, none⟩]) <|
 .seq (.ops [⟨some 20, .move (.tmp 34), false, none⟩]) <|
 .seq (.ops [⟨some 35, .extract (.tmp 20) 0, false, none⟩]) <|
 .seq (.ops [⟨some 36, .extract (.tmp 20) 1, false, none⟩]) <|
 .seq (.ops [⟨some 8, .assign (.tmp 35), false, none⟩]) <|
 .seq (.ops [⟨some 10, .assign (.tmp 36), false, none⟩]) <|
 .skip) (.seq (.ops [⟨some 33, .call ⟨.builtin .append, #[(.tmp 30), (.tmp 32)], #[23, 23]⟩, true, none⟩]) <|
 .seq (.ops [⟨some 23, .load 3 (.tmp 22), false, none⟩]) <|
 .seq (.ops [⟨some 29, .load 3 (.tmp 28), false, none⟩]) <|
 .seq (.ops [⟨some 34, .call ⟨.value (.func 9), #[(.tmp 21), (.tmp 23), (.tmp 25), (.tmp 27), (.tmp 29), (.tmp 33)], #[25, 3, 9, 3, 3, 23]⟩, true, none⟩]) <|
 .seq (.ops [⟨some 20, .move (.tmp 34), false, none⟩]) <|
 .seq (.ops [⟨some 35, .extract (.tmp 20) 0, false, none⟩]) <|
 .seq (.ops [⟨some 36, .extract (.tmp 20) 1, false, none⟩]) <|
 .seq (.ops [⟨some 8, .assign (.tmp 35), false, none⟩]) <|
 .seq (.ops [⟨some 10, .assign (.tmp 36), false, none⟩]) <|
 .skip))) (.seq (.ops [⟨some 32, .load 23 (.tmp 31), false, none⟩]) <|
 .seq (.ops [⟨some 30, .buildSlice 23 0 #[], true, none⟩]) <|
 .amb (.seq (.ops [⟨some 23, .load 3 (.tmp 22), false, none⟩]) <|
 .amb (.seq (.ops [⟨some 29, .load 3 (.tmp 28), false, none⟩]) <|
 .seq (.ops [⟨some 33, .call ⟨.builtin .append, #[(.tmp 30), (.tmp 32)], #[23, 23]⟩, true, none⟩]) <|
 .seq (.ops [⟨some 34, .call ⟨.value (.func 9), #[(.tmp 21), (.tmp 23), (.tmp 25), (.tmp 27), (.tmp 29), (.tmp 33)], #[25, 3, 9, 3, 3, 23]⟩, true, none⟩]) <|
 .seq (.ops [⟨some 20, .move (.tmp 34), false, none⟩]) <|
 .seq (.ops [⟨some 35, .extract (.tmp 20) 0, false, none⟩]) <|
 .seq (.ops [⟨some 36, .extract (.tmp 20) 1, false, none⟩]) <|
 .seq (.ops [⟨some 8, .assign (.tmp 35), false, none⟩]) <|
 .seq (.ops [⟨some 10, .assign (.tmp 36), false, none⟩]) <|
 .skip) (.seq (.ops [⟨some 33, .call ⟨.builtin .append, #[(.tmp 30), (.tmp 32)], #[23, 23]⟩, true, none⟩]) <|
 .seq (.ops [⟨some 29, .load 3 (.tmp 28), false, none⟩]) <|
 .seq (.ops [⟨some 34, .call ⟨.value (.func 9), #[(.tmp 21), (.tmp 23), (.tmp 25), (.tmp 27), (.tmp 29), (.tmp 33)], #[25, 3, 9, 3, 3, 23]⟩, true, none⟩]) <|
 .seq (.ops [⟨some 20, .move (.tmp 34), false, none⟩]) <|
 .seq (.ops [⟨some 35, .extract (.tmp 20) 0, false, none⟩]) <|
 .seq (.ops [⟨some 36, .extract (.tmp 20) 1, false, none⟩]) <|
 .seq (.ops [⟨some 8, .assign (.tmp 35), false, none⟩]) <|
 .seq (.ops [⟨some 10, .assign (.tmp 36), false, none⟩]) <|
 .skip)) (.amb (.seq (.ops [⟨some 29, .load 3 (.tmp 28), false, none⟩]) <|
 .seq (.ops [⟨some 33, .call ⟨.builtin .append, #[(.tmp 30), (.tmp 32)], #[23, 23]⟩, true, none⟩]) <|
 .seq (.ops [⟨some 23, .load 3 (.tmp 22), false, none⟩]) <|
 .seq (.ops [⟨some 34, .call ⟨.value (.func 9), #[(.tmp 21), (.tmp 23), (.tmp 25), (.tmp 27), (.tmp 29), (.tmp 33)], #[25, 3, 9, 3, 3, 23]⟩, true, none⟩]) <|
 .seq (.ops [⟨some 20, .move (.tmp 34), false, none⟩]) <|
 .seq (.ops [⟨some 35, .extract (.tmp 20) 0, false, none⟩]) <|
 .seq (.ops [⟨some 36, .extract (.tmp 20) 1, false, none⟩]) <|
 .seq (.ops [⟨some 8, .assign (.tmp 35), false, none⟩]) <|
 .seq (.ops [⟨some 10, .assign (.tmp 36), false, none⟩]) <|
 .skip) (.seq (.ops [⟨some 33, .call ⟨.builtin .append, #[(.tmp 30), (.tmp 32)], #[23, 23]⟩, true, none⟩]) <|
 .seq (.ops [⟨some 23, .load 3 (.tmp 22), false, none⟩]) <|
 .seq (.ops [⟨some 29, .load 3 (.tmp 28), false, none⟩]) <|
 .seq (.ops [⟨some 34, .call ⟨.value (.func 9), #[(.tmp 21), (.tmp 23), (.tmp 25), (.tmp 27), (.tmp 29), (.tmp 33)], #[25, 3, 9, 3, 3, 23]⟩, true, none⟩]) <|
 .seq (.ops [⟨some 20, .move (.tmp 34), false, none⟩]) <|
 .seq (.ops [⟨some 35, .extract (.tmp 20) 0, false, none⟩]) <|
 .seq (.ops [⟨some 36, .extract (.tmp 20) 1, false, none⟩]) <|
 .seq (.ops [⟨some 8, .assign (.tmp 35), false, none⟩]) <|
 .seq (.ops [⟨some 10, .assign (.tmp 36), false, none⟩]) <|
 .skip))))) (.amb (.seq (.ops [⟨some 29, .load 3 (.tmp 28), false, none⟩]) <|
 .amb (.seq (.ops [⟨some 30, .buildSlice 23 0 #[], true, none⟩]) <|
 .seq (.ops [⟨some 32, .load 23 (.tmp 31), false, none⟩]) <|
 .amb (.seq (.ops [⟨some 23, .load 3 (.tmp 22), false, none⟩]) <|
 .amb (.seq (.ops [⟨some 27, .load 3 (.tmp 26), false, none⟩]) <|
 .seq (.ops [⟨some 33, .call ⟨.builtin .append, #[(.tmp 30), (.tmp 32)], #[23, 23]⟩, true, none⟩]) <|
 .seq (.ops [⟨some 34, .call ⟨.value (.func 9), #[(.tmp 21), (.tmp 23), (.tmp 25), (.tmp 27), (.tmp 29), (.tmp 33)], #[25, 3, 9, 3, 3, 23]⟩, true, none⟩]) <|
 .seq (.ops [⟨some 20, .move (.tmp 34), false, none⟩]) <|
 .seq (.ops [⟨some 35, .extract (.tmp 20) 0, false, none⟩]) <|
 .seq (.ops [⟨some 36, .extract (.tmp 20) 1, false, none⟩]) <|
 .seq (.ops [⟨some 8, .assign (.tmp 35), false, none⟩]) <|
 .seq (.ops [⟨some 10, .assign (.tmp 36), false, none⟩]) <|
 .skip) (.seq (.ops [⟨some 33, .call ⟨.builtin .append, #[(.tmp 30), (.tmp 32)], #[23, 23]⟩, true, none⟩]) <|
 .seq (.ops [⟨some 27, .load 3 (.tmp 26), false, none⟩]) <|
 .seq (.ops [⟨some 34, .call ⟨.value (.func 9), #[(.tmp 21), (.tmp 23), (.tmp 25), (.tmp 27), (.tmp 29), (.tmp 33)], #[25, 3, 9, 3, 3, 23]⟩, true, none⟩]) <|
 .seq (.ops [⟨some 20, .move (.tmp 34), false, none⟩]) <|
 .seq (.ops [⟨some 35, .extract (.tmp 20) 0, false, none⟩]) <|
 .seq (.ops [⟨some 36, .extract (.tmp 20) 1, false, none⟩]) <|
 .seq (.ops [⟨some 8, .assign (.tmp 35), false, none⟩]) <|
 .seq (.ops [⟨some 10, .assign (.tmp 36), false, none⟩]) <|
 .skip)) (.amb (.seq (.ops [⟨some 27, .load 3 (.tmp 26), false, none⟩]) <|
 .seq (.ops [⟨some 33, .call ⟨.builtin .append, #[(.tmp 30), (.tmp 32)], #[23, 23]⟩, true, none⟩]) <|
 .seq (.ops [⟨some 23, .load 3 (.tmp 22), false, none⟩]) <|
 .seq (.ops [⟨some 34, .call ⟨.value (.func 9), #[(.tmp 21), (.tmp 23), (.tmp 25), (.tmp 27), (.tmp 29), (.tmp 33)], #[25, 3, 9, 3, 3, 23]⟩, true, none⟩]) <|
 .seq (.ops [⟨some 20, .move (.tmp 34), false, none⟩]) <|
 .seq (.ops [⟨some 35, .extract (.tmp 20) 0, false, none⟩]) <|
 .seq (.ops [⟨some 36, .extract (.tmp 20) 1, false, none⟩]) <|
 .seq (.ops [⟨some 8, .assign (.tmp 35), false, none⟩]) <|
 .seq (.ops [⟨some 10, .assign (.tmp 36), false, none⟩]) <|
 .skip) (.seq (.ops [⟨some 33, .call ⟨.builtin .append, #[(.tmp 30), (.tmp 32)], #[23, 23]⟩, true, none⟩]) <|
 .seq (.ops [⟨some 23, .load 3 (.tmp 22), false, none⟩]) <|
 .seq (.ops [⟨some 27, .load 3 (.tmp 26), false, none⟩]) <|
 .seq (.ops [⟨some 34, .call ⟨.value (.func 9), #[(.tmp 21), (.tmp 23), (.tmp 25), (.tmp 27), (.tmp 29), (.tmp 33)], #[25, 3, 9, 3, 3, 23]⟩, true, none⟩]) <|
 .seq (.ops [⟨some 20, .move (.tmp 34), false, none⟩]) <|
 .seq (.ops [⟨some 35, .extract (.tmp 20) 0, false, none⟩]) <|
 .seq (.ops [⟨some 36, .extract (.tmp 20) 1, false, none⟩]) <|
 .seq (.ops [⟨some 8, .assign (.tmp 35), false, none⟩]) <|
 .seq (.ops [⟨some 10, .assign (.tmp 36), false, none⟩]) <|
 .skip))) (.seq (.ops [⟨some 32, .load 23 (.tmp 31), false, none⟩]) <|
 .seq (.ops [⟨some 30, .buildSlice 23 0 #[], true, none⟩]) <|
 .amb (.seq (.ops [⟨some 23, .load 3 (.tmp 22), false, none⟩]) <|
 .amb (.seq (.ops [⟨some 27, .load 3 (.tmp 26), false, none⟩]) <|
 .seq (.ops [⟨some 33, .call ⟨.builtin .append, #[(.tmp 30), (.tmp 32)], #[23, 23]⟩, true, none⟩]) <|
 .seq (.ops [⟨some 34, .call ⟨.value (.func 9), #[(.tmp 21), (.tmp 23), (.tmp 25), (.tmp 27), (.tmp 29), (.tmp 33)], #[25, 3, 9, 3, 3, 23]⟩, true, none⟩]) <|
 .seq (.ops [⟨some 20, .move (.tmp 34), false, none⟩]) <|
 .seq (.ops [⟨some 35, .extract (.tmp 20) 0, false, none⟩]) <|
 .seq (.ops [⟨some 36, .extract (.tmp 20) 1, false, none⟩]) <|
 .seq (.ops [⟨some 8, .assign (.tmp 35), false, none⟩]) <|
 .seq (.ops [⟨some 10, .assign (.tmp 36), false, none⟩]) <|
 .skip) (.seq (.ops [⟨some 33, .call ⟨.builtin .append, #[(.tmp 30), (.tmp 32)], #[23, 23]⟩, true, none⟩]) <|
 .seq (.ops [⟨some 27, .load 3 (.tmp 26), false, none⟩]) <|
 .seq (.ops [⟨some 34, .call ⟨.value (.func 9), #[(.tmp 21), (.tmp 23), (.tmp 25), (.tmp 27), (.tmp 29), (.tmp 33)], #[25, 3, 9, 3, 3, 23]⟩, true, none⟩]) <|
 .seq (.ops [⟨some 20, .move (.tmp 34), false, none⟩]) <|
 .seq (.ops [⟨some 35, .extract (.tmp 20) 0, false, none⟩]) <|
 .seq (.ops [⟨some 36, .extract (.tmp 20) 1, false, none⟩]) <|
 .seq (.ops [⟨some 8, .assign (.tmp 35), false, none⟩]) <|
 .seq (.ops [⟨some 10, .assign (.tmp 36), false, none⟩]) <|
 .skip)) (.amb (.seq (.ops [⟨some 27, .load 3 (.tmp 26), false, none⟩]) <|
 .seq (.ops [⟨some 33, .call ⟨.builtin .append, #[(.tmp 30), (.tmp 32)], #[23, 23]⟩, true, none⟩]) <|
 .seq (.ops [⟨some 23, .load 3 (.tmp 22), false, none⟩]) <|
 .seq (.ops [⟨some 34, .call ⟨.value (.func 9), #[(.tmp 21), (.tmp 23), (.tmp 25), (.tmp 27), (.tmp 29), (.tmp 33)], #[25, 3, 9, 3, 3, 23]⟩, true, none⟩]) <|
 .seq (.ops [⟨some 20, .move (.tmp 34), false, none⟩]) <|
 .seq (.ops [⟨some 35, .extract (.tmp 20) 0, false, none⟩]) <|
 .seq (.ops [⟨some 36, .extract (.tmp 20) 1, false, none⟩]) <|
 .seq (.ops [⟨some 8, .assign (.tmp 35), false, none⟩]) <|
 .seq (.ops [⟨some 10, .assign (.tmp 36), false, none⟩]) <|
 .skip) (.seq (.ops [⟨some 33, .call ⟨.builtin .append, #[(.tmp 30), (.tmp 32)], #[23, 23]⟩, true, none⟩]) <|
 .seq (.ops [⟨some 23, .load 3 (.tmp 22), false, none⟩]) <|
 .seq (.ops [⟨some 27, .load 3 (.tmp 26), false, none⟩]) <|
 .seq (.ops [⟨some 34, .call ⟨.value (.func 9), #[(.tmp 21), (.tmp 23), (.tmp 25), (.tmp 27), (.tmp 29), (.tmp 33)], #[25, 3, 9, 3, 3, 23]⟩, true, none⟩]) <|
 .seq (.ops [⟨some 20, .move (.tmp 34), false, none⟩]) <|
 .seq (.ops [⟨some 35, .extract (.tmp 20) 0, false, none⟩]) <|
 .seq (.ops [⟨some 36, .extract (.tmp 20) 1, false, none⟩]) <|
 .seq (.ops [⟨some 8, .assign (.tmp 35), false, none⟩]) <|
 .seq (.ops [⟨some 10, .assign (.tmp 36), false, none⟩]) <|
 .skip)))) (.amb (.seq (.ops [⟨some 30, .buildSlice 23 0 #[], true, none⟩]) <|
 .seq (.ops [⟨some 32, .load 23 (.tmp 31), false, none⟩]) <|
 .amb (.seq (.ops [⟨some 23, .load 3 (.tmp 22), false, none⟩]) <|
 .amb (.seq (.ops [⟨some 27, .load 3 (.tmp 26), false, none⟩]) <|
 .amb (.seq (.ops [⟨some 29, .load 3 (.tmp 28), false, none⟩]) <|
 .seq (.ops [⟨some 33, .call ⟨.builtin .append, #[(.tmp 30), (.tmp 32)], #[23, 23]⟩, true, none⟩]) <|
 .seq (.ops [⟨some 34, .call ⟨.value (.func 9), #[(.tmp 21), (.tmp 23), (.tmp 25), (.tmp 27), (.tmp 29), (.tmp 33)], #[25, 3, 9, 3, 3, 23]⟩, true, none⟩]) <|
 .seq (.ops [⟨some 20, .move (.tmp 34), false, none⟩]) <|
 .seq (.ops [⟨some 35, .extract (.tmp 20) 0, false, none⟩]) <|
 .seq (.ops [⟨some 36, .extract (.tmp 20) 1, false, none⟩]) <|
 .seq (.ops [⟨some 8, .assign (.tmp 35), false, none⟩]) <|
 .seq (.ops [⟨some 10, .assign (.tmp 36), false, none⟩]) <|
 .skip) (.seq (.ops [⟨some 33, .call ⟨.builtin .append, #[(.tmp 30), (.tmp 32)], #[23, 23]⟩, true, none⟩]) <|
 .seq (.ops [⟨some 29, .load 3 (.tmp 28), false, none⟩]) <|
 .seq (.ops [⟨some 34, .call ⟨.value (.func 9), #[(.tmp 21), (.tmp 23), (.tmp 25), (.tmp 27), (.tmp 29), (.tmp 33)], #[25, 3, 9, 3, 3, 23]⟩, true, none⟩]) <|
 .seq (.ops [⟨some 20, .move (.tmp 34), false, none⟩]) <|
 .seq (.ops [⟨some 35, .extract (.tmp 20) 0, false, none⟩]) <|
 .seq (.ops [⟨some 36, .extract (.tmp 20) 1, false, none⟩]) <|
 .seq (.ops [⟨some 8, .assign (.tmp 35), false, none⟩]) <|
 .seq (.ops [⟨some 10, .assign (.tmp 36), false, none⟩]) <|
 .skip)) (.amb (.seq (.ops [⟨some 29, .load 3 (.tmp 28), false, none⟩]) <|
 .seq (.ops [⟨some 33, .call ⟨.builtin .append, #[(.tmp 30), (.tmp 32)], #[23, 23]⟩, true, none⟩]) <|
 .seq (.ops [⟨some 27, .load 3 (.tmp 26), false, none⟩]) <|
 .seq (.ops [⟨some 34, .call ⟨.value (.func 9), #[(.tmp 21), (.tmp 23), (.tmp 25), (.tmp 27), (.tmp 29), (.tmp 33)], #[25, 3, 9, 3, 3, 23]⟩, true, none⟩]) <|
 .seq (.ops [⟨some 20, .move (.tmp 34), false, none⟩]) <|
 .seq (.ops [⟨some 35, .extract (.tmp 20) 0, false, none⟩]) <|
 .seq (.ops [⟨some 36, .extract (.tmp 20) 1, false, none⟩]) <|
 .seq (.ops [⟨some 8, .assign (.tmp 35), false, none⟩]) <|
 .seq (.ops [⟨some 10, .assign (.tmp 36), false, none⟩]) <|
 .skip) (.seq (.ops [⟨some 33, .call ⟨.builtin .append, #[(.tmp 30), (.tmp 32)], #[23, 23]⟩, true, none⟩]) <|
 .seq (.ops [⟨some 27, .load 3 (.tmp 26), false, none⟩]) <|
 .seq (.ops [⟨some 29, .load 3 (.tmp 28), false, none⟩]) <|
 .seq (.ops [⟨some 34, .call ⟨.value (.func 9), #[(.tmp 21), (.tmp 23), (.tmp 25), (.tmp 27), (.tmp 29), (.tmp 33)], #[25, 3, 9, 3, 3, 23]⟩, true, none⟩]) <|
 .seq (.ops [⟨some 20, .move (.tmp 34), false, none⟩]) <|
 .seq (.ops [⟨some 35, .extract (.tmp 20) 0, false, none⟩]) <|
 .seq (.ops [⟨some 36, .extract (.tmp 20) 1, false, none⟩]) <|
 .seq (.ops [⟨some 8, .assign (.tmp 35), false, none⟩]) <|
 .seq (.ops [⟨some 10, .assign (.tmp 36), false, none⟩]) <|
 .skip))) (.amb (.seq (.ops [⟨some 27, .load 3 (.tmp 26), false, none⟩]) <|
 .amb (.seq (.ops [⟨some 29, .load 3 (.tmp 28), false, none⟩]) <|
 .seq (.ops [⟨some 33, .call ⟨.builtin .append, #[(.tmp 30), (.tmp 32)], #[23, 23]⟩, true, none⟩]) <|
 .seq (.ops [⟨some 23, .load 3 (.tmp 22), false, none⟩]) <|
 .seq (.ops [⟨some 34, .call ⟨.value (.func 9), #[(.tmp 21), (.tmp 23), (.tmp 25), (.tmp 27), (.tmp 29), (.tmp 33)], #[25, 3, 9, 3, 3, 23]⟩, true, none⟩]) <|
 .seq (.ops [⟨some 20, .move (.tmp 34), false, none⟩]) <|
 .seq (.ops [⟨some 35, .extract (.tmp 20) 0, false, none⟩]) <|
 .seq (.ops [⟨some 36, .extract (.tmp 20) 1, false, none⟩]) <|
 .seq (.ops [⟨some 8, .assign (.tmp 35), false, none⟩]) <|
 .seq (.ops [⟨some 10, .assign (.tmp 36), false, none⟩]) <|
 .skip) (.seq (.ops [⟨some 33, .call ⟨.builtin .append, #[(.tmp 30), (.tmp 32)], #[23, 23]⟩, true, none⟩]) <|
 .seq (.ops [⟨some 23, .load 3 (.tmp 22), false, none⟩]) <|
 .seq (.ops [⟨some 29, .load 3 (.tmp 28), false, none⟩]) <|
 .seq (.ops [⟨some 34, .call ⟨.value (.func 9), #[(.tmp 21), (.tmp 23), (.tmp 25), (.tmp 27), (.tmp 29), (.tmp 33)], #[25, 3, 9, 3, 3, 23]⟩, true, none⟩]) <|
 .seq (.ops [⟨some 20, .move (.tmp 34), false, none⟩]) <|
 .seq (.ops [⟨some 35, .extract (.tmp 20) 0, false, none⟩]) <|
 .seq (.ops [⟨some 36, .extract (.tmp 20) 1, false, none⟩]) <|
 .seq (.ops [⟨some 8, .assign (.tmp 35), false, none⟩]) <|
 .seq (.ops [⟨some 10, .assign (.tmp 36), false, none⟩]) <|
 .skip)) (.amb (.seq (.ops [⟨some 29, .load 3 (.tmp 28), false, none⟩]) <|
 .seq (.ops [⟨some 33, .call ⟨.builtin .append, #[(.tmp 30), (.tmp 32)], #[23, 23]⟩, true, none⟩]) <|
 .seq (.ops [⟨some 23, .load 3 (.tmp 22), false, none⟩]) <|
 .seq (.ops [⟨some 27, .load 3 (.tmp 26), false, none⟩]) <|
 .seq (.ops [⟨some 34, .call ⟨.value (.func 9), #[(.tmp 21), (.tmp 23), (.tmp 25), (.tmp 27), (.tmp 29), (.tmp 33)], #[25, 3, 9, 3, 3, 23]⟩, true, none⟩]) <|
 .seq (.ops [⟨some 20, .move (.tmp 34), false, none⟩]) <|
 .seq (.ops [⟨some 35, .extract (.tmp 20) 0, false, none⟩]) <|
 .seq (.ops [⟨some 36, .extract (.tmp 20) 1, false, none⟩]) <|
 .seq (.ops [⟨some 8, .assign (.tmp 35), false, none⟩]) <|
 .seq (.ops [⟨some 10, .assign (.tmp 36), false, none⟩]) <|
 .skip) (.seq (.ops [⟨some 33, .call ⟨.builtin .append, #[(.tmp 30), (.tmp 32)], #[23, 23]⟩, true, none⟩]) <|
 .seq (.ops [⟨some 23, .load 3 (.tmp 22), false, none⟩]) <|
 .seq (.ops [⟨some 27, .load 3 (.tmp 26), false, none⟩]) <|
 .seq (.ops [⟨some 29, .load 3 (.tmp 28), false, none⟩]) <|
 .seq (.ops [⟨some 34, .call ⟨.value (.func 9), #[(.tmp 21), (.tmp 23), (.tmp 25), (.tmp 27), (.tmp 29), (.tmp 33)], #[25, 3, 9, 3, 3, 23]⟩, true, none⟩]) <|
 .seq (.ops [⟨some 20, .move (.tmp 34), false, none⟩]) <|
 .seq (.ops [⟨some 35, .extract (.tmp 20) 0, false, none⟩]) <|
 .seq (.ops [⟨some 36, .extract (.tmp 20) 1, false, none⟩]) <|
 .seq (.ops [⟨some 8, .assign (.tmp 35), false, none⟩]) <|
 .seq (.ops [⟨some 10, .assign (.tmp 36), false, none⟩]) <|
 .skip)))) (.seq (.ops [⟨some 32, .load 23 (.tmp 31), false, none⟩]) <|
 .seq (.ops [⟨some 30, .buildSlice 23 0 #[], true, none⟩]) <|
 .amb (.seq (.ops [⟨some 23, .load 3 (.tmp 22), false, none⟩]) <|
 .amb (.seq (.ops [⟨some 27, .load 3 (.tmp 26), false, none⟩]) <|
 .amb (.seq (.ops [⟨some 29, .load 3 (.tmp 28), false, none⟩]) <|
 .seq (.ops [⟨some 33, .call ⟨.builtin .append, #[(.tmp 30), (.tmp 32)], #[23, 23]⟩, true, none⟩]) <|
 .seq (.ops [⟨some 34, .call ⟨.value (.func 9), #[(.tmp 21), (.tmp 23), (.tmp 25), (.tmp 27), (.tmp 29), (.tmp 33)], #[25, 3, 9, 3, 3, 23]⟩, true, none⟩]) <|
 .seq (.ops [⟨some 20, .move (.tmp 34), false, none⟩]) <|
 .seq (.ops [⟨some 35, .extract (.tmp 20) 0, false, none⟩]) <|
 .seq (.ops [⟨some 36, .extract (.tmp 20) 1, false, none⟩]) <|
 .seq (.ops [⟨some 8, .assign (.tmp 35), false, none⟩]) <|
 .seq (.ops [⟨some 10, .assign (.tmp 36), false, none⟩]) <|
 .skip) (.seq (.ops [⟨some 33, .call ⟨.builtin .append, #[(.tmp 30), (.tmp 32)], #[23, 23]⟩, true, none⟩]) <|
 .seq (.ops [⟨some 29, .load 3 (.tmp 28), false, none⟩]) <|
 .seq (.ops [⟨some 34, .call ⟨.value (.func 9), #[(.tmp 21), (.tmp 23), (.tmp 25), (.tmp 27), (.tmp 29), (.tmp 33)], #[25, 3, 9, 3, 3, 23]⟩, true, none⟩]) <|
 .seq (.ops [⟨some 20, .move (.tmp 34), false, none⟩]) <|
 .seq (.ops [⟨some 35, .extract (.tmp 20) 0, false, none⟩]) <|
 .seq (.ops [⟨some 36, .extract (.tmp 20) 1, false, none⟩]) <|
 .seq (.ops [⟨some 8, .assign (.tmp 35), false, none⟩]) <|
 .seq (.ops [⟨some 10, .assign (.tmp 36), false, none⟩]) <|
 .skip)) (.amb (.seq (.ops [⟨some 29, .load 3 (.tmp 28), false, none⟩]) <|
 .seq (.ops [⟨some 33, .call ⟨.builtin .append, #[(.tmp 30), (.tmp 32)], #[23, 23]⟩, true, none⟩]) <|
 .seq (.ops [⟨some 27, .load 3 (.tmp 26), false, none⟩]) <|
 .seq (.ops [⟨some 34, .call ⟨.value (.func 9), #[(.tmp 21), (.tmp 23), (.tmp 25), (.tmp 27), (.tmp 29), (.tmp 33)], #[25, 3, 9, 3, 3, 23]⟩, true, none⟩]) <|
 .seq (.ops [⟨some 20, .move (.tmp 34), false, none⟩]) <|
 .seq (.ops [⟨some 35, .extract (.tmp 20) 0, false, none⟩]) <|
 .seq (.ops [⟨some 36, .extract (.tmp 20) 1, false, none⟩]) <|
 .seq (.ops [⟨some 8, .assign (.tmp 35), false, none⟩]) <|
 .seq (.ops [⟨some 10, .assign (.tmp 36), false, none⟩]) <|
 .skip) (.seq (.ops [⟨some 33, .call ⟨.builtin .append, #[(.tmp 30), (.tmp 32)], #[23, 23]⟩, true, none⟩]) <|
 .seq (.ops [⟨some 27, .load 3 (.tmp 26), false, none⟩]) <|
 .seq (.ops [⟨some 29, .load 3 (.tmp 28), false, none⟩]) <|
 .seq (.ops [⟨some 34, .call ⟨.value (.func 9), #[(.tmp 21), (.tmp 23), (.tmp 25), (.tmp 27), (.tmp 29), (.tmp 33)], #[25, 3, 9, 3, 3, 23]⟩, true, none⟩]) <|
 .seq (.ops [⟨some 20, .move (.tmp 34), false, none⟩]) <|
 .seq (.ops [⟨some 35, .extract (.tmp 20) 0, false, none⟩]) <|
 .seq (.ops [⟨some 36, .extract (.tmp 20) 1, false, none⟩]) <|
 .seq (.ops [⟨some 8, .assign (.tmp 35), false, none⟩]) <|
 .seq (.ops [⟨some 10, .assign (.tmp 36), false, none⟩]) <|
 .skip))) (.amb (.seq (.ops [⟨some 27, .load 3 (.tmp 26), false, none⟩]) <|
 .amb (.seq (.ops [⟨some 29, .load 3 (.tmp 28), false, none⟩]) <|
 .seq (.ops [⟨some 33, .call ⟨.builtin .append, #[(.tmp 30), (.tmp 32)], #[23, 23]⟩, true, none⟩]) <|
 .seq (.ops [⟨some 23, .load 3 (.tmp 22), false, none⟩]) <|
 .seq (.ops [⟨some 34, .call ⟨.value (.func 9), #[(.tmp 21), (.tmp 23), (.tmp 25), (.tmp 27), (.tmp 29), (.tmp 33)], #[25, 3, 9, 3, 3, 23]⟩, true, none⟩]) <|
 .seq (.ops [⟨some 20, .move (.tmp 34), false, none⟩]) <|
 .seq (.ops [⟨some 35, .extract (.tmp 20) 0, false, none⟩]) <|
 .seq (.ops [⟨some 36, .extract (.tmp 20) 1, false, none⟩]) <|
 .seq (.ops [⟨some 8, .assign (.tmp 35), false, none⟩]) <|
 .seq (.ops [⟨some 10, .assign (.tmp 36), false, none⟩]) <|
 .skip) (.seq (.ops [⟨some 33, .call ⟨.builtin .append, #[(.tmp 30), (.tmp 32)], #[23, 23]⟩, true, none⟩]) <|
 .seq (.ops [⟨some 23, .load 3 (.tmp 22), false, none⟩]) <|
 .seq (.ops [⟨some 29, .load 3 (.tmp 28), false, none⟩]) <|
 .seq (.ops [⟨some 34, .call ⟨.value (.func 9), #[(.tmp 21), (.tmp 23), (.tmp 25), (.tmp 27), (.tmp 29), (.tmp 33)], #[25, 3, 9, 3, 3, 23]⟩, true, none⟩]) <|
 .seq (.ops [⟨some 20, .move (.tmp 34), false, none⟩]) <|
 .seq (.ops [⟨some 35, .extract (.tmp 20) 0, false, none⟩]) <|
 .seq (.ops [⟨some 36, .extract (.tmp 20) 1, false, none⟩]) <|
 .seq (.ops [⟨some 8, .assign (.tmp 35), false, none⟩]) <|
 .seq (.ops [⟨some 10, .assign (.tmp 36), false, none⟩]) <|
 .skip)) (.amb (.seq (.ops [⟨some 29, .load 3 (.tmp 28), false, none⟩]) <|
 .seq (.ops [⟨some 33, .call ⟨.builtin .append, #[(.tmp 30), (.tmp 32)], #[23, 23]⟩, true, none⟩]) <|
 .seq (.ops [⟨some 23, .load 3 (.tmp 22), false, none⟩]) <|
 .seq (.ops [⟨some 27, .load 3 (.tmp 26), false, none⟩]) <|
 .seq (.ops [⟨some 34, .call ⟨.value (.func 9), #[(.tmp 21), (.tmp 23), (.tmp 25), (.tmp 27), (.tmp 29), (.tmp 33)], #[25, 3, 9, 3, 3, 23]⟩, true, none⟩]) <|
 .seq (.ops [⟨some 20, .move (.tmp 34), false, none⟩]) <|
 .seq (.ops [⟨some 35, .extract (.tmp 20) 0, false, none⟩]) <|
 .seq (.ops [⟨some 36, .extract (.tmp 20) 1, false, none⟩]) <|
 .seq (.ops [⟨some 8, .assign (.tmp 35), false, none⟩]) <|
 .seq (.ops [⟨some 10, .assign (.tmp 36), false, none⟩]) <|
 .skip) (.seq (.ops [⟨some 33, .call ⟨.builtin .append, #[(.tmp 30), (.tmp 32)], #[23, 23]⟩, true, none⟩]) <|
 .seq (.ops [⟨some 23, .load 3 (.tmp 22), false, none⟩]) <|
 .seq (.ops [⟨some 27, .load 3 (.tmp 26), false, none⟩]) <|
 .seq (.ops [⟨some 29, .load 3 (.tmp 28), false, none⟩]) <|
 .seq (.ops [⟨some 34, .call ⟨.value (.func 9), #[(.tmp 21), (.tmp 23), (.tmp 25), (.tmp 27), (.tmp 29), (.tmp 33)], #[25, 3, 9, 3, 3, 23]⟩, true, none⟩]) <|
 .seq (.ops [⟨some 20, .move (.tmp 34), false, none⟩]) <|
 .seq (.ops [⟨some 35, .extract (.tmp 20) 0, false, none⟩]) <|
 .seq (.ops [⟨some 36, .extract (.tmp 20) 1, false, none⟩]) <|
 .seq (.ops [⟨some 8, .assign (.tmp 35), false, none⟩]) <|
 .seq (.ops [⟨some 10, .assign (.tmp 36), false, none⟩]) <|
 .skip))))))) (.amb (.seq (.ops [⟨some 27, .load 3 (.tmp 26), false, none⟩]) <|
 .amb (.seq (.ops [⟨some 29, .load 3 (.tmp 28), false, none⟩]) <|
 .amb (.seq (.ops [⟨some 30, .buildSlice 23 0 #[], true, none⟩]) <|
 .seq (.ops [⟨some 32, .load 23 (.tmp 31), false, none⟩]) <|
 .amb (.seq (.ops [⟨some 23, .load 3 (.tmp 22), false, none⟩]) <|
 .amb (.seq (.ops [⟨some 25, .load 9 (.tmp 24), false, none⟩]) <|
 .seq (.ops [⟨some 33, .call ⟨.builtin .append, #[(.tmp 30), (.tmp 32)], #[23, 23]⟩, true, none⟩]) <|
 .seq (.ops [⟨some 34, .call ⟨.value (.func 9), #[(.tmp 21), (.tmp 23), (.tmp 25), (.tmp 27), (.tmp 29), (.tmp 33)], #[25, 3, 9, 3, 3, 23]⟩, true, none⟩]) <|
 .seq (.ops [⟨some 20, .move (.tmp 34), false, none⟩]) <|
 .seq (.ops [⟨some 35, .extract (.tmp 20) 0, false, none⟩]) <|
 .seq (.ops [⟨some 36, .extract (.tmp 20) 1, false, none⟩]) <|
 .seq (.ops [⟨some 8, .assign (.tmp 35), false, none⟩]) <|
 .seq (.ops [⟨some 10, .assign (.tmp 36), false, none⟩]) <|
 .skip) (.seq (.ops [⟨some 33, .call ⟨.builtin .append, #[(.tmp 30), (.tmp 32)], #[23, 23]⟩, true, none⟩]) <|
 .seq (.ops [⟨some 25, .load 9 (.tmp 24), false, none⟩]) <|
 .seq (.ops [⟨some 34, .call ⟨.value (.func 9), #[(.tmp 21), (.tmp 23), (.tmp 25), (.tmp 27), (.tmp 29), (.tmp 33)], #[25, 3, 9, 3, 3, 23]⟩, true, none⟩]) <|
 .seq (.ops [⟨some 20, .move (.tmp 34), false, none⟩]) <|
 .seq (.ops [⟨some 35, .extract (.tmp 20) 0, false, none⟩]) <|
 .seq (.ops [⟨some 36, .extract (.tmp 20) 1, false, none⟩]) <|
 .seq (.ops [⟨some 8, .assign (.tmp 35), false, none⟩]) <|
 .seq (.ops [⟨some 10, .assign (.tmp 36), false, none⟩]) <|
 .skip)) (.amb (.seq (.ops [⟨some 25, .load 9 (.tmp 24), false, none⟩]) <|
 .seq (.ops [⟨some 33, .call ⟨.builtin .append, #[(.tmp 30), (.tmp 32)], #[23, 23]⟩, true, none⟩]) <|
 .seq (.ops [⟨some 23, .load 3 (.tmp 22), false, none⟩]) <|
 .seq (.ops [⟨some 34, .call ⟨.value (.func 9), #[(.tmp 21), (.tmp 23), (.tmp 25), (.tmp 27), (.tmp 29), (.tmp 33)], #[25, 3, 9, 3, 3, 23]⟩, true, none⟩]) <|
 .seq (.ops [⟨some 20, .move (.tmp 34), false, none⟩]) <|
 .seq (.ops [⟨some 35, .extract (.tmp 20) 0, false, none⟩]) <|
 .seq (.ops [⟨some 36, .extract (.tmp 20) 1, false, none⟩]) <|
 .seq (.ops [⟨some 8, .assign (.tmp 35), false, none⟩]) <|
 .seq (.ops [⟨some 10, .assign (.tmp 36), false, none⟩]) <|
 .skip) (.seq (.ops [⟨some 33, .call ⟨.builtin .append, #[(.tmp 30), (.tmp 32)], #[23, 23]⟩, true, none⟩]) <|
 .seq (.ops [⟨some 23, .load 3 (.tmp 22), false, none⟩]) <|
 .seq (.ops [⟨some 25, .load 9 (.tmp 24), false, none⟩]) <|
 .seq (.ops [⟨some 34, .call ⟨.value (.func 9), #[(.tmp 21), (.tmp 23), (.tmp 25), (.tmp 27), (.tmp 29), (.tmp 33)], #[25, 3, 9, 3, 3, 23]⟩, true, none⟩]) <|
 .seq (.ops [⟨some 20, .move (.tmp 34), false, none⟩]) <|
 .seq (.ops [⟨some 35, .extract (.tmp 20) 0, false, none⟩]) <|
 .seq (.ops [⟨some 36, .extract (.tmp 20) 1, false, none⟩]) <|
 .seq (.ops [⟨some 8, .assign (.tmp 35), false, none⟩]) <|
 .seq (.ops [⟨some 10, .assign (.tmp 36), false, none⟩]) <|
 .skip))) (.seq (.ops [⟨some 32, .load 23 (.tmp 31), false, none⟩]) <|
 .seq (.ops [⟨some 30, .buildSlice 23 0 #[], true, none⟩]) <|
 .amb (.seq (.ops [⟨some 23, .load 3 (.tmp 22), false, none⟩]) <|
 .amb (.seq (.ops [⟨some 25, .load 9 (.tmp 24), false, none⟩]) <|
 .seq (.ops [⟨some 33, .call ⟨.builtin .append, #[(.tmp 30), (.tmp 32)], #[23, 23]⟩, true, none⟩]) <|
 .seq (.ops [⟨some 34, .call ⟨.value (.func 9), #[(.tmp 21), (.tmp 23), (.tmp 25), (.tmp 27), (.tmp 29), (.tmp 33)], #[25, 3, 9, 3, 3, 23]⟩, true, none⟩]) <|
 .seq (.ops [⟨some 20, .move (.tmp 34), false, none⟩]) <|
 .seq (.ops [⟨some 35, .extract (.tmp 20) 0, false, none⟩]) <|
 .seq (.ops [⟨some 36, .extract (.tmp 20) 1, false, none⟩]) <|
 .seq (.ops [⟨some 8, .assign (.tmp 35), false, none⟩]) <|
 .seq (.ops [⟨some 10, .assign (.tmp 36), false, none⟩]) <|
 .skip) (.seq (.ops [⟨some 33, .call ⟨.builtin .append, #[(.tmp 30), (.tmp 32)], #[23, 23]⟩, true, none⟩]) <|
 .seq (.ops [⟨some 25, .load 9 (.tmp 24), false, none⟩]) <|
 .seq (.ops [⟨some 34, .call ⟨.value (.func 9), #[(.tmp 21), (.tmp 23), (.tmp 25), (.tmp 27), (.tmp 29), (.tmp 33)], #[25, 3, 9, 3, 3, 23]⟩, true, none⟩]) <|
 .seq (.ops [⟨some 20, .move (.tmp 34), false, none⟩]) <|
 .seq (.ops [⟨some 35, .extract (.tmp 20) 0, false, none⟩]) <|
 .seq (.ops [⟨some 36, .extract (.tmp 20) 1, false, none⟩]) <|
 .seq (.ops [⟨some 8, .assign (.tmp 35), false, none⟩]) <|
 .seq (.ops [⟨some 10, .assign (.tmp 36), false, none⟩]) <|
 .skip)) (.amb (.seq (.ops [⟨some 25, .load 9 (.tmp 24), false, none⟩]) <|
 .seq (.ops [⟨some 33, .call ⟨.builtin .append, #[(.tmp 30), (.tmp 32)], #[23, 23]⟩, true, none⟩]) <|
 .seq (.ops [⟨some 23, .load 3 (.tmp 22), false, none⟩]) <|
 .seq (.ops [⟨some 34, .call ⟨.value (.func 9), #[(.tmp 21), (.tmp 23), (.tmp 25), (.tmp 27), (.tmp 29), (.tmp 33)], #[25, 3, 9, 3, 3, 23]⟩, true, none⟩]) <|
 .seq (.ops [⟨some 20, .move (.tmp 34), false, none⟩]) <|
 .seq (.ops [⟨some 35, .extract (.tmp 20) 0, false, none⟩]) <|
 .seq (.ops [⟨some 36, .extract (.tmp 20) 1, false, none⟩]) <|
 .seq (.ops [⟨some 8, .assign (.tmp 35), false, none⟩]) <|
 .seq (.ops [⟨some 10, .assign (.tmp 36), false, none⟩]) <|
 .skip) (.seq (.ops [⟨some 33, .call ⟨.builtin .append, #[(.tmp 30), (.tmp 32)], #[23, 23]⟩, true, none⟩]) <|
 .seq (.ops [⟨some 23, .load 3 (.tmp 22), false, none⟩]) <|
 .seq (.ops [⟨some 25, .load 9 (.tmp 24), false, none⟩]) <|
 .seq (.ops [⟨some 34, .call ⟨.value (.func 9), #[(.tmp 21), (.tmp 23), (.tmp 25), (.tmp 27), (.tmp 29), (.tmp 33)], #[25, 3, 9, 3, 3, 23]⟩, true, none⟩]) <|
 .seq (.ops [⟨some 20, .move (.tmp 34), false, none⟩]) <|
 .seq (.ops [⟨some 35, .extract (.tmp 20) 0, false, none⟩]) <|
 .seq (.ops [⟨some 36, .extract (.tmp 20) 1, false, none⟩]) <|
 .seq (.ops [⟨some 8, .assign (.tmp 35), false, none⟩]) <|
 .seq (.ops [⟨some 10, .assign (.tmp 36), false, none⟩]) <|
 .skip)))) (.amb (.seq (.ops [⟨some 30, .buildSlice 23 0 #[], true, none⟩]) <|
 .seq (.ops [⟨some 32, .load 23 (.tmp 31), false, none⟩]) <|
 .amb (.seq (.ops [⟨some 23, .load 3 (.tmp 22), false, none⟩]) <|
 .amb (.seq (.ops [⟨some 25, .load 9 (.tmp 24), false, none⟩]) <|
 .amb (.seq (.ops [⟨some 29, .load 3 (.tmp 28), false, none⟩]) <|
 .seq (.ops [⟨some 33, .call ⟨.builtin .append, #[(.tmp 30), (.tmp 32)], #[23, 23]⟩, true, none⟩]) <|
 .seq (.ops [⟨some 34, .call ⟨.value (.func 9), #[(.tmp 21), (.tmp 23), (.tmp 25), (.tmp 27), (.tmp 29), (.tmp 33)], #[25, 3, 9, 3, 3, 23]⟩, true, none⟩]) <|
 .seq (.ops [⟨some 20, .move (.tmp 34), false, none⟩]) <|
 .seq (.ops [⟨some 35, .extract (.tmp 20) 0, false, none⟩]) <|
 .seq (.ops [⟨some 36, .extract (.tmp 20) 1, false, none⟩]) <|
 .seq (.ops [⟨some 8, .assign (.tmp 35), false, none⟩]) <|
 .seq (.ops [⟨some 10, .assign (.tmp 36), false, none⟩]) <|
 .skip) (.seq (.ops [⟨some 33, .call ⟨.builtin .append, #[(.tmp 30), (.tmp 32)], #[23, 23]⟩, true, none⟩]) <|
 .seq (.ops [⟨some 29, .load 3 (.tmp 28), false, none⟩]) <|
 .seq (.ops [⟨some 34, .call ⟨.value (.func 9), #[(.tmp 21), (.tmp 23), (.tmp 25), (.tmp 27), (.tmp 29), (.tmp 33)], #[25, 3, 9, 3, 3, 23]⟩, true, none⟩]) <|
 .seq (.ops [⟨some 20, .move (.tmp 34), false, none⟩]) <|
 .seq (.ops [⟨some 35, .extract (.tmp 20) 0, false, none⟩]) <|
 .seq (.ops [⟨some 36, .extract (.tmp 20) 1, false, none⟩]) <|
 .seq (.ops [⟨some 8, .assign (.tmp 35), false, none⟩]) <|
 .seq (.ops [⟨some 10, .assign (.tmp 36), false, none⟩]) <|
 .skip)) (.amb (.seq (.ops [⟨some 29, .load 3 (.tmp 28), false, none⟩]) <|
 .seq (.ops [⟨some 33, .call ⟨.builtin .append, #[(.tmp 30), (.tmp 32)], #[23, 23]⟩, true, none⟩]) <|
 .seq (.ops [⟨some 25, .load 9 (.tmp 24), false, none⟩]) <|
 .seq (.ops [⟨some 34, .call ⟨.value (.func 9), #[(.tmp 21), (.tmp 23), (.tmp 25), (.tmp 27), (.tmp 29), (.tmp 33)], #[25, 3, 9, 3, 3, 23]⟩, true, none⟩]) <|
 .seq (.ops [⟨some 20, .move (.tmp 34), false, none⟩]) <|
 .seq (.ops [⟨some 35, .extract (.tmp 20) 0, false, none⟩]) <|
 .seq (.ops [⟨some 36, .extract (.tmp 20) 1, false, none⟩]) <|
 .seq (.ops [⟨some 8, .assign (.tmp 35), false, none⟩]) <|
 .seq (.ops [⟨some 10, .assign (.tmp 36), false, none⟩]) <|
 .skip) (.seq (.ops [⟨some 33, .call ⟨.builtin .append, #[(.tmp 30), (.tmp 32)], #[23, 23]⟩, true, none⟩]) <|
 .seq (.ops [⟨some 25, .load 9 (.tmp 24), false, none⟩]) <|
 .seq (.ops [⟨some 29, .load 3 (.tmp 28), false, none⟩]) <|
 .seq (.ops [⟨some 34, .call ⟨.value (.func 9), #[(.tmp 21), (.tmp 23), (.tmp 25), (.tmp 27), (.tmp 29), (.tmp 33)], #[25, 3, 9, 3, 3, 23]⟩, true, none⟩]) <|
 .seq (.ops [⟨some 20, .move (.tmp 34), false, none⟩]) <|
 .seq (.ops [⟨some 35, .extract (.tmp 20) 0, false, none⟩]) <|
 .seq (.ops [⟨some 36, .extract (.tmp 20) 1, false, none⟩]) <|
 .seq (.ops [⟨some 8, .assign (.tmp 35), false, none⟩]) <|
 .seq (.ops [⟨some 10, .assign (.tmp 36), false, none⟩]) <|
 .skip))) (.amb (.seq (.ops [⟨some 25, .load 9 (.tmp 24), false, none⟩]) <|
 .amb (.seq (.ops [⟨some 29, .load 3 (.tmp 28), false, none⟩]) <|
 .seq (.ops [⟨some 33, .call ⟨.builtin .append, #[(.tmp 30), (.tmp 32)], #[23, 23]⟩, true, none⟩]) <|
 .seq (.ops [⟨some 23, .load 3 (.tmp 22), false, none⟩]) <|
 .seq (.ops [⟨some 34, .call ⟨.value (.func 9), #[(.tmp 21), (.tmp 23), (.tmp 25), (.tmp 27), (.tmp 29), (.tmp 33)], #[25, 3, 9, 3, 3, 23]⟩, true, none⟩]) <|
 .seq (.ops [⟨some 20, .move (.tmp 34), false, none⟩]) <|
 .seq (.ops [⟨some 35, .extract (.tmp 20) 0, false, none⟩]) <|
 .seq (.ops [⟨some 36, .extract (.tmp 20) 1, false, none⟩]) <|
 .seq (.ops [⟨some 8, .assign (.tmp 35), false, none⟩]) <|
 .seq (.ops [⟨some 10, .assign (.tmp 36), false, none⟩]) <|
 .skip) (.seq (.ops [⟨some 33, .call ⟨.builtin .append, #[(.tmp 30), (.tmp 32)], #[23, 23]⟩, true, none⟩]) <|
 .seq (.ops [⟨some 23, .load 3 (.tmp 22), false, none⟩]) <|
 .seq (.ops [⟨some 29, .load 3 (.tmp 28), false, none⟩]) <|
 .seq (.ops [⟨some 34, .call ⟨.value (.func 9), #[(.tmp 21), (.tmp 23), (.tmp 25), (.tmp 27), (.tmp 29), (.tmp 33)], #[25, 3, 9, 3, 3, 23]⟩, true, none⟩]) <|
 .seq (.ops [⟨some 20, .move (.tmp 34), false, none⟩]) <|
 .seq (.ops [⟨some 35, .extract (.tmp 20) 0, false, none⟩]) <|
 .seq (.ops [⟨some 36, .extract (.tmp 20) 1, false, none⟩]) <|
 .seq (.ops [⟨some 8, .assign (.tmp 35), false, none⟩]) <|
 .seq (.ops [⟨some 10, .assign (.tmp 36), false, none⟩]) <|
 .skip)) (.amb (.seq (.ops [⟨some 29, .load 3 (.tmp 28), false, none⟩]) <|
 .seq (.ops [⟨some 33, .call ⟨.builtin .append, #[(.tmp 30), (.tmp 32)], #[23, 23]⟩, true, none⟩]) <|
 .seq (.ops [⟨some 23, .load 3 (.tmp 22), false, none⟩]) <|
 .seq (.ops [⟨some 25, .load 9 (.tmp 24), false, none⟩]) <|
 .seq (.ops [⟨some 34, .call ⟨.value (.func 9), #[(.tmp 21), (.tmp 23), (.tmp 25), (.tmp 27), (.tmp 29), (.tmp 33)], #[25, 3, 9, 3, 3, 23]⟩, true, none⟩]) <|
 .seq (.ops [⟨some 20, .move (.tmp 34), false, none⟩]) <|
 .seq (.ops [⟨some 35, .extract (.tmp 20) 0, false, none⟩]) <|
 .seq (.ops [⟨some 36, .extract (.tmp 20) 1, false, none⟩]) <|
 .seq (.ops [⟨some 8, .assign (.tmp 35), false, none⟩]) <|
 .seq (.ops [⟨some 10, .assign (.tmp 36), false, none⟩]) <|
 .skip) (.seq (.ops [⟨some 33, .call ⟨.builtin .append, #[(.tmp 30), (.tmp 32)], #[23, 23]⟩, true, none⟩]) <|
 .seq (.ops [⟨some 23, .load 3 (.tmp 22), false, none⟩]) <|
 .seq (.ops [⟨some 25, .load 9 (.tmp 24), false, none⟩]) <|
 .seq (.ops [⟨some 29, .load 3 (.tmp 28), false, none⟩]) <|
 .seq (.ops [⟨some 34, .call ⟨.value (.func 9), #[(.tmp 21), (.tmp 23), (.tmp 25), (.tmp 27), (.tmp 29), (.tmp 33)], #[25, 3, 9, 3, 3, 23]⟩, true, none⟩]) <|
 .seq (.ops [⟨some 20, .move (.tmp 34), false, none⟩]) <|
 .seq (.ops [⟨some 35, .extract (.tmp 20) 0, false, none⟩]) <|
 .seq (.ops [⟨some 36, .extract (.tmp 20) 1, false, none⟩]) <|
 .seq (.ops [⟨some 8, .assign (.tmp 35), false, none⟩]) <|
 .seq (.ops [⟨some 10, .assign (.tmp 36), false, none⟩]) <|
 .skip)))) (.seq (.ops [⟨some 32, .load 23 (.tmp 31), false, none⟩]) <|
 .seq (.ops [⟨some 30, .buildSlice 23 0 #[], true, none⟩]) <|
 .amb (.seq (.ops [⟨some 23, .load 3 (.tmp 22), false, none⟩]) <|
 .amb (.seq (.ops [⟨some 25, .load 9 (.tmp 24), false, none⟩]) <|
 .amb (.seq (.ops [⟨some 29, .load 3 (.tmp 28), false, none⟩]) <|
 .seq (.ops [⟨some 33, .call ⟨.builtin .append, #[(.tmp 30), (.tmp 32)], #[23, 23]⟩, true, none⟩]) <|
 .seq (.ops [⟨some 34, .call ⟨.value (.func 9), #[(.tmp 21), (.tmp 23), (.tmp 25), (.tmp 27), (.tmp 29), (.tmp 33)], #[25, 3, 9, 3, 3, 23]⟩, true, none⟩]) <|
 .seq (.ops [⟨some 20, .move (.tmp 34), false, none⟩]) <|
 .seq (.ops [⟨some 35, .extract (.tmp 20) 0, false, none⟩]) <|
 .seq (.ops [⟨some 36, .extract (.tmp 20) 1, false, none⟩]) <|
 .seq (.ops [⟨some 8, .assign (.tmp 35), false, none⟩]) <|
 .seq (.ops [⟨some 10, .assign (.tmp 36), false, none⟩]) <|
 .skip) (.seq (.ops [⟨some 33, .call ⟨.builtin .append, #[(.tmp 30), (.tmp 32)], #[23, 23]⟩, true, none⟩]) <|
 .seq (.ops [⟨some 29, .load 3 (.tmp 28), false, none⟩]) <|
 .seq (.ops [⟨some 34, .call ⟨.value (.func 9), #[(.tmp 21), (.tmp 23), (.tmp 25), (.tmp 27), (.tmp 29), (.tmp 33)], #[25, 3, 9, 3, 3, 23]⟩, true, none⟩]) <|
 .seq (.ops [⟨some 20, .move (.tmp 34), false, none⟩]) <|
 .seq (.ops [⟨some 35, .extract (.tmp 20) 0, false, none⟩]) <|
 .seq (.ops [⟨some 36, .extract (.tmp 20) 1, false, none⟩]) <|
 .seq (.ops [⟨some 8, .assign (.tmp 35), false, none⟩]) <|
 .seq (.ops [⟨some 10, .assign (.tmp 36), false, none⟩]) <|
 .skip)) (.amb (.seq (.ops [⟨some 29, .load 3 (.tmp 28), false, none⟩]) <|
 .seq (.ops [⟨some 33, .call ⟨.builtin .append, #[(.tmp 30), (.tmp 32)], #[23, 23]⟩, true, none⟩]) <|
 .seq (.ops [⟨some 25, .load 9 (.tmp 24), false, none⟩]) <|
 .seq (.ops [⟨some 34, .call ⟨.value (.func 9), #[(.tmp 21), (.tmp 23), (.tmp 25), (.tmp 27), (.tmp 29), (.tmp 33)], #[25, 3, 9, 3, 3, 23]⟩, true, none⟩]) <|
 .seq (.ops [⟨some 20, .move (.tmp 34), false, none⟩]) <|
 .seq (.ops [⟨some 35, .extract (.tmp 20) 0, false, none⟩]) <|
 .seq (.ops [⟨some 36, .extract (.tmp 20) 1, false, none⟩]) <|
 .seq (.ops [⟨some 8, .assign (.tmp 35), false, none⟩]) <|
 .seq (.ops [⟨some 10, .assign (.tmp 36), false, none⟩]) <|
 .skip) (.seq (.ops [⟨some 33, .call ⟨.builtin .append, #[(.tmp 30), (.tmp 32)], #[23, 23]⟩, true, none⟩]) <|
 .seq (.ops [⟨some 25, .load 9 (.tmp 24), false, none⟩]) <|
 .seq (.ops [⟨some 29, .load 3 (.tmp 28), false, none⟩]) <|
 .seq (.ops [⟨some 34, .call ⟨.value (.func 9), #[(.tmp 21), (.tmp 23), (.tmp 25), (.tmp 27), (.tmp 29), (.tmp 33)], #[25, 3, 9, 3, 3, 23]⟩, true, none⟩]) <|
 .seq (.ops [⟨some 20, .move (.tmp 34), false, none⟩]) <|
 .seq (.ops [⟨some 35, .extract (.tmp 20) 0, false, none⟩]) <|
 .seq (.ops [⟨some 36, .extract (.tmp 20) 1, false, none⟩]) <|
 .seq (.ops [⟨some 8, .assign (.tmp 35), false, none⟩]) <|
 .seq (.ops [⟨some 10, .assign (.tmp 36), false, none⟩]) <|
 .skip))) (.amb (.seq (.ops [⟨some 25, .load 9 (.tmp 24), false, none⟩]) <|
 .amb (.seq (.ops [⟨some 29, .load 3 (.tmp 28), false, none⟩]) <|
 .seq (.ops [⟨some 33, .call ⟨.builtin .append, #[(.tmp 30), (.tmp 32)], #[23, 23]⟩, true, none⟩]) <|
 .seq (.ops [⟨some 23, .load 3 (.tmp 22), false, none⟩]) <|
 .seq (.ops [⟨some 34, .call ⟨.value (.func 9), #[(.tmp 21), (.tmp 23), (.tmp 25), (.tmp 27), (.tmp 29), (.tmp 33)], #[25, 3, 9, 3, 3, 23]⟩, true, none⟩]) <|
 .seq (.ops [⟨some 20, .move (.tmp 34), false, none⟩]) <|
 .seq (.ops [⟨some 35, .extract (.tmp 20) 0, false, none⟩]) <|
 .seq (.ops [⟨some 36, .extract (.tmp 20) 1, false, none⟩]) <|
 .seq (.ops [⟨some 8, .assign (.tmp 35), false, none⟩]) <|
 .seq (.ops [⟨some 10, .assign (.tmp 36), false, none⟩]) <|
 .skip) (.seq (.ops [⟨some 33, .call ⟨.builtin .append, #[(.tmp 30), (.tmp 32)], #[23, 23]⟩, true, none⟩]) <|
 .seq (.ops [⟨some 23, .load 3 (.tmp 22), false, none⟩]) <|
 .seq (.ops [⟨some 29, .load 3 (.tmp 28), false, none⟩]) <|
 .seq (.ops [⟨some 34, .call ⟨.value (.func 9), #[(.tmp 21), (.tmp 23), (.tmp 25), (.tmp 27), (.tmp 29), (.tmp 33)], #[25, 3, 9, 3, 3, 23]⟩, true, none⟩]) <|
 .seq (.ops [⟨some 20, .move (.tmp 34), false, none⟩]) <|
 .seq (.ops [⟨some 35, .extract (.tmp 20) 0, false, none⟩]) <|
 .seq (.ops [⟨some 36, .extract (.tmp 20) 1, false, none⟩]) <|
 .seq (.ops [⟨some 8, .assign (.tmp 35), false, none⟩]) <|
 .seq (.ops [⟨some 10, .assign (.tmp 36), false, none⟩]) <|
 .skip)) (.amb (.seq (.ops [⟨some 29, .load 3 (.tmp 28), false, none⟩]) <|
 .seq (.ops [⟨some 33, .call ⟨.builtin .append, #[(.tmp 30), (.tmp 32)], #[23, 23]⟩, true, none⟩]) <|
 .seq (.ops [⟨some 23, .load 3 (.tmp 22), false, none⟩]) <|
 .seq (.ops [⟨some 25, .load 9 (.tmp 24), false, none⟩]) <|
 .seq (.ops [⟨some 34, .call ⟨.value (.func 9), #[(.tmp 21), (.tmp 23), (.tmp 25), (.tmp 27), (.tmp 29), (.tmp 33)], #[25, 3, 9, 3, 3, 23]⟩, true, none⟩]) <|
 .seq (.ops [⟨some 20, .move (.tmp 34), false, none⟩]) <|
 .seq (.ops [⟨some 35, .extract (.tmp 20) 0, false, none⟩]) <|
 .seq (.ops [⟨some 36, .extract (.tmp 20) 1, false, none⟩]) <|
 .seq (.ops [⟨some 8, .assign (.tmp 35), false, none⟩]) <|
 .seq (.ops [⟨some 10, .assign (.tmp 36), false, none⟩]) <|
 .skip) (.seq (.ops [⟨some 33, .call ⟨.builtin .append, #[(.tmp 30), (.tmp 32)], #[23, 23]⟩, true, none⟩]) <|
 .seq (.ops [⟨some 23, .load 3 (.tmp 22), false, none⟩]) <|
 .seq (.ops [⟨some 25, .load 9 (.tmp 24), false, none⟩]) <|
 .seq (.ops [⟨some 29, .load 3 (.tmp 28), false, none⟩]) <|
 .seq (.ops [⟨some 34, .call ⟨.value (.func 9), #[(.tmp 21), (.tmp 23), (.tmp 25), (.tmp 27), (.tmp 29), (.tmp 33)], #[25, 3, 9, 3, 3, 23]⟩, true, none⟩]) <|
 .seq (.ops [⟨some 20, .move (.tmp 34), false, none⟩]) <|
 .seq (.ops [⟨some 35, .extract (.tmp 20) 0, false, none⟩]) <|
 .seq (.ops [⟨some 36, .extract (.tmp 20) 1, false, none⟩]) <|
 .seq (.ops [⟨some 8, .assign (.tmp 35), false, none⟩]) <|
 .seq (.ops [⟨some 10, .assign (.tmp 36), false, none⟩]) <|
 .skip)))))) (.amb (.seq (.ops [⟨some 29, .load 3 (.tmp 28), false, none⟩]) <|
 .amb (.seq (.ops [⟨some 30, .buildSlice 23 0 #[], true, none⟩]) <|
 .seq (.ops [⟨some 32, .load 23 (.tmp 31), false, none⟩]) <|
 .amb (.seq (.ops [⟨some 23, .load 3 (.tmp 22), false, none⟩]) <|
 .amb (.seq (.ops [⟨some 25, .load 9 (.tmp 24), false, none⟩]) <|
 .amb (.seq (.ops [⟨some 27, .load 3 (.tmp 26), false, none⟩]) <|
 .seq (.ops [⟨some 33, .call ⟨.builtin .append, #[(.tmp 30), (.tmp 32)], #[23, 23]⟩, true, none⟩]) <|
 .seq (.ops [⟨some 34, .call ⟨.value (.func 9), #[(.tmp 21), (.tmp 23), (.tmp 25), (.tmp 27), (.tmp 29), (.tmp 33)], #[25, 3, 9, 3, 3, 23]⟩, true, none⟩]) <|
 .seq (.ops [⟨some 20, .move (.tmp 34), false, none⟩]) <|
 .seq (.ops [⟨some 35, .extract (.tmp 20) 0, false, none⟩]) <|
 .seq (.ops [⟨some 36, .extract (.tmp 20) 1, false, none⟩]) <|
 .seq (.ops [⟨some 8, .assign (.tmp 35), false, none⟩]) <|
 .seq (.ops [⟨some 10, .assign (.tmp 36), false, none⟩]) <|
 .skip) (.seq (.ops [⟨some 33, .call ⟨.builtin .append, #[(.tmp 30), (.tmp 32)], #[23, 23]⟩, true, none⟩]) <|
 .seq (.ops [⟨some 27, .load 3 (.tmp 26), false, none⟩]) <|
 .seq (.ops [⟨some 34, .call ⟨.value (.func 9), #[(.tmp 21), (.tmp 23), (.tmp 25), (.tmp 27), (.tmp 29), (.tmp 33)], #[25, 3, 9, 3, 3, 23]⟩, true, none⟩]) <|
 .seq (.ops [⟨some 20, .move (.tmp 34), false, none⟩]) <|
 .seq (.ops [⟨some 35, .extract (.tmp 20) 0, false, none⟩]) <|
 .seq (.ops [⟨some 36, .extract (.tmp 20) 1, false, none⟩]) <|
 .seq (.ops [⟨some 8, .assign (.tmp 35), false, none⟩]) <|
 .seq (.ops [⟨some 10, .assign (.tmp 36), false, none⟩]) <|
 .skip)) (.amb (.seq (.ops [⟨some 27, .load 3 (.tmp 26), false, none⟩]) <|
 .seq (.ops [⟨some 33, .call ⟨.builtin .append, #[(.tmp 30), (.tmp 32)], #[23, 23]⟩, true, none⟩]) <|
 .seq (.ops [⟨some 25, .load 9 (.tmp 24), false, none⟩]) <|
 .seq (.ops [⟨some 34, .call ⟨.value (.func 9), #[(.tmp 21), (.tmp 23), (.tmp 25), (.tmp 27), (.tmp 29), (.tmp 33)], #[25, 3, 9, 3, 3, 23]⟩, true, none⟩]) <|
 .seq (.ops [⟨some 20, .move (.tmp 34), false, none⟩]) <|
 .seq (.ops [⟨some 35, .extract (.tmp 20) 0, false, none⟩]) <|
 .seq (.ops [⟨some 36, .extract (.tmp 20) 1, false, none⟩]) <|
 .seq (.ops [⟨some 8, .assign (.tmp 35), false, none⟩]) <|
 .seq (.ops [⟨some 10, .assign (.tmp 36), false, none⟩]) <|
 .skip) (.seq (.ops [⟨some 33, .call ⟨.builtin .append, #[(.tmp 30), (.tmp 32)], #[23, 23]⟩, true, none⟩]) <|
 .seq (.ops [⟨some 25, .load 9 (.tmp 24), false, none⟩]) <|
 .seq (.ops [⟨some 27, .load 3 (.tmp 26), false, none⟩]) <|
 .seq (.ops [⟨some 34, .call ⟨.value (.func 9), #[(.tmp 21), (.tmp 23), (.tmp 25), (.tmp 27), (.tmp 29), (.tmp 33)], #[25, 3, 9, 3, 3, 23]⟩, true, none⟩]) <|
 .seq (.ops [⟨some 20, .move (.tmp 34), false, none⟩]) <|
 .seq (.ops [⟨some 35, .extract (.tmp 20) 0, false, none⟩]) <|
 .seq (.ops [⟨some 36, .extract (.tmp 20) 1, false, none⟩]) <|
 .seq (.ops [⟨some 8, .assign (.tmp 35), false, none⟩]) <|
 .seq (.ops [⟨some 10, .assign (.tmp 36), false, none⟩]) <|
 .skip))) (.amb (.seq (.ops [⟨some 25, .load 9 (.tmp 24), false, none⟩]) <|
 .amb (.seq (.ops [⟨some 27, .load 3 (.tmp 26), false, none⟩]) <|
 .seq (.ops [⟨some 33, .call ⟨.builtin .append, #[(.tmp 30), (.tmp 32)], #[23, 23]⟩, true, none⟩]) <|
 .seq (.ops [⟨some 23, .load 3 (.tmp 22), false, none⟩]) <|
 .seq (.ops [⟨some 34, .call ⟨.value (.func 9), #[(.tmp 21), (.tmp 23), (.tmp 25), (.tmp 27), (.tmp 29), (.tmp 33)], #[25, 3, 9, 3, 3, 23]⟩, true, none⟩]) <|
 .seq (.ops [⟨some 20, .move (.tmp 34), false, none⟩]) <|
 .seq (.ops [⟨some 35, .extract (.tmp 20) 0, false, none⟩]) <|
 .seq (.ops [⟨some 36, .extract (.tmp 20) 1, false, none⟩]) <|
 .seq (.ops [⟨some 8, .assign (.tmp 35), false, none⟩]) <|
 .seq (.ops [⟨some 10, .assign (.tmp 36), false, none⟩]) <|
 .skip) (.seq (.ops [⟨some 33, .call ⟨.builtin .append, #[(.tmp 30), (.tmp 32)], #[23, 23]⟩, true, none⟩]) <|
 .seq (.ops [⟨some 23, .load 3 (.tmp 22), false, none⟩]) <|
 .seq (.ops [⟨some 27, .load 3 (.tmp 26), false, none⟩]) <|
 .seq (.ops [⟨some 34, .call ⟨.value (.func 9), #[(.tmp 21), (.tmp 23), (.tmp 25), (.tmp 27), (.tmp 29), (.tmp 33)], #[25, 3, 9, 3, 3, 23]⟩, true, none⟩]) <|
 .seq (.ops [⟨some 20, .move (.tmp 34), false, none⟩]) <|
 .seq (.ops [⟨some 35, .extract (.tmp 20) 0, false, none⟩]) <|
 .seq (.ops [⟨some 36, .extract (.tmp 20) 1, false, none⟩]) <|
 .seq (.ops [⟨some 8, .assign (.tmp 35), false, none⟩]) <|
 .seq (.ops [⟨some 10, .assign (.tmp 36), false, none⟩]) <|
 .skip)) (.amb (.seq (.ops [⟨some 27, .load 3 (.tmp 26), false, none⟩]) <|
 .seq (.ops [⟨some 33, .call ⟨.builtin .append, #[(.tmp 30), (.tmp 32)], #[23, 23]⟩, true, none⟩]) <|
 .seq (.ops [⟨some 23, .load 3 (.tmp 22), false, none⟩]) <|
 .seq (.ops [⟨some 25, .load 9 (.tmp 24), false, none⟩]) <|
 .seq (.ops [⟨some 34, .call ⟨.value (.func 9), #[(.tmp 21), (.tmp 23), (.tmp 25), (.tmp 27), (.tmp 29), (.tmp 33)], #[25, 3, 9, 3, 3, 23]⟩, true, none⟩]) <|
 .seq (.ops [⟨some 20, .move (.tmp 34), false, none⟩]) <|
 .seq (.ops [⟨some 35, .extract (.tmp 20) 0, false, none⟩]) <|
 .seq (.ops [⟨some 36, .extract (.tmp 20) 1, false, none⟩]) <|
 .seq (.ops [⟨some 8, .assign (.tmp 35), false, none⟩]) <|
 .seq (.ops [⟨some 10, .assign (.tmp 36), false, none⟩]) <|
 .skip) (.seq (.ops [⟨some 33, .call ⟨.builtin .append, #[(.tmp 30), (.tmp 32)], #[23, 23]⟩, true, none⟩]) <|
 .seq (.ops [⟨some 23, .load 3 (.tmp 22), false, none⟩]) <|
 .seq (.ops [⟨some 25, .load 9 (.tmp 24), false, none⟩]) <|
 .seq (.ops [⟨some 27, .load 3 (.tmp 26), false, none⟩]) <|
 .seq (.ops [⟨some 34, .call ⟨.value (.func 9), #[(.tmp 21), (.tmp 23), (.tmp 25), (.tmp 27), (.tmp 29), (.tmp 33)], #[25, 3, 9, 3, 3, 23]⟩, true, none⟩]) <|
 .seq (.ops [⟨some 20, .move (.tmp 34), false, none⟩]) <|
 .seq (.ops [⟨some 35, .extract (.tmp 20) 0, false, none⟩]) <|
 .seq (.ops [⟨some 36, .extract (.tmp 20) 1, false, none⟩]) <|
 .seq (.ops [⟨some 8, .assign (.tmp 35), false, none⟩]) <|
 .seq (.ops [⟨some 10, .assign (.tmp 36), false, none⟩]) <|
 .skip)))) (.seq (.ops [⟨some 32, .load 23 (.tmp 31), false, none⟩]) <|
 .seq (.ops [⟨some 30, .buildSlice 23 0 #[], true, none⟩]) <|
 .amb (.seq (.ops [⟨some 23, .load 3 (.tmp 22), false, none⟩]) <|
 .amb (.seq (.ops [⟨some 25, .load 9 (.tmp 24), false, none⟩]) <|
 .amb (.seq (.ops [⟨some 27, .load 3 (.tmp 26), false, none⟩]) <|
 .seq (.ops [⟨some 33, .call ⟨.builtin .append, #[(.tmp 30), (.tmp 32)], #[23, 23]⟩, true, none⟩]) <|
 .seq (.ops [⟨some 34, .call ⟨.value (.func 9), #[(.tmp 21), (.tmp 23), (.tmp 25), (.tmp 27), (.tmp 29), (.tmp 33)], #[25, 3, 9, 3, 3, 23]⟩, true, none⟩]) <|
 .seq (.ops [⟨some 20, .move (.tmp 34), false, none⟩]) <|
 .seq (.ops [⟨some 35, .extract (.tmp 20) 0, false, none⟩]) <|
 .seq (.ops [⟨some 36, .extract (.tmp 20) 1, false, none⟩]) <|
 .seq (.ops [⟨some 8, .assign (.tmp 35), false, none⟩]) <|
 .seq (.ops [⟨some 10, .assign (.tmp 36), false, none⟩]) <|
 .skip) (.seq (.ops [⟨some 33, .call ⟨.builtin .append, #[(.tmp 30), (.tmp 32)], #[23, 23]⟩, true, none⟩]) <|
 .seq (.ops [⟨some 27, .load 3 (.tmp 26), false, none⟩]) <|
 .seq (.ops [⟨some 34, .call ⟨.value (.func 9), #[(.tmp 21), (.tmp 23), (.tmp 25), (.tmp 27), (.tmp 29), (.tmp 33)], #[25, 3, 9, 3, 3, 23]⟩, true, none⟩]) <|
 .seq (.ops [⟨some 20, .move (.tmp 34), false, none⟩]) <|
 .seq (.ops [⟨some 35, .extract (.tmp 20) 0, false, none⟩]) <|
 .seq (.ops [⟨some 36, .extract (.tmp 20) 1, false, none⟩]) <|
 .seq (.ops [⟨some 8, .assign (.tmp 35), false, none⟩]) <|
 .seq (.ops [⟨some 10, .assign (.tmp 36), false, none⟩]) <|
 .skip)) (.amb (.seq (.ops [⟨some 27, .load 3 (.tmp 26), false, none⟩]) <|
 .seq (.ops [⟨some 33, .call ⟨.builtin .append, #[(.tmp 30), (.tmp 32)], #[23, 23]⟩, true, none⟩]) <|
 .seq (.ops [⟨some 25, .load 9 (.tmp 24), false, none⟩]) <|
 .seq (.ops [⟨some 34, .call ⟨.value (.func 9), #[(.tmp 21), (.tmp 23), (.tmp 25), (.tmp 27), (.tmp 29), (.tmp 33)], #[25, 3, 9, 3, 3, 23]⟩, true, none⟩]) <|
 .seq (.ops [⟨some 20, .move (.tmp 34), false, none⟩]) <|
 .seq (.ops [⟨some 35, .extract (.tmp 20) 0, false, none⟩]) <|
 .seq (.ops [⟨some 36, .extract (.tmp 20) 1, false, none⟩]) <|
 .seq (.ops [⟨some 8, .assign (.tmp 35), false, none⟩]) <|
 .seq (.ops [⟨some 10, .assign (.tmp 36), false, none⟩]) <|
 .skip) (.seq (.ops [⟨some 33, .call ⟨.builtin .append, #[(.tmp 30), (.tmp 32)], #[23, 23]⟩, true, none⟩]) <|
 .seq (.ops [⟨some 25, .load 9 (.tmp 24), false, none⟩]) <|
 .seq (.ops [⟨some 27, .load 3 (.tmp 26), false, none⟩]) <|
 .seq (.ops [⟨some 34, .call ⟨.value (.func 9), #[(.tmp 21), (.tmp 23), (.tmp 25), (.tmp 27), (.tmp 29), (.tmp 33)], #[25, 3, 9, 3, 3, 23]⟩, true, none⟩]) <|
 .seq (.ops [⟨some 20, .move (.tmp 34), false, none⟩]) <|
 .seq (.ops [⟨some 35, .extract (.tmp 20) 0, false, none⟩]) <|
 .seq (.ops [⟨some 36, .extract (.tmp 20) 1, false, none⟩]) <|
 .seq (.ops [⟨some 8, .assign (.tmp 35), false, none⟩]) <|
 .seq (.ops [⟨some 10, .assign (.tmp 36), false, none⟩]) <|
 .skip))) (.amb (.seq (.ops [⟨some 25, .load 9 (.tmp 24), false, none⟩]) <|
 .amb (.seq (.ops [⟨some 27, .load 3 (.tmp 26), false, none⟩]) <|
 .seq (.ops [⟨some 33, .call ⟨.builtin .append, #[(.tmp 30), (.tmp 32)], #[23, 23]⟩, true, none⟩]) <|
 .seq (.ops [⟨some 23, .load 3 (.tmp 22), false, none⟩]) <|
 .seq (.ops [⟨some 34, .call ⟨.value (.func 9), #[(.tmp 21), (.tmp 23), (.tmp 25), (.tmp 27), (.tmp 29), (.tmp 33)], #[25, 3, 9, 3, 3, 23]⟩, true, none⟩]) <|
 .seq (.ops [⟨some 20, .move (.tmp 34), false, none⟩]) <|
 .seq (.ops [⟨some 35, .extract (.tmp 20) 0, false, none⟩]) <|
 .seq (.ops [⟨some 36, .extract (.tmp 20) 1, false, none⟩]) <|
 .seq (.ops [⟨some 8, .assign (.tmp 35), false, none⟩]) <|
 .seq (.ops [⟨some 10, .assign (.tmp 36), false, none⟩]) <|
 .skip) (.seq (.ops [⟨some 33, .call ⟨.builtin .append, #[(.tmp 30), (.tmp 32)], #[23, 23]⟩, true, none⟩]) <|
 .seq (.ops [⟨some 23, .load 3 (.tmp 22), false, none⟩]) <|
 .seq (.ops [⟨some 27, .load 3 (.tmp 26), false, none⟩]) <|
 .seq (.ops [⟨some 34, .call ⟨.value (.func 9), #[(.tmp 21), (.tmp 23), (.tmp 25), (.tmp 27), (.tmp 29), (.tmp 33)], #[25, 3, 9, 3, 3, 23]⟩, true, none⟩]) <|
 .seq (.ops [⟨some 20, .move (.tmp 34), false, none⟩]) <|
 .seq (.ops [⟨some 35, .extract (.tmp 20) 0, false, none⟩]) <|
 .seq (.ops [⟨some 36, .extract (.tmp 20) 1, false, none⟩]) <|
 .seq (.ops [⟨some 8, .assign (.tmp 35), false, none⟩]) <|
 .seq (.ops [⟨some 10, .assign (.tmp 36), false, none⟩]) <|
 .skip)) (.amb (.seq (.ops [⟨some 27, .load 3 (.tmp 26), false, none⟩]) <|
 .seq (.ops [⟨some 33, .call ⟨.builtin .append, #[(.tmp 30), (.tmp 32)], #[23, 23]⟩, true, none⟩]) <|
 .seq (.ops [⟨some 23, .load 3 (.tmp 22), false, none⟩]) <|
 .seq (.ops [⟨some 25, .load 9 (.tmp 24), false, none⟩]) <|
 .seq (.ops [⟨some 34, .call ⟨.value (.func 9), #[(.tmp 21), (.tmp 23), (.tmp 25), (.tmp 27), (.tmp 29), (.tmp 33)], #[25, 3, 9, 3, 3, 23]⟩, true, none⟩]) <|
 .seq (.ops [⟨some 20, .move (.tmp 34), false, none⟩]) <|
 .seq (.ops [⟨some 35, .extract (.tmp 20) 0, false, none⟩]) <|
 .seq (.ops [⟨some 36, .extract (.tmp 20) 1, false, none⟩]) <|
 .seq (.ops [⟨some 8, .assign (.tmp 35), false, none⟩]) <|
 .seq (.ops [⟨some 10, .assign (.tmp 36), false, none⟩]) <|
 .skip) (.seq (.ops [⟨some 33, .call ⟨.builtin .append, #[(.tmp 30), (.tmp 32)], #[23, 23]⟩, true, none⟩]) <|
 .seq (.ops [⟨some 23, .load 3 (.tmp 22), false, none⟩]) <|
 .seq (.ops [⟨some 25, .load 9 (.tmp 24), false, none⟩]) <|
 .seq (.ops [⟨some 27, .load 3 (.tmp 26), false, none⟩]) <|
 .seq (.ops [⟨some 34, .call ⟨.value (.func 9), #[(.tmp 21), (.tmp 23), (.tmp 25), (.tmp 27), (.tmp 29), (.tmp 33)], #[25, 3, 9, 3, 3, 23]⟩, true, none⟩]) <|
 .seq (.ops [⟨some 20, .move (.tmp 34), false, none⟩]) <|
 .seq (.ops [⟨some 35, .extract (.tmp 20) 0, false, none⟩]) <|
 .seq (.ops [⟨some 36, .extract (.tmp 20) 1, false, none⟩]) <|
 .seq (.ops [⟨some 8, .assign (.tmp 35), false, none⟩]) <|
 .seq (.ops [⟨some 10, .assign (.tmp 36), false, none⟩]) <|
 .skip))))) (.amb (.seq (.ops [⟨some 30, .buildSlice 23 0 #[], true, none⟩]) <|
 .seq (.ops [⟨some 32, .load 23 (.tmp 31), false, none⟩]) <|
 .amb (.seq (.ops [⟨some 23, .load 3 (.tmp 22), false, none⟩]) <|
 .amb (.seq (.ops [⟨some 25, .load 9 (.tmp 24), false, none⟩]) <|
 .amb (.seq (.ops [⟨some 27, .load 3 (.tmp 26), false, none⟩]) <|
 .amb (.seq (.ops [⟨some 29, .load 3 (.tmp 28), false, none⟩]) <|
 .seq (.ops [⟨some 33, .call ⟨.builtin .append, #[(.tmp 30), (.tmp 32)], #[23, 23]⟩, true, none⟩]) <|
 .seq (.ops [⟨some 34, .call ⟨.value (.func 9), #[(.tmp 21), (.tmp 23), (.tmp 25), (.tmp 27), (.tmp 29), (.tmp 33)], #[25, 3, 9, 3, 3, 23]⟩, true, none⟩]) <|
 .seq (.ops [⟨some 20, .move (.tmp 34), false, none⟩]) <|
 .seq (.ops [⟨some 35, .extract (.tmp 20) 0, false, none⟩]) <|
 .seq (.ops [⟨some 36, .extract (.tmp 20) 1, false, none⟩]) <|
 .seq (.ops [⟨some 8, .assign (.tmp 35), false, none⟩]) <|
 .seq (.ops [⟨some 10, .assign (.tmp 36), false, none⟩]) <|
 .skip) (.seq (.ops [⟨some 33, .call ⟨.builtin .append, #[(.tmp 30), (.tmp 32)], #[23, 23]⟩, true, none⟩]) <|
 .seq (.ops [⟨some 29, .load 3 (.tmp 28), false, none⟩]) <|
 .seq (.ops [⟨some 34, .call ⟨.value (.func 9), #[(.tmp 21), (.tmp 23), (.tmp 25), (.tmp 27), (.tmp 29), (.tmp 33)], #[25, 3, 9, 3, 3, 23]⟩, true, none⟩]) <|
 .seq (.ops [⟨some 20, .move (.tmp 34), false, none⟩]) <|
 .seq (.ops [⟨some 35, .extract (.tmp 20) 0, false, none⟩]) <|
 .seq (.ops [⟨some 36, .extract (.tmp 20) 1, false, none⟩]) <|
 .seq (.ops [⟨some 8, .assign (.tmp 35), false, none⟩]) <|
 .seq (.ops [⟨some 10, .assign (.tmp 36), false, none⟩]) <|
 .skip)) (.amb (.seq (.ops [⟨some 29, .load 3 (.tmp 28), false, none⟩]) <|
 .seq (.ops [⟨some 33, .call ⟨.builtin .append, #[(.tmp 30), (.tmp 32)], #[23, 23]⟩, true, none⟩]) <|
 .seq (.ops [⟨some 27, .load 3 (.tmp 26), false, none⟩]) <|
 .seq (.ops [⟨some 34, .call ⟨.value (.func 9), #[(.tmp 21), (.tmp 23), (.tmp 25), (.tmp 27), (.tmp 29), (.tmp 33)], #[25, 3, 9, 3, 3, 23]⟩, true, none⟩]) <|
 .seq (.ops [⟨some 20, .move (.tmp 34), false, none⟩]) <|
 .seq (.ops [⟨some 35, .extract (.tmp 20) 0, false, none⟩]) <|
 .seq (.ops [⟨some 36, .extract (.tmp 20) 1, false, none⟩]) <|
 .seq (.ops [⟨some 8, .assign (.tmp 35), false, none⟩]) <|
 .seq (.ops [⟨some 10, .assign (.tmp 36), false, none⟩]) <|
 .skip) (.seq (.ops [⟨some 33, .call ⟨.builtin .append, #[(.tmp 30), (.tmp 32)], #[23, 23]⟩, true, none⟩]) <|
 .seq (.ops [⟨some 27, .load 3 (.tmp 26), false, none⟩]) <|
 .seq (.ops [⟨some 29, .load 3 (.tmp 28), false, none⟩]) <|
 .seq (.ops [⟨some 34, .call ⟨.value (.func 9), #[(.tmp 21), (.tmp 23), (.tmp 25), (.tmp 27), (.tmp 29), (.tmp 33)], #[25, 3, 9, 3, 3, 23]⟩, true, none⟩]) <|
 .seq (.ops [⟨some 20, .move (.tmp 34), false, none⟩]) <|
 .seq (.ops [⟨some 35, .extract (.tmp 20) 0, false, none⟩]) <|
 .seq (.ops [⟨some 36, .extract (.tmp 20) 1, false, none⟩]) <|
 .seq (.ops [⟨some 8, .assign (.tmp 35), false, none⟩]) <|
 .seq (.ops [⟨some 10, .assign (.tmp 36), false, none⟩]) <|
 .skip))) (.amb (.seq (.ops [⟨some 27, .load 3 (.tmp 26), false, none⟩]) <|
 .amb (.seq (.ops [⟨some 29, .load 3 (.tmp 28), false, none⟩]) <|
 .seq (.ops [⟨some 33, .call ⟨.builtin .append, #[(.tmp 30), (.tmp 32)], #[23, 23]⟩, true, none⟩]) <|
 .seq (.ops [⟨some 25, .load 9 (.tmp 24), false, none⟩]) <|
 .seq (.ops [⟨some 34, .call ⟨.value (.func 9), #[(.tmp 21), (.tmp 23), (.tmp 25), (.tmp 27), (.tmp 29), (.tmp 33)], #[25, 3, 9, 3, 3, 23]⟩, true, none⟩]) <|
 .seq (.ops [⟨some 20, .move (.tmp 34), false, none⟩]) <|
 .seq (.ops [⟨some 35, .extract (.tmp 20) 0, false, none⟩]) <|
 .seq (.ops [⟨some 36, .extract (.tmp 20) 1, false, none⟩]) <|
 .seq (.ops [⟨some 8, .assign (.tmp 35), false, none⟩]) <|
 .seq (.ops [⟨some 10, .assign (.tmp 36), false, none⟩]) <|
 .skip) (.seq (.ops [⟨some 33, .call ⟨.builtin .append, #[(.tmp 30), (.tmp 32)], #[23, 23]⟩, true, none⟩]) <|
 .seq (.ops [⟨some 25, .load 9 (.tmp 24), false, none⟩]) <|
 .seq (.ops [⟨some 29, .load 3 (.tmp 28), false, none⟩]) <|
 .seq (.ops [⟨some 34, .call ⟨.value (.func 9), #[(.tmp 21), (.tmp 23), (.tmp 25), (.tmp 27), (.tmp 29), (.tmp 33)], #[25, 3, 9, 3, 3, 23]⟩, true, none⟩]) <|
 .seq (.ops [⟨some 20, .move (.tmp 34), false, none⟩]) <|
 .seq (.ops [⟨some 35, .extract (.tmp 20) 0, false, none⟩]) <|
 .seq (.ops [⟨some 36, .extract (.tmp 20) 1, false, none⟩]) <|
 .seq (.ops [⟨some 8, .assign (.tmp 35), false, none⟩]) <|
 .seq (.ops [⟨some 10, .assign (.tmp 36), false, none⟩]) <|
 .skip)) (.amb (.seq (.ops [⟨some 29, .load 3 (.tmp 28), false, none⟩]) <|
 .seq (.ops [⟨some 33, .call ⟨.builtin .append, #[(.tmp 30), (.tmp 32)], #[23, 23]⟩, true, none⟩]) <|
 .seq (.ops [⟨some 25, .load 9 (.tmp 24), false, none⟩]) <|
 .seq (.ops [⟨some 27, .load 3 (.tmp 26), false, none⟩]) <|
 .seq (.ops [⟨some 34, .call ⟨.value (.func 9), #[(.tmp 21), (.tmp 23), (.tmp 25), (.tmp 27), (.tmp 29), (.tmp 33)], #[25, 3, 9, 3, 3, 23]⟩, true, none⟩]) <|
 .seq (.ops [⟨some 20, .move (.tmp 34), false, none⟩]) <|
 .seq (.ops [⟨some 35, .extract (.tmp 20) 0, false, none⟩]) <|
 .seq (.ops [⟨some 36, .extract (.tmp 20) 1, false, none⟩]) <|
 .seq (.ops [⟨some 8, .assign (.tmp 35), false, none⟩]) <|
 .seq (.ops [⟨some 10, .assign (.tmp 36), false, none⟩]) <|
 .skip) (.seq (.ops [⟨some 33, .call ⟨.builtin .append, #[(.tmp 30), (.tmp 32)], #[23, 23]⟩, true, none⟩]) <|
 .seq (.ops [⟨some 25, .load 9 (.tmp 24), false, none⟩]) <|
 .seq (.ops [⟨some 27, .load 3 (.tmp 26), false, none⟩]) <|
 .seq (.ops [⟨some 29, .load 3 (.tmp 28), false, none⟩]) <|
 .seq (.ops [⟨some 34, .call ⟨.value (.func 9), #[(.tmp 21), (.tmp 23), (.tmp 25), (.tmp 27), (.tmp 29), (.tmp 33)], #[25, 3, 9, 3, 3, 23]⟩, true, none⟩]) <|
 .seq (.ops [⟨some 20, .move (.tmp 34), false, none⟩]) <|
 .seq (.ops [⟨some 35, .extract (.tmp 20) 0, false, none⟩]) <|
 .seq (.ops [⟨some 36, .extract (.tmp 20) 1, false, none⟩]) <|
 .seq (.ops [⟨some 8, .assign (.tmp 35), false, none⟩]) <|
 .seq (.ops [⟨some 10, .assign (.tmp 36), false, none⟩]) <|
 .skip)))) (.amb (.seq (.ops [⟨some 25, .load 9 (.tmp 24), false, none⟩]) <|
 .amb (.seq (.ops [⟨some 27, .load 3 (.tmp 26), false, none⟩]) <|
 .amb (.seq (.ops [⟨some 29, .load 3 (.tmp 28), false, none⟩]) <|
 .seq (.ops [⟨some 33, .call ⟨.builtin .append, #[(.tmp 30), (.tmp 32)], #[23, 23]⟩, true, none⟩]) <|
 .seq (.ops [⟨some 23, .load 3 (.tmp 22), false, none⟩]) <|
 .seq (.ops [⟨some 34, .call ⟨.value (.func 9), #[(.tmp 21), (.tmp 23), (.tmp 25), (.tmp 27), (.tmp 29), (.tmp 33)], #[25, 3, 9, 3, 3, 23]⟩, true, none⟩]) <|
 .seq (.ops [⟨some 20, .move (.tmp 34), false, none⟩]) <|
 .seq (.ops [⟨some 35, .extract (.tmp 20) 0, false, none⟩]) <|
 .seq (.ops [⟨some 36, .extract (.tmp 20) 1, false, none⟩]) <|
 .seq (.ops [⟨some 8, .assign (.tmp 35), false, none⟩]) <|
 .seq (.ops [⟨some 10, .assign (.tmp 36), false, none⟩]) <|
 .skip) (.seq (.ops [⟨some 33, .call ⟨.builtin .append, #[(.tmp 30), (.tmp 32)], #[23, 23]⟩, true, none⟩]) <|
 .seq (.ops [⟨some 23, .load 3 (.tmp 22), false, none⟩]) <|
 .seq (.ops [⟨some 29, .load 3 (.tmp 28), false, none⟩]) <|
 .seq (.ops [⟨some 34, .call ⟨.value (.func 9), #[(.tmp 21), (.tmp 23), (.tmp 25), (.tmp 27), (.tmp 29), (.tmp 33)], #[25, 3, 9, 3, 3, 23]⟩, true, none⟩]) <|
 .seq (.ops [⟨some 20, .move (.tmp 34), false, none⟩]) <|
 .seq (.ops [⟨some 35, .extract (.tmp 20) 0, false, none⟩]) <|
 .seq (.ops [⟨some 36, .extract (.tmp 20) 1, false, none⟩]) <|
 .seq (.ops [⟨some 8, .assign (.tmp 35), false, none⟩]) <|
 .seq (.ops [⟨some 10, .assign (.tmp 36), false, none⟩]) <|
 .skip)) (.amb (.seq (.ops [⟨some 29, .load 3 (.tmp 28), false, none⟩]) <|
 .seq (.ops [⟨some 33, .call ⟨.builtin .append, #[(.tmp 30), (.tmp 32)], #[23, 23]⟩, true, none⟩]) <|
 .seq (.ops [⟨some 23, .load 3 (.tmp 22), false, none⟩]) <|
 .seq (.ops [⟨some 27, .load 3 (.tmp 26), false, none⟩]) <|
 .seq (.ops [⟨some 34, .call ⟨.value (.func 9), #[(.tmp 21), (.tmp 23), (.tmp 25), (.tmp 27), (.tmp 29), (.tmp 33)], #[25, 3, 9, 3, 3, 23]⟩, true, none⟩]) <|
 .seq (.ops [⟨some 20, .move (.tmp 34), false, none⟩]) <|
 .seq (.ops [⟨some 35, .extract (.tmp 20) 0, false, none⟩]) <|
 .seq (.ops [⟨some 36, .extract (.tmp 20) 1, false, none⟩]) <|
 .seq (.ops [⟨some 8, .assign (.tmp 35), false, none⟩]) <|
 .seq (.ops [⟨some 10, .assign (.tmp 36), false, none⟩]) <|
 .skip) (.seq (.ops [⟨some 33, .call ⟨.builtin .append, #[(.tmp 30), (.tmp 32)], #[23, 23]⟩, true, none⟩]) <|
 .seq (.ops [⟨some 23, .load 3 (.tmp 22), false, none⟩]) <|
 .seq (.ops [⟨some 27, .load 3 (.tmp 26), false, none⟩]) <|
 .seq (.ops [⟨some 29, .load 3 (.tmp 28), false, none⟩]) <|
 .seq (.ops [⟨some 34, .call ⟨.value (.func 9), #[(.tmp 21), (.tmp 23), (.tmp 25), (.tmp 27), (.tmp 29), (.tmp 33)], #[25, 3, 9, 3, 3, 23]⟩, true, none⟩]) <|
 .seq (.ops [⟨some 20, .move (.tmp 34), false, none⟩]) <|
 .seq (.ops [⟨some 35, .extract (.tmp 20) 0, false, none⟩]) <|
 .seq (.ops [⟨some 36, .extract (.tmp 20) 1, false, none⟩]) <|
 .seq (.ops [⟨some 8, .assign (.tmp 35), false, none⟩]) <|
 .seq (.ops [⟨some 10, .assign (.tmp 36), false, none⟩]) <|
 .skip))) (.amb (.seq (.ops [⟨some 27, .load 3 (.tmp 26), false, none⟩]) <|
 .amb (.seq (.ops [⟨some 29, .load 3 (.tmp 28), false, none⟩]) <|
 .seq (.ops [⟨some 33, .call ⟨.builtin .append, #[(.tmp 30), (.tmp 32)], #[23, 23]⟩, true, none⟩]) <|
 .seq (.ops [⟨some 23, .load 3 (.tmp 22), false, none⟩]) <|
 .seq (.ops [⟨some 25, .load 9 (.tmp 24), false, none⟩]) <|
 .seq (.ops [⟨some 34, .call ⟨.value (.func 9), #[(.tmp 21), (.tmp 23), (.tmp 25), (.tmp 27), (.tmp 29), (.tmp 33)], #[25, 3, 9, 3, 3, 23]⟩, true, none⟩]) <|
 .seq (.ops [⟨some 20, .move (.tmp 34), false, none⟩]) <|
 .seq (.ops [⟨some 35, .extract (.tmp 20) 0, false, none⟩]) <|
 .seq (.ops [⟨some 36, .extract (.tmp 20) 1, false, none⟩]) <|
 .seq (.ops [⟨some 8, .assign (.tmp 35), false, none⟩]) <|
 .seq (.ops [⟨some 10, .assign (.tmp 36), false, none⟩]) <|
 .skip) (.seq (.ops [⟨some 33, .call ⟨.builtin .append, #[(.tmp 30), (.tmp 32)], #[23, 23]⟩, true, none⟩]) <|
 .seq (.ops [⟨some 23, .load 3 (.tmp 22), false, none⟩]) <|
 .seq (.ops [⟨some 25, .load 9 (.tmp 24), false, none⟩]) <|
 .seq (.ops [⟨some 29, .load 3 (.tmp 28), false, none⟩]) <|
 .seq (.ops [⟨some 34, .call ⟨.value (.func 9), #[(.tmp 21), (.tmp 23), (.tmp 25), (.tmp 27), (.tmp 29), (.tmp 33)], #[25, 3, 9, 3, 3, 23]⟩, true, none⟩]) <|
 .seq (.ops [⟨some 20, .move (.tmp 34), false, none⟩]) <|
 .seq (.ops [⟨some 35, .extract (.tmp 20) 0, false, none⟩]) <|
 .seq (.ops [⟨some 36, .extract (.tmp 20) 1, false, none⟩]) <|
 .seq (.ops [⟨some 8, .assign (.tmp 35), false, none⟩]) <|
 .seq (.ops [⟨some 10, .assign (.tmp 36), false, none⟩]) <|
 .skip)) (.amb (.seq (.ops [⟨some 29, .load 3 (.tmp 28), false, none⟩]) <|
 .seq (.ops [⟨some 33, .call ⟨.builtin .append, #[(.tmp 30), (.tmp 32)], #[23, 23]⟩, true, none⟩]) <|
 .seq (.ops [⟨some 23, .load 3 (.tmp 22), false, none⟩]) <|
 .seq (.ops [⟨some 25, .load 9 (.tmp 24), false, none⟩]) <|
 .seq (.ops [⟨some 27, .load 3 (.tmp 26), false, none⟩]) <|
 .seq (.ops [⟨some 34, .call ⟨.value (.func 9), #[(.tmp 21), (.tmp 23), (.tmp 25), (.tmp 27), (.tmp 29), (.tmp 33)], #[25, 3, 9, 3, 3, 23]⟩, true, none⟩]) <|
 .seq (.ops [⟨some 20, .move (.tmp 34), false, none⟩]) <|
 .seq (.ops [⟨some 35, .extract (.tmp 20) 0, false, none⟩]) <|
 .seq (.ops [⟨some 36, .extract (.tmp 20) 1, false, none⟩]) <|
 .seq (.ops [⟨some 8, .assign (.tmp 35), false, none⟩]) <|
 .seq (.ops [⟨some 10, .assign (.tmp 36), false, none⟩]) <|
 .skip) (.seq (.ops [⟨some 33, .call ⟨.builtin .append, #[(.tmp 30), (.tmp 32)], #[23, 23]⟩, true, none⟩]) <|
 .seq (.ops [⟨some 23, .load 3 (.tmp 22), false, none⟩]) <|
 .seq (.ops [⟨some 25, .load 9 (.tmp 24), false, none⟩]) <|
 .seq (.ops [⟨some 27, .load 3 (.tmp 26), false, none⟩]) <|
 .seq (.ops [⟨some 29, .load 3 (.tmp 28), false, none⟩]) <|
 .seq (.ops [⟨some 34, .call ⟨.value (.func 9), #[(.tmp 21), (.tmp 23), (.tmp 25), (.tmp 27), (.tmp 29), (.tmp 33)], #[25, 3, 9, 3, 3, 23]⟩, true, none⟩]) <|
 .seq (.ops [⟨some 20, .move (.tmp 34), false, none⟩]) <|
 .seq (.ops [⟨some 35, .extract (.tmp 20) 0, false, none⟩]) <|
 .seq (.ops [⟨some 36, .extract (.tmp 20) 1, false, none⟩]) <|
 .seq (.ops [⟨some 8, .assign (.tmp 35), false, none⟩]) <|
 .seq (.ops [⟨some 10, .assign (.tmp 36), false, none⟩]) <|
 .skip))))) (.seq (.ops [⟨some 32, .load 23 (.tmp 31), false, none⟩]) <|
 .seq (.ops [⟨some 30, .buildSlice 23 0 #[], true, none⟩]) <|
 .amb (.seq (.ops [⟨some 23, .load 3 (.tmp 22), false, none⟩]) <|
 .amb (.seq (.ops [⟨some 25, .load 9 (.tmp 24), false, none⟩]) <|
 .amb (.seq (.ops [⟨some 27, .load 3 (.tmp 26), false, none⟩]) <|
 .amb (.seq (.ops [⟨some 29, .load 3 (.tmp 28), false, none⟩]) <|
 .seq (.ops [⟨some 33, .call ⟨.builtin .append, #[(.tmp 30), (.tmp 32)], #[23, 23]⟩, true, none⟩]) <|
 .seq (.ops [⟨some 34, .call ⟨.value (.func 9), #[(.tmp 21), (.tmp 23), (.tmp 25), (.tmp 27), (.tmp 29), (.tmp 33)], #[25, 3, 9, 3, 3, 23]⟩, true, none⟩]) <|
 .seq (.ops [⟨some 20, .move (.tmp 34), false, none⟩]) <|
 .seq (.ops [⟨some 35, .extract (.tmp 20) 0, false, none⟩]) <|
 .seq (.ops [⟨some 36, .extract (.tmp 20) 1, false, none⟩]) <|
 .seq (.ops [⟨some 8, .assign (.tmp 35), false, none⟩]) <|
 .seq (.ops [⟨some 10, .assign (.tmp 36), false, none⟩]) <|
 .skip) (.seq (.ops [⟨some 33, .call ⟨.builtin .append, #[(.tmp 30), (.tmp 32)], #[23, 23]⟩, true, none⟩]) <|
 .seq (.ops [⟨some 29, .load 3 (.tmp 28), false, none⟩]) <|
 .seq (.ops [⟨some 34, .call ⟨.value (.func 9), #[(.tmp 21), (.tmp 23), (.tmp 25), (.tmp 27), (.tmp 29), (.tmp 33)], #[25, 3, 9, 3, 3, 23]⟩, true, none⟩]) <|
 .seq (.ops [⟨some 20, .move (.tmp 34), false, none⟩]) <|
 .seq (.ops [⟨some 35, .extract (.tmp 20) 0, false, none⟩]) <|
 .seq (.ops [⟨some 36, .extract (.tmp 20) 1, false, none⟩]) <|
 .seq (.ops [⟨some 8, .assign (.tmp 35), false, none⟩]) <|
 .seq (.ops [⟨some 10, .assign (.tmp 36), false, none⟩]) <|
 .skip)) (.amb (.seq (.ops [⟨some 29, .load 3 (.tmp 28), false, none⟩]) <|
 .seq (.ops [⟨some 33, .call ⟨.builtin .append, #[(.tmp 30), (.tmp 32)], #[23, 23]⟩, true, none⟩]) <|
 .seq (.ops [⟨some 27, .load 3 (.tmp 26), false, none⟩]) <|
 .seq (.ops [⟨some 34, .call ⟨.value (.func 9), #[(.tmp 21), (.tmp 23), (.tmp 25), (.tmp 27), (.tmp 29), (.tmp 33)], #[25, 3, 9, 3, 3, 23]⟩, true, none⟩]) <|
 .seq (.ops [⟨some 20, .move (.tmp 34), false, none⟩]) <|
 .seq (.ops [⟨some 35, .extract (.tmp 20) 0, false, none⟩]) <|
 .seq (.ops [⟨some 36, .extract (.tmp 20) 1, false, none⟩]) <|
 .seq (.ops [⟨some 8, .assign (.tmp 35), false, none⟩]) <|
 .seq (.ops [⟨some 10, .assign (.tmp 36), false, none⟩]) <|
 .skip) (.seq (.ops [⟨some 33, .call ⟨.builtin .append, #[(.tmp 30), (.tmp 32)], #[23, 23]⟩, true, none⟩]) <|
 .seq (.ops [⟨some 27, .load 3 (.tmp 26), false, none⟩]) <|
 .seq (.ops [⟨some 29, .load 3 (.tmp 28), false, none⟩]) <|
 .seq (.ops [⟨some 34, .call ⟨.value (.func 9), #[(.tmp 21), (.tmp 23), (.tmp 25), (.tmp 27), (.tmp 29), (.tmp 33)], #[25, 3, 9, 3, 3, 23]⟩, true, none⟩]) <|
 .seq (.ops [⟨some 20, .move (.tmp 34), false, none⟩]) <|
 .seq (.ops [⟨some 35, .extract (.tmp 20) 0, false, none⟩]) <|
 .seq (.ops [⟨some 36, .extract (.tmp 20) 1, false, none⟩]) <|
 .seq (.ops [⟨some 8, .assign (.tmp 35), false, none⟩]) <|
 .seq (.ops [⟨some 10, .assign (.tmp 36), false, none⟩]) <|
 .skip))) (.amb (.seq (.ops [⟨some 27, .load 3 (.tmp 26), false, none⟩]) <|
 .amb (.seq (.ops [⟨some 29, .load 3 (.tmp 28), false, none⟩]) <|
 .seq (.ops [⟨some 33, .call ⟨.builtin .append, #[(.tmp 30), (.tmp 32)], #[23, 23]⟩, true, none⟩]) <|
 .seq (.ops [⟨some 25, .load 9 (.tmp 24), false, none⟩]) <|
 .seq (.ops [⟨some 34, .call ⟨.value (.func 9), #[(.tmp 21), (.tmp 23), (.tmp 25), (.tmp 27), (.tmp 29), (.tmp 33)], #[25, 3, 9, 3, 3, 23]⟩, true, none⟩]) <|
 .seq (.ops [⟨some 20, .move (.tmp 34), false, none⟩]) <|
 .seq (.ops [⟨some 35, .extract (.tmp 20) 0, false, none⟩]) <|
 .seq (.ops [⟨some 36, .extract (.tmp 20) 1, false, none⟩]) <|
 .seq (.ops [⟨some 8, .assign (.tmp 35), false, none⟩]) <|
 .seq (.ops [⟨some 10, .assign (.tmp 36), false, none⟩]) <|
 .skip) (.seq (.ops [⟨some 33, .call ⟨.builtin .append, #[(.tmp 30), (.tmp 32)], #[23, 23]⟩, true, none⟩]) <|
 .seq (.ops [⟨some 25, .load 9 (.tmp 24), false, none⟩]) <|
 .seq (.ops [⟨some 29, .load 3 (.tmp 28), false, none⟩]) <|
 .seq (.ops [⟨some 34, .call ⟨.value (.func 9), #[(.tmp 21), (.tmp 23), (.tmp 25), (.tmp 27), (.tmp 29), (.tmp 33)], #[25, 3, 9, 3, 3, 23]⟩, true, none⟩]) <|
 .seq (.ops [⟨some 20, .move (.tmp 34), false, none⟩]) <|
 .seq (.ops [⟨some 35, .extract (.tmp 20) 0, false, none⟩]) <|
 .seq (.ops [⟨some 36, .extract (.tmp 20) 1, false, none⟩]) <|
 .seq (.ops [⟨some 8, .assign (.tmp 35), false, none⟩]) <|
 .seq (.ops [⟨some 10, .assign (.tmp 36), false, none⟩]) <|
 .skip)) (.amb (.seq (.ops [⟨some 29, .load 3 (.tmp 28), false, none⟩]) <|
 .seq (.ops [⟨some 33, .call ⟨.builtin .append, #[(.tmp 30), (.tmp 32)], #[23, 23]⟩, true, none⟩]) <|
 .seq (.ops [⟨some 25, .load 9 (.tmp 24), false, none⟩]) <|
 .seq (.ops [⟨some 27, .load 3 (.tmp 26), false, none⟩]) <|
 .seq (.ops [⟨some 34, .call ⟨.value (.func 9), #[(.tmp 21), (.tmp 23), (.tmp 25), (.tmp 27), (.tmp 29), (.tmp 33)], #[25, 3, 9, 3, 3, 23]⟩, true, none⟩]) <|
 .seq (.ops [⟨some 20, .move (.tmp 34), false, none⟩]) <|
 .seq (.ops [⟨some 35, .extract (.tmp 20) 0, false, none⟩]) <|
 .seq (.ops [⟨some 36, .extract (.tmp 20) 1, false, none⟩]) <|
 .seq (.ops [⟨some 8, .assign (.tmp 35), false, none⟩]) <|
 .seq (.ops [⟨some 10, .assign (.tmp 36), false, none⟩]) <|
 .skip) (.seq (.ops [⟨some 33, .call ⟨.builtin .append, #[(.tmp 30), (.tmp 32)], #[23, 23]⟩, true, none⟩]) <|
 .seq (.ops [⟨some 25, .load 9 (.tmp 24), false, none⟩]) <|
 .seq (.ops [⟨some 27, .load 3 (.tmp 26), false, none⟩]) <|
 .seq (.ops [⟨some 29, .load 3 (.tmp 28), false, none⟩]) <|
 .seq (.ops [⟨some 34, .call ⟨.value (.func 9), #[(.tmp 21), (.tmp 23), (.tmp 25), (.tmp 27), (.tmp 29), (.tmp 33)], #[25, 3, 9, 3, 3, 23]⟩, true, none⟩]) <|
 .seq (.ops [⟨some 20, .move (.tmp 34), false, none⟩]) <|
 .seq (.ops [⟨some 35, .extract (.tmp 20) 0, false, none⟩]) <|
 .seq (.ops [⟨some 36, .extract (.tmp 20) 1, false, none⟩]) <|
 .seq (.ops [⟨some 8, .assign (.tmp 35), false, none⟩]) <|
 .seq (.ops [⟨some 10, .assign (.tmp 36), false, none⟩]) <|
 .skip)))) (.amb (.seq (.ops [⟨some 25, .load 9 (.tmp 24), false, none⟩]) <|
 .amb (.seq (.ops [⟨some 27, .load 3 (.tmp 26), false, none⟩]) <|
 .amb (.seq (.ops [⟨some 29, .load 3 (.tmp 28), false, none⟩]) <|
 .seq (.ops [⟨some 33, .call ⟨.builtin .append, #[(.tmp 30), (.tmp 32)], #[23, 23]⟩, true, none⟩]) <|
 .seq (.ops [⟨some 23, .load 3 (.tmp 22), false, none⟩]) <|
 .seq (.ops [⟨some 34, .call ⟨.value (.func 9), #[(.tmp 21), (.tmp 23), (.tmp 25), (.tmp 27), (.tmp 29), (.tmp 33)], #[25, 3, 9, 3, 3, 23]⟩, true, none⟩]) <|
 .seq (.ops [⟨some 20, .move (.tmp 34), false, none⟩]) <|
 .seq (.ops [⟨some 35, .extract (.tmp 20) 0, false, none⟩]) <|
 .seq (.ops [⟨some 36, .extract (.tmp 20) 1, false, none⟩]) <|
 .seq (.ops [⟨some 8, .assign (.tmp 35), false, none⟩]) <|
 .seq (.ops [⟨some 10, .assign (.tmp 36), false, none⟩]) <|
 .skip) (.seq (.ops [⟨some 33, .call ⟨.builtin .append, #[(.tmp 30), (.tmp 32)], #[23, 23]⟩, true, none⟩]) <|
 .seq (.ops [⟨some 23, .load 3 (.tmp 22), false, none⟩]) <|
 .seq (.ops [⟨some 29, .load 3 (.tmp 28), false, none⟩]) <|
 .seq (.ops [⟨some 34, .call ⟨.value (.func 9), #[(.tmp 21), (.tmp 23), (.tmp 25), (.tmp 27), (.tmp 29), (.tmp 33)], #[25, 3, 9, 3, 3, 23]⟩, true, none⟩]) <|
 .seq (.ops [⟨some 20, .move (.tmp 34), false, none⟩]) <|
 .seq (.ops [⟨some 35, .extract (.tmp 20) 0, false, none⟩]) <|
 .seq (.ops [⟨some 36, .extract (.tmp 20) 1, false, none⟩]) <|
 .seq (.ops [⟨some 8, .assign (.tmp 35), false, none⟩]) <|
 .seq (.ops [⟨some 10, .assign (.tmp 36), false, none⟩]) <|
 .skip)) (.amb (.seq (.ops [⟨some 29, .load 3 (.tmp 28), false, none⟩]) <|
 .seq (.ops [⟨some 33, .call ⟨.builtin .append, #[(.tmp 30), (.tmp 32)], #[23, 23]⟩, true, none⟩]) <|
 .seq (.ops [⟨some 23, .load 3 (.tmp 22), false, none⟩]) <|
 .seq (.ops [⟨some 27, .load 3 (.tmp 26), false, none⟩]) <|
 .seq (.ops [⟨some 34, .call ⟨.value (.func 9), #[(.tmp 21), (.tmp 23), (.tmp 25), (.tmp 27), (.tmp 29), (.tmp 33)], #[25, 3, 9, 3, 3, 23]⟩, true, none⟩]) <|
 .seq (.ops [⟨some 20, .move (.tmp 34), false, none⟩]) <|
 .seq (.ops [⟨some 35, .extract (.tmp 20) 0, false, none⟩]) <|
 .seq (.ops [⟨some 36, .extract (.tmp 20) 1, false, none⟩]) <|
 .seq (.ops [⟨some 8, .assign (.tmp 35), false, none⟩]) <|
 .seq (.ops [⟨some 10, .assign (.tmp 36), false, none⟩]) <|
 .skip) (.seq (.ops [⟨some 33, .call ⟨.builtin .append, #[(.tmp 30), (.tmp 32)], #[23, 23]⟩, true, none⟩]) <|
 .seq (.ops [⟨some 23, .load 3 (.tmp 22), false, none⟩]) <|
 .seq (.ops [⟨some 27, .load 3 (.tmp 26), false, none⟩]) <|
 .seq (.ops [⟨some 29, .load 3 (.tmp 28), false, none⟩]) <|
 .seq (.ops [⟨some 34, .call ⟨.value (.func 9), #[(.tmp 21), (.tmp 23), (.tmp 25), (.tmp 27), (.tmp 29), (.tmp 33)], #[25, 3, 9, 3, 3, 23]⟩, true, none⟩]) <|
 .seq (.ops [⟨some 20, .move (.tmp 34), false, none⟩]) <|
 .seq (.ops [⟨some 35, .extract (.tmp 20) 0, false, none⟩]) <|
 .seq (.ops [⟨some 36, .extract (.tmp 20) 1, false, none⟩]) <|
 .seq (.ops [⟨some 8, .assign (.tmp 35), false, none⟩]) <|
 .seq (.ops [⟨some 10, .assign (.tmp 36), false, none⟩]) <|
 .skip))) (.amb (.seq (.ops [⟨some 27, .load 3 (.tmp 26), false, none⟩]) <|
 .amb (.seq (.ops [⟨some 29, .load 3 (.tmp 28), false, none⟩]) <|
 .seq (.ops [⟨some 33, .call ⟨.builtin .append, #[(.tmp 30), (.tmp 32)], #[23, 23]⟩, true, none⟩]) <|
 .seq (.ops [⟨some 23, .load 3 (.tmp 22), false, none⟩]) <|
 .seq (.ops [⟨some 25, .load 9 (.tmp 24), false, none⟩]) <|
 .seq (.ops [⟨some 34, .call ⟨.value (.func 9), #[(.tmp 21), (.tmp 23), (.tmp 25), (.tmp 27), (.tmp 29), (.tmp 33)], #[25, 3, 9, 3, 3, 23]⟩, true, none⟩]) <|
 .seq (.ops [⟨some 20, .move (.tmp 34), false, none⟩]) <|
 .seq (.ops [⟨some 35, .extract (.tmp 20) 0, false, none⟩]) <|
 .seq (.ops [⟨some 36, .extract (.tmp 20) 1, false, none⟩]) <|
 .seq (.ops [⟨some 8, .assign (.tmp 35), false, none⟩]) <|
 .seq (.ops [⟨some 10, .assign (.tmp 36), false, none⟩]) <|
 .skip) (.seq (.ops [⟨some 33, .call ⟨.builtin .append, #[(.tmp 30), (.tmp 32)], #[23, 23]⟩, true, none⟩]) <|
 .seq (.ops [⟨some 23, .load 3 (.tmp 22), false, none⟩]) <|
 .seq (.ops [⟨some 25, .load 9 (.tmp 24), false, none⟩]) <|
 .seq (.ops [⟨some 29, .load 3 (.tmp 28), false, none⟩]) <|
 .seq (.ops [⟨some 34, .call ⟨.value (.func 9), #[(.tmp 21), (.tmp 23), (.tmp 25), (.tmp 27), (.tmp 29), (.tmp 33)], #[25, 3, 9, 3, 3, 23]⟩, true, none⟩]) <|
 .seq (.ops [⟨some 20, .move (.tmp 34), false, none⟩]) <|
 .seq (.ops [⟨some 35, .extract (.tmp 20) 0, false, none⟩]) <|
 .seq (.ops [⟨some 36, .extract (.tmp 20) 1, false, none⟩]) <|
 .seq (.ops [⟨some 8, .assign (.tmp 35), false, none⟩]) <|
 .seq (.ops [⟨some 10, .assign (.tmp 36), false, none⟩]) <|
 .skip)) (.amb (.seq (.ops [⟨some 29, .load 3 (.tmp 28), false, none⟩]) <|
 .seq (.ops [⟨some 33, .call ⟨.builtin .append, #[(.tmp 30), (.tmp 32)], #[23, 23]⟩, true, none⟩]) <|
 .seq (.ops [⟨some 23, .load 3 (.tmp 22), false, none⟩]) <|
 .seq (.ops [⟨some 25, .load 9 (.tmp 24), false, none⟩]) <|
 .seq (.ops [⟨some 27, .load 3 (.tmp 26), false, none⟩]) <|
 .seq (.ops [⟨some 34, .call ⟨.value (.func 9), #[(.tmp 21), (.tmp 23), (.tmp 25), (.tmp 27), (.tmp 29), (.tmp 33)], #[25, 3, 9, 3, 3, 23]⟩, true, none⟩]) <|
 .seq (.ops [⟨some 20, .move (.tmp 34), false, none⟩]) <|
 .seq (.ops [⟨some 35, .extract (.tmp 20) 0, false, none⟩]) <|
 .seq (.ops [⟨some 36, .extract (.tmp 20) 1, false, none⟩]) <|
 .seq (.ops [⟨some 8, .assign (.tmp 35), false, none⟩]) <|
 .seq (.ops [⟨some 10, .assign (.tmp 36), false, none⟩]) <|
 .skip) (.seq (.ops [⟨some 33, .call ⟨.builtin .append, #[(.tmp 30), (.tmp 32)], #[23, 23]⟩, true, none⟩]) <|
 .seq (.ops [⟨some 23, .load 3 (.tmp 22), false, none⟩]) <|
 .seq (.ops [⟨some 25, .load 9 (.tmp 24), false, none⟩]) <|
 .seq (.ops [⟨some 27, .load 3 (.tmp 26), false, none⟩]) <|
 .seq (.ops [⟨some 29, .load 3 (.tmp 28), false, none⟩]) <|
 .seq (.ops [⟨some 34, .call ⟨.value (.func 9), #[(.tmp 21), (.tmp 23), (.tmp 25), (.tmp 27), (.tmp 29), (.tmp 33)], #[25, 3, 9, 3, 3, 23]⟩, true, none⟩]) <|
 .seq (.ops [⟨some 20, .move (.tmp 34), false, none⟩]) <|
 .seq (.ops [⟨some 35, .extract (.tmp 20) 0, false, none⟩]) <|
 .seq (.ops [⟨some 36, .extract (.tmp 20) 1, false, none⟩]) <|
 .seq (.ops [⟨some 8, .assign (.tmp 35), false, none⟩]) <|
 .seq (.ops [⟨some 10, .assign (.tmp 36), false, none⟩]) <|
 .skip)))))))))
theorem q19_0 : (Tryd.f19.body.bind fun c => (regs c)[0]?).bind (regO Tryd.prog) = some t19_0 := by kernel_rfl
def t19_1 : SC :=
 .seq (.ops [⟨some 54, .move (.tmp 0), false, none⟩]) <|
 .seq (.ops [⟨some 55, .fieldAddr 52 (.tmp 5) 1, false, none⟩]) <|
 .seq (.ops [⟨some 56, .load 3 (.tmp 55), false, none⟩]) <|
 .seq (.ops [⟨some 57, .fieldAddr 52 (.tmp 5) 5, false, none⟩]) <|
 .seq (.ops [⟨some 58, .load 9 (.tmp 57), false, none⟩]) <|
 .seq (.ops [⟨some 59, .fieldAddr 52 (.tmp 5) 2, false, none⟩]) <|
 .seq (.ops [⟨some 60, .load 3 (.tmp 59), false, none⟩]) <|
 .seq (.ops [⟨some 62, .move (.tmp 1), false, none⟩]) <|
 .seq (.ops [⟨some 63, .fieldAddr 52 (.tmp 5) 1, false, none⟩]) <|
 .seq (.ops [⟨some 65, .fieldAddr 52 (.tmp 5) 5, false, none⟩]) <|
 .seq (.ops [⟨some 67, .fieldAddr 52 (.tmp 5) 2, false, none⟩]) <|
 .amb (.seq (.ops [⟨some 61, .call ⟨.value (.func 41), #[(.tmp 54), (.tmp 56), (.tmp 58), (.tmp 60)], #[25, 3, 9, 3]⟩, true, none⟩]) <|
 .seq (.ops [⟨some 64, .load 3 (.tmp 63), false, none⟩]) <|
 .seq (.ops [⟨some 66, .load 9 (.tmp 65), false, none⟩]) <|
 .seq (.ops [⟨some 68, .load 3 (.tmp 67), false, none⟩]) <|
 .seq (.ops [⟨some 69, .call ⟨.value (.func 42), #[(.tmp 62), (.tmp 64), (.tmp 66), (.tmp 68)], #[48, 3, 9, 3]⟩, true, none⟩]) <|
 .seq (.ops [⟨some 10, .assign (.tmp 61), false, none⟩]) <|
 .seq (.ops [⟨some 11, .assign (.tmp 69), false, none⟩]) <|
 .skip) (.amb (.seq (.ops [⟨some 64, .load 3 (.tmp 63), false, none⟩]) <|
 .amb (.seq (.ops [⟨some 61, .call ⟨.value (.func 41), #[(.tmp 54), (.tmp 56), (.tmp 58), (.tmp 60)], #[25, 3, 9, 3]⟩, true, none⟩]) <|
 .seq (.ops [⟨some 66, .load 9 (.tmp 65), false, none⟩]) <|
 .seq (.ops [⟨some 68, .load 3 (.tmp 67), false, none⟩]) <|
 .seq (.ops [⟨some 69, .call ⟨.value (.func 42), #[(.tmp 62), (.tmp 64), (.tmp 66), (.tmp 68)], #[48, 3, 9, 3]⟩, true, none⟩]) <|
 .seq (.ops [⟨some 10, .assign (.tmp 61), false, none⟩]) <|
 .seq (.ops [⟨some 11, .assign (.tmp 69), false, none⟩]) <|
 .skip) (.amb (.seq (.ops [⟨some 66, .load 9 (.tmp 65), false, none⟩]) <|
 .amb (.seq (.ops [⟨some 61, .call ⟨.value (.func 41), #[(.tmp 54), (.tmp 56), (.tmp 58), (.tmp 60)], #[25, 3, 9, 3]⟩, true, none⟩]) <|
 .seq (.ops [⟨some 68, .load 3 (.tmp 67), false, none⟩]) <|
 .seq (.ops [⟨some 69, .call ⟨.value (.func 42), #[(.tmp 62), (.tmp 64), (.tmp 66), (.tmp 68)], #[48, 3, 9, 3]⟩, true, none⟩]) <|
 .seq (.ops [⟨some 10, .assign (.tmp 61), false, none⟩]) <|
 .seq (.ops [⟨some 11, .assign (.tmp 69), false, none⟩]) <|
 .skip) (.seq (.ops [⟨some 68, .load 3 (.tmp 67), false, none⟩]) <|
 .seq (.ops [⟨some 61, .call ⟨.value (.func 41), #[(.tmp 54), (.tmp 56), (.tmp 58), (.tmp 60)], #[25, 3, 9, 3]⟩, true, none⟩]) <|
 .seq (.ops [⟨some 69, .call ⟨.value (.func 42), #[(.tmp 62), (.tmp 64), (.tmp 66), (.tmp 68)], #[48, 3, 9, 3]⟩, true, none⟩]) <|
 .seq (.ops [⟨some 10, .assign (.tmp 61), false, none⟩]) <|
 .seq (.ops [⟨some 11, .assign (.tmp 69), false, none⟩]) <|
 .skip)) (.seq (.ops [⟨some 68, .load 3 (.tmp 67), false, none⟩]) <|
 .seq (.ops [⟨some 61, .call ⟨.value (.func 41), #[(.tmp 54), (.tmp 56), (.tmp 58), (.tmp 60)], #[25, 3, 9, 3]⟩, true, none⟩]) <|
 .seq (.ops [⟨some 66, .load 9 (.tmp 65), false, none⟩]) <|
 .seq (.ops [⟨some 69, .call ⟨.value (.func 42), #[(.tmp 62), (.tmp 64), (.tmp 66), (.tmp 68)], #[48, 3, 9, 3]⟩, true, none⟩]) <|
 .seq (.ops [⟨some 10, .assign (.tmp 61), false, none⟩]) <|
 .seq (.ops [⟨some 11, .assign (.tmp 69), false, none⟩]) <|
 .skip))) (.amb (.seq (.ops [⟨some 66, .load 9 (.tmp 65), false, none⟩]) <|
 .amb (.seq (.ops [⟨some 61, .call ⟨.value (.func 41), #[(.tmp 54), (.tmp 56), (.tmp 58), (.tmp 60)], #[25, 3, 9, 3]⟩, true, none⟩]) <|
 .seq (.ops [⟨some 64, .load 3 (.tmp 63), false, none⟩]) <|
 .seq (.ops [⟨some 68, .load 3 (.tmp 67), false, none⟩]) <|
 .seq (.ops [⟨some 69, .call ⟨.value (.func 42), #[(.tmp 62), (.tmp 64), (.tmp 66), (.tmp 68)], #[48, 3, 9, 3]⟩, true, none⟩]) <|
 .seq (.ops [⟨some 10, .assign (.tmp 61), false, none⟩]) <|
 .seq (.ops [⟨some 11, .assign (.tmp 69), false, none⟩]) <|
 .skip) (.seq (.ops [⟨some 68, .load 3 (.tmp 67), false, none⟩]) <|
 .seq (.ops [⟨some 61, .call ⟨.value (.func 41), #[(.tmp 54), (.tmp 56), (.tmp 58), (.tmp 60)], #[25, 3, 9, 3]⟩, true, none⟩]) <|
 .seq (.ops [⟨some 64, .load 3 (.tmp 63), false, none⟩]) <|
 .seq (.ops [⟨some 69, .call ⟨.value (.func 42), #[(.tmp 62), (.tmp 64), (.tmp 66), (.tmp 68)], #[48, 3, 9, 3]⟩, true, none⟩]) <|
 .seq (.ops [⟨some 10, .assign (.tmp 61), false, none⟩]) <|
 .seq (.ops [⟨some 11, .assign (.tmp 69), false, none⟩]) <|
 .skip)) (.seq (.ops [⟨some 68, .load 3 (.tmp 67), false, none⟩]) <|
 .seq (.ops [⟨some 61, .call ⟨.value (.func 41), #[(.tmp 54), (.tmp 56), (.tmp 58), (.tmp 60)], #[25, 3, 9, 3]⟩, true, none⟩]) <|
 .seq (.ops [⟨some 64, .load 3 (.tmp 63), false, none⟩]) <|
 .seq (.ops [⟨some 66, .load 9 (.tmp 65), false, none⟩]) <|
 .seq (.ops [⟨some 69, .call ⟨.value (.func 42), #[(.tmp 62), (.tmp 64), (.tmp 66), (.tmp 68)], #[48, 3, 9, 3]⟩, true, none⟩]) <|
 .seq (.ops [⟨some 10, .assign (.tmp 61), false, none⟩]) <|
 .seq (.ops [⟨some 11, .assign (.tmp 69), false, none⟩]) <|
 .skip)))
theorem q19_1 : (Tryd.f19.body.bind fun c => (regs c)[1]?).bind (regO Tryd.prog) = some t19_1 := by kernel_rfl
def t19_2 : SC :=
 .seq (.ops [⟨some 72, .move (.tmp 0), false, none⟩]) <|
 .seq (.ops [⟨some 73, .fieldAddr 52 (.tmp 5) 1, false, none⟩]) <|
 .seq (.ops [⟨some 74, .load 3 (.tmp 73), false, none⟩]) <|
 .seq (.ops [⟨some 75, .fieldAddr 52 (.tmp 5) 5, false, none⟩]) <|
 .seq (.ops [⟨some 76, .load 9 (.tmp 75), false, none⟩]) <|
 .seq (.ops [⟨some 77, .fieldAddr 52 (.tmp 5) 8, false, none⟩]) <|
 .seq (.ops [⟨some 78, .load 4 (.tmp 77), false, none⟩]) <|
 .seq (.ops [⟨some 80, .move (.tmp 1), false, none⟩]) <|
 .seq (.ops [⟨some 81, .fieldAddr 52 (.tmp 5) 1, false, none⟩]) <|
 .seq (.ops [⟨some 83, .fieldAddr 52 (.tmp 5) 5, false, none⟩]) <|
 .seq (.ops [⟨some 85, .fieldAddr 52 (.tmp 5) 8, false, none⟩]) <|
 .amb (.seq (.ops [⟨some 79, .call ⟨.value (.func 16), #[(.tmp 72), (.tmp 74), (.tmp 76), (.tmp 78)], #[25, 3, 9, 4]⟩, true, none⟩]) <|
 .seq (.ops [⟨some 82, .load 3 (.tmp 81), false, none⟩]) <|
 .seq (.ops [⟨some 84, .load 9 (.tmp 83), false, none⟩]) <|
 .seq (.ops [⟨some 86, .load 4 (.tmp 85), false, none⟩]) <|
 .seq (.ops [⟨some 87, .call ⟨.value (.func 43), #[(.tmp 80), (.tmp 82), (.tmp 84), (.tmp 86)], #[48, 3, 9, 4]⟩, true, none⟩]) <|
 .seq (.ops [⟨some 10, .assign (.tmp 79), false, none⟩]) <|
 .seq (.ops [⟨some 11, .assign (.tmp 87), false, none⟩]) <|
 .skip) (.amb (.seq (.ops [⟨some 82, .load 3 (.tmp 81), false, none⟩]) <|
 .amb (.seq (.ops [⟨some 79, .call ⟨.value (.func 16), #[(.tmp 72), (.tmp 74), (.tmp 76), (.tmp 78)], #[25, 3, 9, 4]⟩, true, none⟩]) <|
 .seq (.ops [⟨some 84, .load 9 (.tmp 83), false, none⟩]) <|
 .seq (.ops [⟨some 86, .load 4 (.tmp 85), false, none⟩]) <|
 .seq (.ops [⟨some 87, .call ⟨.value (.func 43), #[(.tmp 80), (.tmp 82), (.tmp 84), (.tmp 86)], #[48, 3, 9, 4]⟩, true, none⟩]) <|
 .seq (.ops [⟨some 10, .assign (.tmp 79), false, none⟩]) <|
 .seq (.ops [⟨some 11, .assign (.tmp 87), false, none⟩]) <|
 .skip) (.amb (.seq (.ops [⟨some 84, .load 9 (.tmp 83), false, none⟩]) <|
 .amb (.seq (.ops [⟨some 79, .call ⟨.value (.func 16), #[(.tmp 72), (.tmp 74), (.tmp 76), (.tmp 78)], #[25, 3, 9, 4]⟩, true, none⟩]) <|
 .seq (.ops [⟨some 86, .load 4 (.tmp 85), false, none⟩]) <|
 .seq (.ops [⟨some 87, .call ⟨.value (.func 43), #[(.tmp 80), (.tmp 82), (.tmp 84), (.tmp 86)], #[48, 3, 9, 4]⟩, true, none⟩]) <|
 .seq (.ops [⟨some 10, .assign (.tmp 79), false, none⟩]) <|
 .seq (.ops [⟨some 11, .assign (.tmp 87), false, none⟩]) <|
 .skip) (.seq (.ops [⟨some 86, .load 4 (.tmp 85), false, none⟩]) <|
 .seq (.ops [⟨some 79, .call ⟨.value (.func 16), #[(.tmp 72), (.tmp 74), (.tmp 76), (.tmp 78)], #[25, 3, 9, 4]⟩, true, none⟩]) <|
 .seq (.ops [⟨some 87, .call ⟨.value (.func 43), #[(.tmp 80), (.tmp 82), (.tmp 84), (.tmp 86)], #[48, 3, 9, 4]⟩, true, none⟩]) <|
 .seq (.ops [⟨some 10, .assign (.tmp 79), false, none⟩]) <|
 .seq (.ops [⟨some 11, .assign (.tmp 87), false, none⟩]) <|
 .skip)) (.seq (.ops [⟨some 86, .load 4 (.tmp 85), false, none⟩]) <|
 .seq (.ops [⟨some 79, .call ⟨.value (.func 16), #[(.tmp 72), (.tmp 74), (.tmp 76), (.tmp 78)], #[25, 3, 9, 4]⟩, true, none⟩]) <|
 .seq (.ops [⟨some 84, .load 9 (.tmp 83), false, none⟩]) <|
 .seq (.ops [⟨some 87, .call ⟨.value (.func 43), #[(.tmp 80), (.tmp 82), (.tmp 84), (.tmp 86)], #[48, 3, 9, 4]⟩, true, none⟩]) <|
 .seq (.ops [⟨some 10, .assign (.tmp 79), false, none⟩]) <|
 .seq (.ops [⟨some 11, .assign (.tmp 87), false, none⟩]) <|
 .skip))) (.amb (.seq (.ops [⟨some 84, .load 9 (.tmp 83), false, none⟩]) <|
 .amb (.seq (.ops [⟨some 79, .call ⟨.value (.func 16), #[(.tmp 72), (.tmp 74), (.tmp 76), (.tmp 78)], #[25, 3, 9, 4]⟩, true, none⟩]) <|
 .seq (.ops [⟨some 82, .load 3 (.tmp 81), false, none⟩]) <|
 .seq (.ops [⟨some 86, .load 4 (.tmp 85), false, none⟩]) <|
 .seq (.ops [⟨some 87, .call ⟨.value (.func 43), #[(.tmp 80), (.tmp 82), (.tmp 84), (.tmp 86)], #[48, 3, 9, 4]⟩, true, none⟩]) <|
 .seq (.ops [⟨some 10, .assign (.tmp 79), false, none⟩]) <|
 .seq (.ops [⟨some 11, .assign (.tmp 87), false, none⟩]) <|
 .skip) (.seq (.ops [⟨some 86, .load 4 (.tmp 85), false, none⟩]) <|
 .seq (.ops [⟨some 79, .call ⟨.value (.func 16), #[(.tmp 72), (.tmp 74), (.tmp 76), (.tmp 78)], #[25, 3, 9, 4]⟩, true, none⟩]) <|
 .seq (.ops [⟨some 82, .load 3 (.tmp 81), false, none⟩]) <|
 .seq (.ops [⟨some 87, .call ⟨.value (.func 43), #[(.tmp 80), (.tmp 82), (.tmp 84), (.tmp 86)], #[48, 3, 9, 4]⟩, true, none⟩]) <|
 .seq (.ops [⟨some 10, .assign (.tmp 79), false, none⟩]) <|
 .seq (.ops [⟨some 11, .assign (.tmp 87), false, none⟩]) <|
 .skip)) (.seq (.ops [⟨some 86, .load 4 (.tmp 85), false, none⟩]) <|
 .seq (.ops [⟨some 79, .call ⟨.value (.func 16), #[(.tmp 72), (.tmp 74), (.tmp 76), (.tmp 78)], #[25, 3, 9, 4]⟩, true, none⟩]) <|
 .seq (.ops [⟨some 82, .load 3 (.tmp 81), false, none⟩]) <|
 .seq (.ops [⟨some 84, .load 9 (.tmp 83), false, none⟩]) <|
 .seq (.ops [⟨some 87, .call ⟨.value (.func 43), #[(.tmp 80), (.tmp 82), (.tmp 84), (.tmp 86)], #[48, 3, 9, 4]⟩, true, none⟩]) <|
 .seq (.ops [⟨some 10, .assign (.tmp 79), false, none⟩]) <|
 .seq (.ops [⟨some 11, .assign (.tmp 87), false, none⟩]) <|
 .skip)))
theorem q19_2 : (Tryd.f19.body.bind fun c => (regs c)[2]?).bind (regO Tryd.prog) = some t19_2 := by kernel_rfl
def t19_3 : SC :=
 .seq (.ops [⟨some 90, .move (.tmp 0), false, none⟩]) <|
 .seq (.ops [⟨some 91, .fieldAddr 52 (.tmp 5) 1, false, none⟩]) <|
 .seq (.ops [⟨some 92, .load 3 (.tmp 91), false, none⟩]) <|
 .seq (.ops [⟨some 93, .fieldAddr 52 (.tmp 5) 5, false, none⟩]) <|
 .seq (.ops [⟨some 94, .load 9 (.tmp 93), false, none⟩]) <|
 .seq (.ops [⟨some 95, .fieldAddr 52 (.tmp 5) 2, false, none⟩]) <|
 .seq (.ops [⟨some 96, .load 3 (.tmp 95), false, none⟩]) <|
 .seq (.ops [⟨some 97, .fieldAddr 52 (.tmp 5) 6, false, none⟩]) <|
 .seq (.ops [⟨some 98, .load 9 (.tmp 97), false, none⟩]) <|
 .seq (.ops [⟨some 100, .move (.tmp 1), false, none⟩]) <|
 .seq (.ops [⟨some 101, .fieldAddr 52 (.tmp 5) 1, false, none⟩]) <|
 .seq (.ops [⟨some 103, .fieldAddr 52 (.tmp 5) 5, false, none⟩]) <|
 .seq (.ops [⟨some 105, .fieldAddr 52 (.tmp 5) 2, false, none⟩]) <|
 .seq (.ops [⟨some 107, .fieldAddr 52 (.tmp 5) 6, false, none⟩]) <|
 .amb (.seq (.ops [⟨some 99, .call ⟨.value (.func 44), #[(.tmp 90), (.tmp 92), (.tmp 94), (.tmp 96), (.tmp 98)], #[25, 3, 9, 3, 9]⟩, true, none⟩]) <|
 .seq (.ops [⟨some 102, .load 3 (.tmp 101), false, none⟩]) <|
 .seq (.ops [⟨some 104, .load 9 (.tmp 103), false, none⟩]) <|
 .seq (.ops [⟨some 106, .load 3 (.tmp 105), false, none⟩]) <|
 .seq (.ops [⟨some 108, .load 9 (.tmp 107), false, none⟩]) <|
 .seq (.ops [⟨some 109, .call ⟨.value (.func 45), #[(.tmp 100), (.tmp 102), (.tmp 104), (.tmp 106), (.tmp 108)], #[48, 3, 9, 3, 9]⟩, true, none⟩]) <|
 .seq (.ops [⟨some 10, .assign (.tmp 99), false, none⟩]) <|
 .seq (.ops [⟨some 11, .assign (.tmp 109), false, none⟩]) <|
 .skip) (.amb (.seq (.ops [⟨some 102, .load 3 (.tmp 101), false, none⟩]) <|
 .amb (.seq (.ops [⟨some 99, .call ⟨.value (.func 44), #[(.tmp 90), (.tmp 92), (.tmp 94), (.tmp 96), (.tmp 98)], #[25, 3, 9, 3, 9]⟩, true, none⟩]) <|
 .seq (.ops [⟨some 104, .load 9 (.tmp 103), false, none⟩]) <|
 .seq (.ops [⟨some 106, .load 3 (.tmp 105), false, none⟩]) <|
 .seq (.ops [⟨some 108, .load 9 (.tmp 107), false, none⟩]) <|
 .seq (.ops [⟨some 109, .call ⟨.value (.func 45), #[(.tmp 100), (.tmp 102), (.tmp 104), (.tmp 106), (.tmp 108)], #[48, 3, 9, 3, 9]⟩, true, none⟩]) <|
 .seq (.ops [⟨some 10, .assign (.tmp 99), false, none⟩]) <|
 .seq (.ops [⟨some 11, .assign (.tmp 109), false, none⟩]) <|
 .skip) (.amb (.seq (.ops [⟨some 104, .load 9 (.tmp 103), false, none⟩]) <|
 .amb (.seq (.ops [⟨some 99, .call ⟨.value (.func 44), #[(.tmp 90), (.tmp 92), (.tmp 94), (.tmp 96), (.tmp 98)], #[25, 3, 9, 3, 9]⟩, true, none⟩]) <|
 .seq (.ops [⟨some 106, .load 3 (.tmp 105), false, none⟩]) <|
 .seq (.ops [⟨some 108, .load 9 (.tmp 107), false, none⟩]) <|
 .seq (.ops [⟨some 109, .call ⟨.value (.func 45), #[(.tmp 100), (.tmp 102), (.tmp 104), (.tmp 106), (.tmp 108)], #[48, 3, 9, 3, 9]⟩, true, none⟩]) <|
 .seq (.ops [⟨some 10, .assign (.tmp 99), false, none⟩]) <|
 .seq (.ops [⟨some 11, .assign (.tmp 109), false, none⟩]) <|
 .skip) (.amb (.seq (.ops [⟨some 106, .load 3 (.tmp 105), false, none⟩]) <|
 .amb (.seq (.ops [⟨some 99, .call ⟨.value (.func 44), #[(.tmp 90), (.tmp 92), (.tmp 94), (.tmp 96), (.tmp 98)], #[25, 3, 9, 3, 9]⟩, true, none⟩]) <|
 .seq (.ops [⟨some 108, .load 9 (.tmp 107), false, none⟩]) <|
 .seq (.ops [⟨some 109, .call ⟨.value (.func 45), #[(.tmp 100), (.tmp 102), (.tmp 104), (.tmp 106), (.tmp 108)], #[48, 3, 9, 3, 9]⟩, true, none⟩]) <|
 .seq (.ops [⟨some 10, .assign (.tmp 99), false, none⟩]) <|
 .seq (.ops [⟨some 11, .assign (.tmp 109), false, none⟩]) <|
 .skip) (.seq (.ops [⟨some 108, .load 9 (.tmp 107), false, none⟩]) <|
 .seq (.ops [⟨some 99, .call ⟨.value (.func 44), #[(.tmp 90), (.tmp 92), (.tmp 94), (.tmp 96), (.tmp 98)], #[25, 3, 9, 3, 9]⟩, true, none⟩]) <|
 .seq (.ops [⟨some 109, .call ⟨.value (.func 45), #[(.tmp 100), (.tmp 102), (.tmp 104), (.tmp 106), (.tmp 108)], #[48, 3, 9, 3, 9]⟩, true, none⟩]) <|
 .seq (.ops [⟨some 10, .assign (.tmp 99), false, none⟩]) <|
 .seq (.ops [⟨some 11, .assign (.tmp 109), false, none⟩]) <|
 .skip)) (.seq (.ops [⟨some 108, .load 9 (.tmp 107), false, none⟩]) <|
 .seq (.ops [⟨some 99, .call ⟨.value (.func 44), #[(.tmp 90), (.tmp 92), (.tmp 94), (.tmp 96), (.tmp 98)], #[25, 3, 9, 3, 9]⟩, true, none⟩]) <|
 .seq (.ops [⟨some 106, .load 3 (.tmp 105), false, none⟩]) <|
 .seq (.ops [⟨some 109, .call ⟨.value (.func 45), #[(.tmp 100), (.tmp 102), (.tmp 104), (.tmp 106), (.tmp 108)], #[48, 3, 9, 3, 9]⟩, true, none⟩]) <|
 .seq (.ops [⟨some 10, .assign (.tmp 99), false, none⟩]) <|
 .seq (.ops [⟨some 11, .assign (.tmp 109), false, none⟩]) <|
 .skip))) (.amb (.seq (.ops [⟨some 106, .load 3 (.tmp 105), false, none⟩]) <|
 .amb (.seq (.ops [⟨some 99, .call ⟨.value (.func 44), #[(.tmp 90), (.tmp 92), (.tmp 94), (.tmp 96), (.tmp 98)], #[25, 3, 9, 3, 9]⟩, true, none⟩]) <|
 .seq (.ops [⟨some 104, .load 9 (.tmp 103), false, none⟩]) <|
 .seq (.ops [⟨some 108, .load 9 (.tmp 107), false, none⟩]) <|
 .seq (.ops [⟨some 109, .call ⟨.value (.func 45), #[(.tmp 100), (.tmp 102), (.tmp 104), (.tmp 106), (.tmp 108)], #[48, 3, 9, 3, 9]⟩, true, none⟩]) <|
 .seq (.ops [⟨some 10, .assign (.tmp 99), false, none⟩]) <|
 .seq (.ops [⟨some 11, .assign (.tmp 109), false, none⟩]) <|
 .skip) (.seq (.ops [⟨some 108, .load 9 (.tmp 107), false, none⟩]) <|
 .seq (.ops [⟨some 99, .call ⟨.value (.func 44), #[(.tmp 90), (.tmp 92), (.tmp 94), (.tmp 96), (.tmp 98)], #[25, 3, 9, 3, 9]⟩, true, none⟩]) <|
 .seq (.ops [⟨some 104, .load 9 (.tmp 103), false, none⟩]) <|
 .seq (.ops [⟨some 109, .call ⟨.value (.func 45), #[(.tmp 100), (.tmp 102), (.tmp 104), (.tmp 106), (.tmp 108)], #[48, 3, 9, 3, 9]⟩, true, none⟩]) <|
 .seq (.ops [⟨some 10, .assign (.tmp 99), false, none⟩]) <|
 .seq (.ops [⟨some 11, .assign (.tmp 109), false, none⟩]) <|
 .skip)) (.seq (.ops [⟨some 108, .load 9 (.tmp 107), false, none⟩]) <|
 .seq (.ops [⟨some 99, .call ⟨.value (.func 44), #[(.tmp 90), (.tmp 92), (.tmp 94), (.tmp 96), (.tmp 98)], #[25, 3, 9, 3, 9]⟩, true, none⟩]) <|
 .seq (.ops [⟨some 104, .load 9 (.tmp 103), false, none⟩]) <|
 .seq (.ops [⟨some 106, .load 3 (.tmp 105), false, none⟩]) <|
 .seq (.ops [⟨some 109, .call ⟨.value (.func 45), #[(.tmp 100), (.tmp 102), (.tmp 104), (.tmp 106), (.tmp 108)], #[48, 3, 9, 3, 9]⟩, true, none⟩]) <|
 .seq (.ops [⟨some 10, .assign (.tmp 99), false, none⟩]) <|
 .seq (.ops [⟨some 11, .assign (.tmp 109), false, none⟩]) <|
 .skip)))) (.amb (.seq (.ops [⟨some 104, .load 9 (.tmp 103), false, none⟩]) <|
 .amb (.seq (.ops [⟨some 99, .call ⟨.value (.func 44), #[(.tmp 90), (.tmp 92), (.tmp 94), (.tmp 96), (.tmp 98)], #[25, 3, 9, 3, 9]⟩, true, none⟩]) <|
 .seq (.ops [⟨some 102, .load 3 (.tmp 101), false, none⟩]) <|
 .seq (.ops [⟨some 106, .load 3 (.tmp 105), false, none⟩]) <|
 .seq (.ops [⟨some 108, .load 9 (.tmp 107), false, none⟩]) <|
 .seq (.ops [⟨some 109, .call ⟨.value (.func 45), #[(.tmp 100), (.tmp 102), (.tmp 104), (.tmp 106), (.tmp 108)], #[48, 3, 9, 3, 9]⟩, true, none⟩]) <|
 .seq (.ops [⟨some 10, .assign (.tmp 99), false, none⟩]) <|
 .seq (.ops [⟨some 11, .assign (.tmp 109), false, none⟩]) <|
 .skip) (.amb (.seq (.ops [⟨some 106, .load 3 (.tmp 105), false, none⟩]) <|
 .amb (.seq (.ops [⟨some 99, .call ⟨.value (.func 44), #[(.tmp 90), (.tmp 92), (.tmp 94), (.tmp 96), (.tmp 98)], #[25, 3, 9, 3, 9]⟩, true, none⟩]) <|
 .seq (.ops [⟨some 102, .load 3 (.tmp 101), false, none⟩]) <|
 .seq (.ops [⟨some 108, .load 9 (.tmp 107), false, none⟩]) <|
 .seq (.ops [⟨some 109, .call ⟨.value (.func 45), #[(.tmp 100), (.tmp 102), (.tmp 104), (.tmp 106), (.tmp 108)], #[48, 3, 9, 3, 9]⟩, true, none⟩]) <|
 .seq (.ops [⟨some 10, .assign (.tmp 99), false, none⟩]) <|
 .seq (.ops [⟨some 11, .assign (.tmp 109), false, none⟩]) <|
 .skip) (.seq (.ops [⟨some 108, .load 9 (.tmp 107), false, none⟩]) <|
 .seq (.ops [⟨some 99, .call ⟨.value (.func 44), #[(.tmp 90), (.tmp 92), (.tmp 94), (.tmp 96), (.tmp 98)], #[25, 3, 9, 3, 9]⟩, true, none⟩]) <|
 .seq (.ops [⟨some 102, .load 3 (.tmp 101), false, none⟩]) <|
 .seq (.ops [⟨some 109, .call ⟨.value (.func 45), #[(.tmp 100), (.tmp 102), (.tmp 104), (.tmp 106), (.tmp 108)], #[48, 3, 9, 3, 9]⟩, true, none⟩]) <|
 .seq (.ops [⟨some 10, .assign (.tmp 99), false, none⟩]) <|
 .seq (.ops [⟨some 11, .assign (.tmp 109), false, none⟩]) <|
 .skip)) (.seq (.ops [⟨some 108, .load 9 (.tmp 107), false, none⟩]) <|
 .seq (.ops [⟨some 99, .call ⟨.value (.func 44), #[(.tmp 90), (.tmp 92), (.tmp 94), (.tmp 96), (.tmp 98)], #[25, 3, 9, 3, 9]⟩, true, none⟩]) <|
 .seq (.ops [⟨some 102, .load 3 (.tmp 101), false, none⟩]) <|
 .seq (.ops [⟨some 106, .load 3 (.tmp 105), false, none⟩]) <|
 .seq (.ops [⟨some 109, .call ⟨.value (.func 45), #[(.tmp 100), (.tmp 102), (.tmp 104), (.tmp 106), (.tmp 108)], #[48, 3, 9, 3, 9]⟩, true, none⟩]) <|
 .seq (.ops [⟨some 10, .assign (.tmp 99), false, none⟩]) <|
 .seq (.ops [⟨some 11, .assign (.tmp 109), false, none⟩]) <|
 .skip))) (.amb (.seq (.ops [⟨some 106, .load 3 (.tmp 105), false, none⟩]) <|
 .amb (.seq (.ops [⟨some 99, .call ⟨.value (.func 44), #[(.tmp 90), (.tmp 92), (.tmp 94), (.tmp 96), (.tmp 98)], #[25, 3, 9, 3, 9]⟩, true, none⟩]) <|
 .seq (.ops [⟨some 102, .load 3 (.tmp 101), false, none⟩]) <|
 .seq (.ops [⟨some 104, .load 9 (.tmp 103), false, none⟩]) <|
 .seq (.ops [⟨some 108, .load 9 (.tmp 107), false, none⟩]) <|
 .seq (.ops [⟨some 109, .call ⟨.value (.func 45), #[(.tmp 100), (.tmp 102), (.tmp 104), (.tmp 106), (.tmp 108)], #[48, 3, 9, 3, 9]⟩, true, none⟩]) <|
 .seq (.ops [⟨some 10, .assign (.tmp 99), false, none⟩]) <|
 .seq (.ops [⟨some 11, .assign (.tmp 109), false, none⟩]) <|
 .skip) (.seq (.ops [⟨some 108, .load 9 (.tmp 107), false, none⟩]) <|
 .seq (.ops [⟨some 99, .call ⟨.value (.func 44), #[(.tmp 90), (.tmp 92), (.tmp 94), (.tmp 96), (.tmp 98)], #[25, 3, 9, 3, 9]⟩, true, none⟩]) <|
 .seq (.ops [⟨some 102, .load 3 (.tmp 101), false, none⟩]) <|
 .seq (.ops [⟨some 104, .load 9 (.tmp 103), false, none⟩]) <|
 .seq (.ops [⟨some 109, .call ⟨.value (.func 45), #[(.tmp 100), (.tmp 102), (.tmp 104), (.tmp 106), (.tmp 108)], #[48, 3, 9, 3, 9]⟩, true, none⟩]) <|
 .seq (.ops [⟨some 10, .assign (.tmp 99), false, none⟩]) <|
 .seq (.ops [⟨some 11, .assign (.tmp 109), false, none⟩]) <|
 .skip)) (.seq (.ops [⟨some 108, .load 9 (.tmp 107), false, none⟩]) <|
 .seq (.ops [⟨some 99, .call ⟨.value (.func 44), #[(.tmp 90), (.tmp 92), (.tmp 94), (.tmp 96), (.tmp 98)], #[25, 3, 9, 3, 9]⟩, true, none⟩]) <|
 .seq (.ops [⟨some 102, .load 3 (.tmp 101), false, none⟩]) <|
 .seq (.ops [⟨some 104, .load 9 (.tmp 103), false, none⟩]) <|
 .seq (.ops [⟨some 106, .load 3 (.tmp 105), false, none⟩]) <|
 .seq (.ops [⟨some 109, .call ⟨.value (.func 45), #[(.tmp 100), (.tmp 102), (.tmp 104), (.tmp 106), (.tmp 108)], #[48, 3, 9, 3, 9]⟩, true, none⟩]) <|
 .seq (.ops [⟨some 10, .assign (.tmp 99), false, none⟩]) <|
 .seq (.ops [⟨some 11, .assign (.tmp 109), false, none⟩]) <|
 .skip))))
theorem q19_3 : (Tryd.f19.body.bind fun c => (regs c)[3]?).bind (regO Tryd.prog) = some t19_3 := by kernel_rfl
def t19_4 : SC :=
 .seq (.ops [⟨some 137, .move (.tmp 0), false, none⟩]) <|
 .seq (.ops [⟨some 138, .fieldAddr 52 (.tmp 5) 1, false, none⟩]) <|
 .seq (.ops [⟨some 140, .fieldAddr 52 (.tmp 5) 3, false, none⟩]) <|
 .seq (.ops [⟨some 143, .fieldAddr 52 (.tmp 5) 7, false, none⟩]) <|
 .amb (.seq (.ops [⟨some 139, .load 3 (.tmp 138), false, none⟩]) <|
 .amb (.seq (.ops [⟨some 141, .load 3 (.tmp 140), false, none⟩]) <|
 .amb (.seq (.ops [⟨some 142, .buildSlice 23 0 #[], true, none⟩]) <|
 .seq (.ops [⟨some 144, .load 23 (.tmp 143), false, none⟩]) <|
 .seq (.ops [⟨some 145, .call ⟨.builtin .append, #[(.tmp 142), (.tmp 144)], #[23, 23]⟩, true, none⟩]) <|
 .seq (.ops [⟨some 146, .call ⟨.value (.func 10), #[(.tmp 137), (.tmp 139), (.tmp 141), (.tmp 145)], #[25, 3, 3, 23]⟩, true, none⟩]) <|
 .seq (.ops [⟨some 136, .move (.tmp 146), false, none⟩]) <|
 .seq (.ops [⟨some 147, .extract (.tmp 136) 0, false, none⟩]) <|
 .seq (.ops [⟨some 148, .extract (.tmp 136) 1, false, none⟩]) <|
 .seq (.ops [⟨some 8, .assign (.tmp 147), false, none⟩]) <|
 .seq (.ops [⟨some 10, .assign (.tmp 148), false, none⟩]) <|
 .skip) (.seq (.ops [⟨some 144, .load 23 (.tmp 143), false, none⟩]) <|
 .seq (.ops [⟨some 142, .buildSlice 23 0 #[], true, none⟩]) <|
 .seq (.ops [⟨some 145, .call ⟨.builtin .append, #[(.tmp 142), (.tmp 144)], #[23, 23]⟩, true, none⟩]) <|
 .seq (.ops [⟨some 146, .call ⟨.value (.func 10), #[(.tmp 137), (.tmp 139), (.tmp 141), (.tmp 145)], #[25, 3, 3, 23]⟩, true, none⟩]) <|
 .seq (.ops [⟨some 136, .move (.tmp 146), false, none⟩]) <|
 .seq (.ops [⟨some 147, .extract (.tmp 136) 0, false, none⟩]) <|
 .seq (.ops [⟨some 148, .extract (.tmp 136) 1, false, none⟩]) <|
 .seq (.ops [⟨some 8, .assign (.tmp 147), false, none⟩]) <|
 .seq (.ops [⟨some 10, .assign (.tmp 148), false, none⟩]) <|
 .skip)) (.amb (.seq (.ops [⟨some 142, .buildSlice 23 0 #[], true, none⟩]) <|
 .seq (.ops [⟨some 144, .load 23 (.tmp 143), false, none⟩]) <|
 .amb (.seq (.ops [⟨some 141, .load 3 (.tmp 140), false, none⟩]) <|
 .seq (.ops [⟨some 145, .call ⟨.builtin .append, #[(.tmp 142), (.tmp 144)], #[23, 23]⟩, true, none⟩]) <|
 .seq (.ops [⟨some 146, .call ⟨.value (.func 10), #[(.tmp 137), (.tmp 139), (.tmp 141), (.tmp 145)], #[25, 3, 3, 23]⟩, true, none⟩]) <|
 .seq (.ops [⟨some 136, .move (.tmp 146), false, none⟩]) <|
 .seq (.ops [⟨some 147, .extract (.tmp 136) 0, false, none⟩]) <|
 .seq (.ops [⟨some 148, .extract (.tmp 136) 1, false, none⟩]) <|
 .seq (.ops [⟨some 8, .assign (.tmp 147), false, none⟩]) <|
 .seq (.ops [⟨some 10, .assign (.tmp 148), false, none⟩]) <|
 .skip) (.seq (.ops [⟨some 145, .call ⟨.builtin .append, #[(.tmp 142), (.tmp 144)], #[23, 23]⟩, true, none⟩]) <|
 .seq (.ops [⟨some 141, .load 3 (.tmp 140), false, none⟩]) <|
 .seq (.ops [⟨some 146, .call ⟨.value (.func 10), #[(.tmp 137), (.tmp 139), (.tmp 141), (.tmp 145)], #[25, 3, 3, 23]⟩, true, none⟩]) <|
 .seq (.ops [⟨some 136, .move (.tmp 146), false, none⟩]) <|
 .seq (.ops [⟨some 147, .extract (.tmp 136) 0, false, none⟩]) <|
 .seq (.ops [⟨some 148, .extract (.tmp 136) 1, false, none⟩]) <|
 .seq (.ops [⟨some 8, .assign (.tmp 147), false, none⟩]) <|
 .seq (.ops [⟨some 10, .assign (.tmp 148), false, none⟩]) <|
 .skip)) (.seq (.ops [⟨some 144, .load 23 (.tmp 143), false, none⟩]) <|
 .seq (.ops [⟨some 142, .buildSlice 23 0 #[], true, none⟩]) <|
 .amb (.seq (.ops [⟨some 141, .load 3 (.tmp 140), false, none⟩]) <|
 .seq (.ops [⟨some 145, .call ⟨.builtin .append, #[(.tmp 142), (.tmp 144)], #[23, 23]⟩, true, none⟩]) <|
 .seq (.ops [⟨some 146, .call ⟨.value (.func 10), #[(.tmp 137), (.tmp 139), (.tmp 141), (.tmp 145)], #[25, 3, 3, 23]⟩, true, none⟩]) <|
 .seq (.ops [⟨some 136, .move (.tmp 146), false, none⟩]) <|
 .seq (.ops [⟨some 147, .extract (.tmp 136) 0, false, none⟩]) <|
 .seq (.ops [⟨some 148, .extract (.tmp 136) 1, false, none⟩]) <|
 .seq (.ops [⟨some 8, .assign (.tmp 147), false, none⟩]) <|
 .seq (.ops [⟨some 10, .assign (.tmp 148), false, none⟩]) <|
 .skip) (.seq (.ops [⟨some 145, .call ⟨.builtin .append, #[(.tmp 142), (.tmp 144)], #[23, 23]⟩, true, none⟩]) <|
 .seq (.ops [⟨some 141, .load 3 (.tmp 140), false, none⟩]) <|
 .seq (.ops [⟨some 146, .call ⟨.value (.func 10), #[(.tmp 137), (.tmp 139), (.tmp 141), (.tmp 145)], #[25, 3, 3, 23]⟩, true, none⟩]) <|
 .seq (.ops [⟨some 136, .move (.tmp 146), false, none⟩]) <|
 .seq (.ops [⟨some 147, .extract (.tmp 136) 0, false, none⟩]) <|
 .seq (.ops [⟨some 148, .extract (.tmp 136) 1, false, none⟩]) <|
 .seq (.ops [⟨some 8, .assign (.tmp 147), false, none⟩]) <|
 .seq (.ops [⟨some 10, .assign (.tmp 148), false, none⟩]) <|
 .skip)))) (.amb (.seq (.ops [⟨some 141, .load 3 (.tmp 140), false, none⟩]) <|
 .amb (.seq (.ops [⟨some 142, .buildSlice 23 0 #[], true, none⟩]) <|
 .seq (.ops [⟨some 144, .load 23 (.tmp 143), false, none⟩]) <|
 .amb (.seq (.ops [⟨some 139, .load 3 (.tmp 138), false, none⟩]) <|
 .seq (.ops [⟨some 145, .call ⟨.builtin .append, #[(.tmp 142), (.tmp 144)], #[23, 23]⟩, true, none⟩]) <|
 .seq (.ops [⟨some 146, .call ⟨.value (.func 10), #[(.tmp 137), (.tmp 139), (.tmp 141), (.tmp 145)], #[25, 3, 3, 23]⟩, true, none⟩]) <|
 .seq (.ops [⟨some 136, .move (.tmp 146), false, none⟩]) <|
 .seq (.ops [⟨some 147, .extract (.tmp 136) 0, false, none⟩]) <|
 .seq (.ops [⟨some 148, .extract (.tmp 136) 1, false, none⟩]) <|
 .seq (.ops [⟨some 8, .assign (.tmp 147), false, none⟩]) <|
 .seq (.ops [⟨some 10, .assign (.tmp 148), false, none⟩]) <|
 .skip) (.seq (.ops [⟨some 145, .call ⟨.builtin .append, #[(.tmp 142), (.tmp 144)], #[23, 23]⟩, true, none⟩]) <|
 .seq (.ops [⟨some 139, .load 3 (.tmp 138), false, none⟩]) <|
 .seq (.ops [⟨some 146, .call ⟨.value (.func 10), #[(.tmp 137), (.tmp 139), (.tmp 141), (.tmp 145)], #[25, 3, 3, 23]⟩, true, none⟩]) <|
 .seq (.ops [⟨some 136, .move (.tmp 146), false, none⟩]) <|
 .seq (.ops [⟨some 147, .extract (.tmp 136) 0, false, none⟩]) <|
 .seq (.ops [⟨some 148, .extract (.tmp 136) 1, false, none⟩]) <|
 .seq (.ops [⟨some 8, .assign (.tmp 147), false, none⟩]) <|
 .seq (.ops [⟨some 10, .assign (.tmp 148), false, none⟩]) <|
 .skip)) (.seq (.ops [⟨some 144, .load 23 (.tmp 143), false, none⟩]) <|
 .seq (.ops [⟨some 142, .buildSlice 23 0 #[], true, none⟩]) <|
 .amb (.seq (.ops [⟨some 139, .load 3 (.tmp 138), false, none⟩]) <|
 .seq (.ops [⟨some 145, .call ⟨.builtin .append, #[(.tmp 142), (.tmp 144)], #[23, 23]⟩, true, none⟩]) <|
 .seq (.ops [⟨some 146, .call ⟨.value (.func 10), #[(.tmp 137), (.tmp 139), (.tmp 141), (.tmp 145)], #[25, 3, 3, 23]⟩, true, none⟩]) <|
 .seq (.ops [⟨some 136, .move (.tmp 146), false, none⟩]) <|
 .seq (.ops [⟨some 147, .extract (.tmp 136) 0, false, none⟩]) <|
 .seq (.ops [⟨some 148, .extract (.tmp 136) 1, false, none⟩]) <|
 .seq (.ops [⟨some 8, .assign (.tmp 147), false, none⟩]) <|
 .seq (.ops [⟨some 10, .assign (.tmp 148), false, none⟩]) <|
 .skip) (.seq (.ops [⟨some 145, .call ⟨.builtin .append, #[(.tmp 142), (.tmp 144)], #[23, 23]⟩, true, none⟩]) <|
 .seq (.ops [⟨some 139, .load 3 (.tmp 138), false, none⟩]) <|
 .seq (.ops [⟨some 146, .call ⟨.value (.func 10), #[(.tmp 137), (.tmp 139), (.tmp 141), (.tmp 145)], #[25, 3, 3, 23]⟩, true, none⟩]) <|
 .seq (.ops [⟨some 136, .move (.tmp 146), false, none⟩]) <|
 .seq (.ops [⟨some 147, .extract (.tmp 136) 0, false, none⟩]) <|
 .seq (.ops [⟨some 148, .extract (.tmp 136) 1, false, none⟩]) <|
 .seq (.ops [⟨some 8, .assign (.tmp 147), false, none⟩]) <|
 .seq (.ops [⟨some 10, .assign (.tmp 148), false, none⟩]) <|
 .skip))) (.amb (.seq (.ops [⟨some 142, .buildSlice 23 0 #[], true, none⟩]) <|
 .seq (.ops [⟨some 144, .load 23 (.tmp 143), false, none⟩]) <|
 .amb (.seq (.ops [⟨some 139, .load 3 (.tmp 138), false, none⟩]) <|
 .amb (.seq (.ops [⟨some 141, .load 3 (.tmp 140), false, none⟩]) <|
 .seq (.ops [⟨some 145, .call ⟨.builtin .append, #[(.tmp 142), (.tmp 144)], #[23, 23]⟩, true, none⟩]) <|
 .seq (.ops [⟨some 146, .call ⟨.value (.func 10), #[(.tmp 137), (.tmp 139), (.tmp 141), (.tmp 145)], #[25, 3, 3, 23]⟩, true, none⟩]) <|
 .seq (.ops [⟨some 136, .move (.tmp 146), false, none⟩]) <|
 .seq (.ops [⟨some 147, .extract (.tmp 136) 0, false, none⟩]) <|
 .seq (.ops [⟨some 148, .extract (.tmp 136) 1, false, none⟩]) <|
 .seq (.ops [⟨some 8, .assign (.tmp 147), false, none⟩]) <|
 .seq (.ops [⟨some 10, .assign (.tmp 148), false, none⟩]) <|
 .skip) (.seq (.ops [⟨some 145, .call ⟨.builtin .append, #[(.tmp 142), (.tmp 144)], #[23, 23]⟩, true, none⟩]) <|
 .seq (.ops [⟨some 141, .load 3 (.tmp 140), false, none⟩]) <|
 .seq (.ops [⟨some 146, .call ⟨.value (.func 10), #[(.tmp 137), (.tmp 139), (.tmp 141), (.tmp 145)], #[25, 3, 3, 23]⟩, true, none⟩]) <|
 .seq (.ops [⟨some 136, .move (.tmp 146), false, none⟩]) <|
 .seq (.ops [⟨some 147, .extract (.tmp 136) 0, false, none⟩]) <|
 .seq (.ops [⟨some 148, .extract (.tmp 136) 1, false, none⟩]) <|
 .seq (.ops [⟨some 8, .assign (.tmp 147), false, none⟩]) <|
 .seq (.ops [⟨some 10, .assign (.tmp 148), false, none⟩]) <|
 .skip)) (.amb (.seq (.ops [⟨some 141, .load 3 (.tmp 140), false, none⟩]) <|
 .seq (.ops [⟨some 145, .call ⟨.builtin .append, #[(.tmp 142), (.tmp 144)], #[23, 23]⟩, true, none⟩]) <|
 .seq (.ops [⟨some 139, .load 3 (.tmp 138), false, none⟩]) <|
 .seq (.ops [⟨some 146, .call ⟨.value (.func 10), #[(.tmp 137), (.tmp 139), (.tmp 141), (.tmp 145)], #[25, 3, 3, 23]⟩, true, none⟩]) <|
 .seq (.ops [⟨some 136, .move (.tmp 146), false, none⟩]) <|
 .seq (.ops [⟨some 147, .extract (.tmp 136) 0, false, none⟩]) <|
 .seq (.ops [⟨some 148, .extract (.tmp 136) 1, false, none⟩]) <|
 .seq (.ops [⟨some 8, .assign (.tmp 147), false, none⟩]) <|
 .seq (.ops [⟨some 10, .assign (.tmp 148), false, none⟩]) <|
 .skip) (.seq (.ops [⟨some 145, .call ⟨.builtin .append, #[(.tmp 142), (.tmp 144)], #[23, 23]⟩, true, none⟩]) <|
 .seq (.ops [⟨some 139, .load 3 (.tmp 138), false, none⟩]) <|
 .seq (.ops [⟨some 141, .load 3 (.tmp 140), false, none⟩]) <|
 .seq (.ops [⟨some 146, .call ⟨.value (.func 10), #[(.tmp 137), (.tmp 139), (.tmp 141), (.tmp 145)], #[25, 3, 3, 23]⟩, true, none⟩]) <|
 .seq (.ops [⟨some 136, .move (.tmp 146), false, none⟩]) <|
 .seq (.ops [⟨some 147, .extract (.tmp 136) 0, false, none⟩]) <|
 .seq (.ops [⟨some 148, .extract (.tmp 136) 1, false, none⟩]) <|
 .seq (.ops [⟨some 8, .assign (.tmp 147), false, none⟩]) <|
 .seq (.ops [⟨some 10, .assign (.tmp 148), false, none⟩]) <|
 .skip))) (.seq (.ops [⟨some 144, .load 23 (.tmp 143), false, none⟩]) <|
 .seq (.ops [⟨some 142, .buildSlice 23 0 #[], true, none⟩]) <|
 .amb (.seq (.ops [⟨some 139, .load 3 (.tmp 138), false, none⟩]) <|
 .amb (.seq (.ops [⟨some 141, .load 3 (.tmp 140), false, none⟩]) <|
 .seq (.ops [⟨some 145, .call ⟨.builtin .append, #[(.tmp 142), (.tmp 144)], #[23, 23]⟩, true, none⟩]) <|
 .seq (.ops [⟨some 146, .call ⟨.value (.func 10), #[(.tmp 137), (.tmp 139), (.tmp 141), (.tmp 145)], #[25, 3, 3, 23]⟩, true, none⟩]) <|
 .seq (.ops [⟨some 136, .move (.tmp 146), false, none⟩]) <|
 .seq (.ops [⟨some 147, .extract (.tmp 136) 0, false, none⟩]) <|
 .seq (.ops [⟨some 148, .extract (.tmp 136) 1, false, none⟩]) <|
 .seq (.ops [⟨some 8, .assign (.tmp 147), false, none⟩]) <|
 .seq (.ops [⟨some 10, .assign (.tmp 148), false, none⟩]) <|
 .skip) (.seq (.ops [⟨some 145, .call ⟨.builtin .append, #[(.tmp 142), (.tmp 144)], #[23, 23]⟩, true, none⟩]) <|
 .seq (.ops [⟨some 141, .load 3 (.tmp 140), false, none⟩]) <|
 .seq (.ops [⟨some 146, .call ⟨.value (.func 10), #[(.tmp 137), (.tmp 139), (.tmp 141), (.tmp 145)], #[25, 3, 3, 23]⟩, true, none⟩]) <|
 .seq (.ops [⟨some 136, .move (.tmp 146), false, none⟩]) <|
 .seq (.ops [⟨some 147, .extract (.tmp 136) 0, false, none⟩]) <|
 .seq (.ops [⟨some 148, .extract (.tmp 136) 1, false, none⟩]) <|
 .seq (.ops [⟨some 8, .assign (.tmp 147), false, none⟩]) <|
 .seq (.ops [⟨some 10, .assign (.tmp 148), false, none⟩]) <|
 .skip)) (.amb (.seq (.ops [⟨some 141, .load 3 (.tmp 140), false, none⟩]) <|
 .seq (.ops [⟨some 145, .call ⟨.builtin .append, #[(.tmp 142), (.tmp 144)], #[23, 23]⟩, true, none⟩]) <|
 .seq (.ops [⟨some 139, .load 3 (.tmp 138), false, none⟩]) <|
 .seq (.ops [⟨some 146, .call ⟨.value (.func 10), #[(.tmp 137), (.tmp 139), (.tmp 141), (.tmp 145)], #[25, 3, 3, 23]⟩, true, none⟩]) <|
 .seq (.ops [⟨some 136, .move (.tmp 146), false, none⟩]) <|
 .seq (.ops [⟨some 147, .extract (.tmp 136) 0, false, none⟩]) <|
 .seq (.ops [⟨some 148, .extract (.tmp 136) 1, false, none⟩]) <|
 .seq (.ops [⟨some 8, .assign (.tmp 147), false, none⟩]) <|
 .seq (.ops [⟨some 10, .assign (.tmp 148), false, none⟩]) <|
 .skip) (.seq (.ops [⟨some 145, .call ⟨.builtin .append, #[(.tmp 142), (.tmp 144)], #[23, 23]⟩, true, none⟩]) <|
 .seq (.ops [⟨some 139, .load 3 (.tmp 138), false, none⟩]) <|
 .seq (.ops [⟨some 141, .load 3 (.tmp 140), false, none⟩]) <|
 .seq (.ops [⟨some 146, .call ⟨.value (.func 10), #[(.tmp 137), (.tmp 139), (.tmp 141), (.tmp 145)], #[25, 3, 3, 23]⟩, true, none⟩]) <|
 .seq (.ops [⟨some 136, .move (.tmp 146), false, none⟩]) <|
 .seq (.ops [⟨some 147, .extract (.tmp 136) 0, false, none⟩]) <|
 .seq (.ops [⟨some 148, .extract (.tmp 136) 1, false, none⟩]) <|
 .seq (.ops [⟨some 8, .assign (.tmp 147), false, none⟩]) <|
 .seq (.ops [⟨some 10, .assign (.tmp 148), false, none⟩]) <|
 .skip)))))
theorem q19_4 : (Tryd.f19.body.bind fun c => (regs c)[4]?).bind (regO Tryd.prog) = some t19_4 := by kernel_rfl
def t19_5 : SC :=
 .seq (.ops [⟨some 162, .move (.tmp 0), false, none⟩]) <|
 .seq (.ops [⟨some 163, .fieldAddr 52 (.tmp 5) 1, false, none⟩]) <|
 .seq (.ops [⟨some 164, .load 3 (.tmp 163), false, none⟩]) <|
 .seq (.ops [⟨some 165, .fieldAddr 52 (.tmp 5) 3, false, none⟩]) <|
 .seq (.ops [⟨some 166, .load 3 (.tmp 165), false, none⟩]) <|
 .seq (.ops [⟨some 168, .move (.tmp 1), false, none⟩]) <|
 .seq (.ops [⟨some 169, .fieldAddr 52 (.tmp 5) 1, false, none⟩]) <|
 .seq (.ops [⟨some 171, .fieldAddr 52 (.tmp 5) 3, false, none⟩]) <|
 .amb (.seq (.ops [⟨some 167, .call ⟨.value (.func 13), #[(.tmp 162), (.tmp 164), (.tmp 166)], #[25, 3, 3]⟩, true, none⟩]) <|
 .seq (.ops [⟨some 170, .load 3 (.tmp 169), false, none⟩]) <|
 .seq (.ops [⟨some 172, .load 3 (.tmp 171), false, none⟩]) <|
 .seq (.ops [⟨some 173, .call ⟨.value (.func 48), #[(.tmp 168), (.tmp 170), (.tmp 172)], #[48, 3, 3]⟩, true, none⟩]) <|
 .seq (.ops [⟨some 10, .assign (.tmp 167), false, none⟩]) <|
 .seq (.ops [⟨some 11, .assign (.tmp 173), false, none⟩]) <|
 .skip) (.amb (.seq (.ops [⟨some 170, .load 3 (.tmp 169), false, none⟩]) <|
 .amb (.seq (.ops [⟨some 167, .call ⟨.value (.func 13), #[(.tmp 162), (.tmp 164), (.tmp 166)], #[25, 3, 3]⟩, true, none⟩]) <|
 .seq (.ops [⟨some 172, .load 3 (.tmp 171), false, none⟩]) <|
 .seq (.ops [⟨some 173, .call ⟨.value (.func 48), #[(.tmp 168), (.tmp 170), (.tmp 172)], #[48, 3, 3]⟩, true, none⟩]) <|
 .seq (.ops [⟨some 10, .assign (.tmp 167), false, none⟩]) <|
 .seq (.ops [⟨some 11, .assign (.tmp 173), false, none⟩]) <|
 .skip) (.seq (.ops [⟨some 172, .load 3 (.tmp 171), false, none⟩]) <|
 .seq (.ops [⟨some 167, .call ⟨.value (.func 13), #[(.tmp 162), (.tmp 164), (.tmp 166)], #[25, 3, 3]⟩, true, none⟩]) <|
 .seq (.ops [⟨some 173, .call ⟨.value (.func 48), #[(.tmp 168), (.tmp 170), (.tmp 172)], #[48, 3, 3]⟩, true, none⟩]) <|
 .seq (.ops [⟨some 10, .assign (.tmp 167), false, none⟩]) <|
 .seq (.ops [⟨some 11, .assign (.tmp 173), false, none⟩]) <|
 .skip)) (.seq (.ops [⟨some 172, .load 3 (.tmp 171), false, none⟩]) <|
 .seq (.ops [⟨some 167, .call ⟨.value (.func 13), #[(.tmp 162), (.tmp 164), (.tmp 166)], #[25, 3, 3]⟩, true, none⟩]) <|
 .seq (.ops [⟨some 170, .load 3 (.tmp 169), false, none⟩]) <|
 .seq (.ops [⟨some 173, .call ⟨.value (.func 48), #[(.tmp 168), (.tmp 170), (.tmp 172)], #[48, 3, 3]⟩, true, none⟩]) <|
 .seq (.ops [⟨some 10, .assign (.tmp 167), false, none⟩]) <|
 .seq (.ops [⟨some 11, .assign (.tmp 173), false, none⟩]) <|
 .skip))
theorem q19_5 : (Tryd.f19.body.bind fun c => (regs c)[5]?).bind (regO Tryd.prog) = some t19_5 := by kernel_rfl
def t19_6 : SC :=
 .seq (.ops [⟨some 176, .move (.tmp 0), false, none⟩]) <|
 .seq (.ops [⟨some 177, .fieldAddr 52 (.tmp 5) 1, false, none⟩]) <|
 .seq (.ops [⟨some 178, .load 3 (.tmp 177), false, none⟩]) <|
 .seq (.ops [⟨some 179, .fieldAddr 52 (.tmp 5) 4, false, none⟩]) <|
 .seq (.ops [⟨some 180, .load 3 (.tmp 179), false, none⟩]) <|
 .seq (.ops [⟨some 182, .move (.tmp 1), false, none⟩]) <|
 .seq (.ops [⟨some 183, .fieldAddr 52 (.tmp 5) 1, false, none⟩]) <|
 .seq (.ops [⟨some 185, .fieldAddr 52 (.tmp 5) 4, false, none⟩]) <|
 .amb (.seq (.ops [⟨some 181, .call ⟨.value (.func 49), #[(.tmp 176), (.tmp 178), (.tmp 180)], #[25, 3, 3]⟩, true, none⟩]) <|
 .seq (.ops [⟨some 184, .load 3 (.tmp 183), false, none⟩]) <|
 .seq (.ops [⟨some 186, .load 3 (.tmp 185), false, none⟩]) <|
 .seq (.ops [⟨some 187, .call ⟨.value (.func 50), #[(.tmp 182), (.tmp 184), (.tmp 186)], #[48, 3, 3]⟩, true, none⟩]) <|
 .seq (.ops [⟨some 10, .assign (.tmp 181), false, none⟩]) <|
 .seq (.ops [⟨some 11, .assign (.tmp 187), false, none⟩]) <|
 .skip) (.amb (.seq (.ops [⟨some 184, .load 3 (.tmp 183), false, none⟩]) <|
 .amb (.seq (.ops [⟨some 181, .call ⟨.value (.func 49), #[(.tmp 176), (.tmp 178), (.tmp 180)], #[25, 3, 3]⟩, true, none⟩]) <|
 .seq (.ops [⟨some 186, .load 3 (.tmp 185), false, none⟩]) <|
 .seq (.ops [⟨some 187, .call ⟨.value (.func 50), #[(.tmp 182), (.tmp 184), (.tmp 186)], #[48, 3, 3]⟩, true, none⟩]) <|
 .seq (.ops [⟨some 10, .assign (.tmp 181), false, none⟩]) <|
 .seq (.ops [⟨some 11, .assign (.tmp 187), false, none⟩]) <|
 .skip) (.seq (.ops [⟨some 186, .load 3 (.tmp 185), false, none⟩]) <|
 .seq (.ops [⟨some 181, .call ⟨.value (.func 49), #[(.tmp 176), (.tmp 178), (.tmp 180)], #[25, 3, 3]⟩, true, none⟩]) <|
 .seq (.ops [⟨some 187, .call ⟨.value (.func 50), #[(.tmp 182), (.tmp 184), (.tmp 186)], #[48, 3, 3]⟩, true, none⟩]) <|
 .seq (.ops [⟨some 10, .assign (.tmp 181), false, none⟩]) <|
 .seq (.ops [⟨some 11, .assign (.tmp 187), false, none⟩]) <|
 .skip)) (.seq (.ops [⟨some 186, .load 3 (.tmp 185), false, none⟩]) <|
 .seq (.ops [⟨some 181, .call ⟨.value (.func 49), #[(.tmp 176), (.tmp 178), (.tmp 180)], #[25, 3, 3]⟩, true, none⟩]) <|
 .seq (.ops [⟨some 184, .load 3 (.tmp 183), false, none⟩]) <|
 .seq (.ops [⟨some 187, .call ⟨.value (.func 50), #[(.tmp 182), (.tmp 184), (.tmp 186)], #[48, 3, 3]⟩, true, none⟩]) <|
 .seq (.ops [⟨some 10, .assign (.tmp 181), false, none⟩]) <|
 .seq (.ops [⟨some 11, .assign (.tmp 187), false, none⟩]) <|
 .skip))
theorem q19_6 : (Tryd.f19.body.bind fun c => (regs c)[6]?).bind (regO Tryd.prog) = some t19_6 := by kernel_rfl
end Go.SX.G
