/- The compiled texts of the functions that are walked here, each checked against the loaded program; facts on its types. Printed by a program of this session. -/
import Derived.Test.YteoiokeiddlchaaGreatSxSimp
import Derived.Test.YteoiokeiddlchaaGreatProg
set_option linter.unusedVariables false
namespace Go.SX.G
open Go Go.SX Go.Proofs
theorem mixed : Tryz.prog.follows .mixedOrders = true := by kernel_rfl
theorem ar118 : arE Tryz.prog 118 = some (4096, 5, 1) := by kernel_rfl
theorem ar23 : arE Tryz.prog 23 = some (32, 22, 1) := by kernel_rfl
theorem by22 : byP Tryz.prog 22 = some 8 := by kernel_rfl
theorem by5 : byP Tryz.prog 5 = some 1 := by kernel_rfl
theorem by81 : byP Tryz.prog 81 = some 40 := by kernel_rfl
theorem by85 : byP Tryz.prog 85 = some 24 := by kernel_rfl
theorem fd27_1 : fdO Tryz.prog 27 1 = some (1, some 32) := by kernel_rfl
theorem fd33_0 : fdO Tryz.prog 33 0 = some (0, none) := by kernel_rfl
theorem fo102_0 : foff Tryz.prog 102 0 = some 0 := by kernel_rfl
theorem fo106_0 : foff Tryz.prog 106 0 = some 0 := by kernel_rfl
theorem fo106_1 : foff Tryz.prog 106 1 = some 1 := by kernel_rfl
theorem fo106_2 : foff Tryz.prog 106 2 = some 2 := by kernel_rfl
theorem fo106_3 : foff Tryz.prog 106 3 = some 3 := by kernel_rfl
theorem fo27_0 : foff Tryz.prog 27 0 = some 0 := by kernel_rfl
theorem fo27_1 : foff Tryz.prog 27 1 = some 1 := by kernel_rfl
theorem fo27_2 : foff Tryz.prog 27 2 = some 33 := by kernel_rfl
theorem fo31_0 : foff Tryz.prog 31 0 = some 0 := by kernel_rfl
theorem fo33_0 : foff Tryz.prog 33 0 = some 0 := by kernel_rfl
theorem fo47_0 : foff Tryz.prog 47 0 = some 0 := by kernel_rfl
theorem fo47_1 : foff Tryz.prog 47 1 = some 35 := by kernel_rfl
theorem fo47_2 : foff Tryz.prog 47 2 = some 36 := by kernel_rfl
theorem fo61_1 : foff Tryz.prog 61 1 = some 1 := by kernel_rfl
theorem fo63_0 : foff Tryz.prog 63 0 = some 0 := by kernel_rfl
theorem fo63_1 : foff Tryz.prog 63 1 = some 1 := by kernel_rfl
theorem fo63_2 : foff Tryz.prog 63 2 = some 2 := by kernel_rfl
theorem fo63_3 : foff Tryz.prog 63 3 = some 3 := by kernel_rfl
theorem fo63_4 : foff Tryz.prog 63 4 = some 4 := by kernel_rfl
theorem fo63_6 : foff Tryz.prog 63 6 = some 6 := by kernel_rfl
theorem fo73_0 : foff Tryz.prog 73 0 = some 0 := by kernel_rfl
theorem fo73_1 : foff Tryz.prog 73 1 = some 1 := by kernel_rfl
theorem fo73_2 : foff Tryz.prog 73 2 = some 2 := by kernel_rfl
theorem fo76_0 : foff Tryz.prog 76 0 = some 0 := by kernel_rfl
theorem fo76_1 : foff Tryz.prog 76 1 = some 1 := by kernel_rfl
theorem fo81_0 : foff Tryz.prog 81 0 = some 0 := by kernel_rfl
theorem fo81_1 : foff Tryz.prog 81 1 = some 1 := by kernel_rfl
theorem fo81_2 : foff Tryz.prog 81 2 = some 2 := by kernel_rfl
theorem fo85_0 : foff Tryz.prog 85 0 = some 0 := by kernel_rfl
theorem fo85_1 : foff Tryz.prog 85 1 = some 1 := by kernel_rfl
theorem fo85_2 : foff Tryz.prog 85 2 = some 2 := by kernel_rfl
theorem fo91_0 : foff Tryz.prog 91 0 = some 0 := by kernel_rfl
theorem fo91_1 : foff Tryz.prog 91 1 = some 1 := by kernel_rfl
theorem fo91_2 : foff Tryz.prog 91 2 = some 2 := by kernel_rfl
theorem fo93_0 : foff Tryz.prog 93 0 = some 0 := by kernel_rfl
theorem fo93_1 : foff Tryz.prog 93 1 = some 7 := by kernel_rfl
theorem fo93_2 : foff Tryz.prog 93 2 = some 8 := by kernel_rfl
theorem pl102_0 : place Tryz.prog 102 0 = some (0, 1) := by kernel_rfl
theorem pl106_0 : place Tryz.prog 106 0 = some (0, 1) := by kernel_rfl
theorem pl106_1 : place Tryz.prog 106 1 = some (1, 1) := by kernel_rfl
theorem pl27_0 : place Tryz.prog 27 0 = some (0, 1) := by kernel_rfl
theorem pl31_0 : place Tryz.prog 31 0 = some (0, 1) := by kernel_rfl
theorem pl31_1 : place Tryz.prog 31 1 = some (1, 1) := by kernel_rfl
theorem pl33_0 : place Tryz.prog 33 0 = some (0, 1) := by kernel_rfl
theorem pl33_1 : place Tryz.prog 33 1 = some (1, 2) := by kernel_rfl
theorem pl47_1 : place Tryz.prog 47 1 = some (35, 1) := by kernel_rfl
theorem pl47_2 : place Tryz.prog 47 2 = some (36, 1) := by kernel_rfl
theorem pl61_0 : place Tryz.prog 61 0 = some (0, 1) := by kernel_rfl
theorem pl61_4 : place Tryz.prog 61 4 = some (35, 1) := by kernel_rfl
theorem pl63_0 : place Tryz.prog 63 0 = some (0, 1) := by kernel_rfl
theorem pl63_1 : place Tryz.prog 63 1 = some (1, 1) := by kernel_rfl
theorem pl63_2 : place Tryz.prog 63 2 = some (2, 1) := by kernel_rfl
theorem pl63_4 : place Tryz.prog 63 4 = some (4, 1) := by kernel_rfl
theorem pl73_0 : place Tryz.prog 73 0 = some (0, 1) := by kernel_rfl
theorem pl73_1 : place Tryz.prog 73 1 = some (1, 1) := by kernel_rfl
theorem pl73_2 : place Tryz.prog 73 2 = some (2, 1) := by kernel_rfl
theorem pl76_1 : place Tryz.prog 76 1 = some (1, 1) := by kernel_rfl
theorem pl81_0 : place Tryz.prog 81 0 = some (0, 1) := by kernel_rfl
theorem pl81_1 : place Tryz.prog 81 1 = some (1, 1) := by kernel_rfl
theorem pl81_2 : place Tryz.prog 81 2 = some (2, 1) := by kernel_rfl
theorem pl85_0 : place Tryz.prog 85 0 = some (0, 1) := by kernel_rfl
theorem pl85_1 : place Tryz.prog 85 1 = some (1, 1) := by kernel_rfl
theorem pl85_2 : place Tryz.prog 85 2 = some (2, 1) := by kernel_rfl
theorem pl91_0 : place Tryz.prog 91 0 = some (0, 1) := by kernel_rfl
theorem pl91_1 : place Tryz.prog 91 1 = some (1, 1) := by kernel_rfl
theorem pl93_0 : place Tryz.prog 93 0 = some (0, 7) := by kernel_rfl
theorem pl93_1 : place Tryz.prog 93 1 = some (7, 1) := by kernel_rfl
theorem pl93_2 : place Tryz.prog 93 2 = some (8, 1) := by kernel_rfl
theorem sd102 : sized Tryz.prog 102 = true := by kernel_rfl
theorem sd106 : sized Tryz.prog 106 = true := by kernel_rfl
theorem sd118 : sized Tryz.prog 118 = true := by kernel_rfl
theorem sd25 : sized Tryz.prog 25 = true := by kernel_rfl
theorem sd27 : sized Tryz.prog 27 = true := by kernel_rfl
theorem sd31 : sized Tryz.prog 31 = true := by kernel_rfl
theorem sd33 : sized Tryz.prog 33 = true := by kernel_rfl
theorem sd47 : sized Tryz.prog 47 = true := by kernel_rfl
theorem sd61 : sized Tryz.prog 61 = true := by kernel_rfl
theorem sd63 : sized Tryz.prog 63 = true := by kernel_rfl
theorem sd73 : sized Tryz.prog 73 = true := by kernel_rfl
theorem sd76 : sized Tryz.prog 76 = true := by kernel_rfl
theorem sd81 : sized Tryz.prog 81 = true := by kernel_rfl
theorem sd85 : sized Tryz.prog 85 = true := by kernel_rfl
theorem sd91 : sized Tryz.prog 91 = true := by kernel_rfl
theorem sd93 : sized Tryz.prog 93 = true := by kernel_rfl
theorem sh103 : shP Tryz.prog 103 = some .one := by kernel_rfl
theorem sh104 : shP Tryz.prog 104 = some .one := by kernel_rfl
theorem sh22 : shP Tryz.prog 22 = some .one := by kernel_rfl
theorem sh25 : shP Tryz.prog 25 = some (.agg 2) := by kernel_rfl
theorem sh27 : shP Tryz.prog 27 = some (.agg 35) := by kernel_rfl
theorem sh3 : shP Tryz.prog 3 = some .one := by kernel_rfl
theorem sh31 : shP Tryz.prog 31 = some (.agg 2) := by kernel_rfl
theorem sh33 : shP Tryz.prog 33 = some (.agg 3) := by kernel_rfl
theorem sh4 : shP Tryz.prog 4 = some .one := by kernel_rfl
theorem sh42 : shP Tryz.prog 42 = some .one := by kernel_rfl
theorem sh45 : shP Tryz.prog 45 = some .one := by kernel_rfl
theorem sh48 : shP Tryz.prog 48 = some .one := by kernel_rfl
theorem sh5 : shP Tryz.prog 5 = some .one := by kernel_rfl
theorem sh63 : shP Tryz.prog 63 = some (.agg 7) := by kernel_rfl
theorem sh68 : shP Tryz.prog 68 = some .one := by kernel_rfl
theorem sh70 : shP Tryz.prog 70 = some .one := by kernel_rfl
theorem sh74 : shP Tryz.prog 74 = some .one := by kernel_rfl
theorem sh81 : shP Tryz.prog 81 = some (.agg 3) := by kernel_rfl
theorem sh82 : shP Tryz.prog 82 = some .one := by kernel_rfl
theorem sh85 : shP Tryz.prog 85 = some (.agg 3) := by kernel_rfl
theorem sh89 : shP Tryz.prog 89 = some .one := by kernel_rfl
theorem sl48 : slE Tryz.prog 48 = some (5, 1) := by kernel_rfl
theorem sl49 : slE Tryz.prog 49 = some (22, 1) := by kernel_rfl
theorem sl74 : slE Tryz.prog 74 = some (81, 3) := by kernel_rfl
theorem sl82 : slE Tryz.prog 82 = some (85, 3) := by kernel_rfl
theorem sz22 : szP Tryz.prog 22 = some 1 := by kernel_rfl
theorem sz25 : szP Tryz.prog 25 = some 2 := by kernel_rfl
theorem sz27 : szP Tryz.prog 27 = some 35 := by kernel_rfl
theorem sz3 : szP Tryz.prog 3 = some 1 := by kernel_rfl
theorem sz31 : szP Tryz.prog 31 = some 2 := by kernel_rfl
theorem sz33 : szP Tryz.prog 33 = some 3 := by kernel_rfl
theorem sz42 : szP Tryz.prog 42 = some 1 := by kernel_rfl
theorem sz5 : szP Tryz.prog 5 = some 1 := by kernel_rfl
theorem sz63 : szP Tryz.prog 63 = some 7 := by kernel_rfl
theorem sz68 : szP Tryz.prog 68 = some 1 := by kernel_rfl
theorem sz74 : szP Tryz.prog 74 = some 1 := by kernel_rfl
theorem sz81 : szP Tryz.prog 81 = some 3 := by kernel_rfl
theorem sz82 : szP Tryz.prog 82 = some 1 := by kernel_rfl
theorem sz85 : szP Tryz.prog 85 = some 3 := by kernel_rfl
theorem sz93 : szP Tryz.prog 93 = some 9 := by kernel_rfl
theorem zc102 : zc Tryz.prog 102 = some [(.slice none 0 0)] := by kernel_rfl
theorem zc106 : zc Tryz.prog 106 = some [(.map none), (.map none), (.int .u64 0), (.int .u64 0)] := by kernel_rfl
theorem zc118 : zc Tryz.prog 118 = some (repV 4096 (.int .u8 0)) := by kernel_rfl
theorem zc25 : zc Tryz.prog 25 = some [(.int .u64 0), (.int .i64 0)] := by kernel_rfl
theorem zc27 : zc Tryz.prog 27 = some [(.int .u64 0), (.int .u64 0), (.int .u64 0), (.int .u64 0), (.int .u64 0), (.int .u64 0), (.int .u64 0), (.int .u64 0), (.int .u64 0), (.int .u64 0), (.int .u64 0), (.int .u64 0), (.int .u64 0), (.int .u64 0), (.int .u64 0), (.int .u64 0), (.int .u64 0), (.int .u64 0), (.int .u64 0), (.int .u64 0), (.int .u64 0), (.int .u64 0), (.int .u64 0), (.int .u64 0), (.int .u64 0), (.int .u64 0), (.int .u64 0), (.int .u64 0), (.int .u64 0), (.int .u64 0), (.int .u64 0), (.int .u64 0), (.int .u64 0), (.int .u64 0), (.int .i64 0)] := by kernel_rfl
theorem zc31 : zc Tryz.prog 31 = some [(.int .i64 0), (.int .u64 0)] := by kernel_rfl
theorem zc33 : zc Tryz.prog 33 = some [(.int .i64 0), (.int .i64 0), (.int .u64 0)] := by kernel_rfl
theorem zc47 : zc Tryz.prog 47 = some [(.int .u64 0), (.int .u64 0), (.int .u64 0), (.int .u64 0), (.int .u64 0), (.int .u64 0), (.int .u64 0), (.int .u64 0), (.int .u64 0), (.int .u64 0), (.int .u64 0), (.int .u64 0), (.int .u64 0), (.int .u64 0), (.int .u64 0), (.int .u64 0), (.int .u64 0), (.int .u64 0), (.int .u64 0), (.int .u64 0), (.int .u64 0), (.int .u64 0), (.int .u64 0), (.int .u64 0), (.int .u64 0), (.int .u64 0), (.int .u64 0), (.int .u64 0), (.int .u64 0), (.int .u64 0), (.int .u64 0), (.int .u64 0), (.int .u64 0), (.int .u64 0), (.int .i64 0), (.pointer none), (.pointer none)] := by kernel_rfl
theorem zc61 : zc Tryz.prog 61 = some [(.int .u64 0), (.int .u64 0), (.int .u64 0), (.int .u64 0), (.int .u64 0), (.int .u64 0), (.int .u64 0), (.int .u64 0), (.int .u64 0), (.int .u64 0), (.int .u64 0), (.int .u64 0), (.int .u64 0), (.int .u64 0), (.int .u64 0), (.int .u64 0), (.int .u64 0), (.int .u64 0), (.int .u64 0), (.int .u64 0), (.int .u64 0), (.int .u64 0), (.int .u64 0), (.int .u64 0), (.int .u64 0), (.int .u64 0), (.int .u64 0), (.int .u64 0), (.int .u64 0), (.int .u64 0), (.int .u64 0), (.int .u64 0), (.int .u64 0), (.int .u64 0), (.int .i64 0), (.pointer none)] := by kernel_rfl
theorem zc63 : zc Tryz.prog 63 = some [(.int .i64 0), (.int .i64 0), (.int .i64 0), (.int .i64 0), (.int .i64 0), (.int .i64 0), (.int .i64 0)] := by kernel_rfl
theorem zc73 : zc Tryz.prog 73 = some [(.pointer none), (.pointer none), (.int .i64 0), (.int .u64 0), (.int .u64 0)] := by kernel_rfl
theorem zc76 : zc Tryz.prog 76 = some [(.slice none 0 0), (.int .i64 0), (.int .u64 0), (.int .u64 0)] := by kernel_rfl
theorem zc81 : zc Tryz.prog 81 = some [(.int .u64 0), (.int .i64 0), (.slice none 0 0)] := by kernel_rfl
theorem zc85 : zc Tryz.prog 85 = some [(.int .u64 0), (.int .u64 0), (.int .i64 0)] := by kernel_rfl
theorem zc91 : zc Tryz.prog 91 = some [(.bool false), (.map none), (.pointer none)] := by kernel_rfl
theorem zc93 : zc Tryz.prog 93 = some [(.int .i64 0), (.int .i64 0), (.int .i64 0), (.int .i64 0), (.int .i64 0), (.int .i64 0), (.int .i64 0), (.int .u64 0), (.int .u64 0)] := by kernel_rfl
theorem ze115 : zeroP Tryz.prog 115 = some (.pointer none) := by kernel_rfl
theorem ze22 : zeroP Tryz.prog 22 = some (.int .u64 0) := by kernel_rfl
theorem ze5 : zeroP Tryz.prog 5 = some (.int .u8 0) := by kernel_rfl
theorem ze81 : zeroP Tryz.prog 81 = some (.agg #[(.int .u64 0), (.int .i64 0), (.slice none 0 0)]) := by kernel_rfl
theorem ze85 : zeroP Tryz.prog 85 = some (.agg #[(.int .u64 0), (.int .u64 0), (.int .i64 0)]) := by kernel_rfl
theorem ze93 : zeroP Tryz.prog 93 = some (.agg #[(.int .i64 0), (.int .i64 0), (.int .i64 0), (.int .i64 0), (.int .i64 0), (.int .i64 0), (.int .i64 0), (.int .u64 0), (.int .u64 0)]) := by kernel_rfl
-- marionette/marionettelaw11.HartNone
abbrev kp3 : List Nat := [4]
def s3 : SC :=
 .seq (.ops [⟨some 2, .box 27 (.tmp 0), true, none⟩,
  ⟨some 4, .assign (.const (.bool false)), false, none⟩]) <|
 .seq (.keep [1, 2]) <|
 .seq (.ops [⟨some 5, .assign (.const (.pointer none)), false, none⟩]) <|
 .seq (.keep [1, 2, 5]) <|
 .seq (.ops [⟨some 11, .move (.tmp 5), false, none⟩,
  ⟨some 12, .load 27 (.tmp 2), false, none⟩,
  ⟨some 13, .call ⟨.value (.func 4), #[(.tmp 11), (.tmp 12)], #[28, 27]⟩, true, none⟩]) <|
 .seq (.keep [1, 2, 5]) <|
 .seq (.ops [⟨some 15, .move (.tmp 5), false, none⟩,
  ⟨some 16, .move (.tmp 1), false, none⟩,
  ⟨some 17, .call ⟨.value (.func 5), #[(.tmp 15), (.tmp 16)], #[28, 3]⟩, true, none⟩,
  ⟨some 14, .move (.tmp 17), false, none⟩,
  ⟨some 18, .extract (.tmp 14) 0, false, none⟩,
  ⟨some 19, .extract (.tmp 14) 1, false, none⟩,
  ⟨some 6, .alloc 33, true, none⟩,
  ⟨none, .store 33 (.tmp 6) (.tmp 18), true, none⟩,
  ⟨some 7, .assign (.tmp 19), false, none⟩]) <|
 .seq (.keep [2, 5, 6, 7]) <|
 .seq (.ops [⟨some 21, .call ⟨.value (.func 6), #[(.const (.slice none 0 0)), (.const (.slice none 0 0)), (.const (.bool false))], #[48, 49, 4]⟩, true, none⟩,
  ⟨some 20, .move (.tmp 21), false, none⟩,
  ⟨some 22, .extract (.tmp 20) 0, false, none⟩,
  ⟨some 23, .extract (.tmp 20) 1, false, none⟩,
  ⟨some 8, .assign (.tmp 22), false, none⟩,
  ⟨some 9, .assign (.tmp 23), false, none⟩]) <|
 .seq (.keep [2, 5, 6, 7, 8]) <|
 .seq (.ops [⟨some 24, .move (.tmp 8), false, none⟩,
  ⟨some 25, .load 27 (.tmp 2), false, none⟩,
  ⟨some 26, .call ⟨.value (.func 4), #[(.tmp 24), (.tmp 25)], #[28, 27]⟩, true, none⟩]) <|
 .seq (.keep [2, 5, 6, 7, 8]) <|
 .seq (.ops [⟨some 27, .move (.tmp 8), false, none⟩,
  ⟨some 28, .call ⟨.value (.func 7), #[(.tmp 27)], #[28]⟩, true, none⟩,
  ⟨some 10, .alloc 27, true, none⟩,
  ⟨none, .store 27 (.tmp 10) (.tmp 28), true, none⟩]) <|
 .seq (.keep [2, 5, 6, 7, 10]) <|
 .seq (.ops [⟨some 29, .fieldAddr 27 (.tmp 2) 1, false, none⟩,
  ⟨some 30, .indexAddr 23 (.tmp 29) (.const (.int .i64 0)), false, none⟩,
  ⟨none, .store 22 (.tmp 30) (.const (.int .u64 0)), true, none⟩]) <|
 .seq (.keep [2, 5, 6, 7, 10]) <|
 .seq (.ops [⟨some 31, .call ⟨.value (.func 8), #[], #[]⟩, true, none⟩,
  ⟨some 32, .move (.tmp 31), false, none⟩,
  ⟨some 33, .move (.tmp 5), false, some (32, true)⟩,
  ⟨some 34, .call ⟨.value (.func 9), #[(.tmp 33)], #[28]⟩, true, some (32, true)⟩,
  ⟨some 35, .field 33 (.tmp 34) 0, false, some (32, true)⟩,
  ⟨some 36, .binOp .eql 3 (.tmp 35) (.const (.int .i64 3)) 3, false, some (32, true)⟩,
  ⟨some 37, .pick (.tmp 32) (.tmp 36) (.const (.bool false)), false, none⟩,
  ⟨some 38, .move (.tmp 37), false, none⟩,
  ⟨some 39, .fieldAddr 33 (.tmp 6) 0, false, some (38, true)⟩,
  ⟨some 40, .load 3 (.tmp 39), false, some (38, true)⟩,
  ⟨some 41, .binOp .eql 3 (.tmp 40) (.const (.int .i64 3)) 3, false, some (38, true)⟩,
  ⟨some 42, .pick (.tmp 38) (.tmp 41) (.const (.bool false)), false, none⟩,
  ⟨some 43, .move (.tmp 42), false, none⟩,
  ⟨some 44, .move (.tmp 7), false, some (43, true)⟩,
  ⟨some 45, .binOp .eql 3 (.tmp 44) (.const (.int .i64 0)) 3, false, some (43, true)⟩,
  ⟨some 46, .pick (.tmp 43) (.tmp 45) (.const (.bool false)), false, none⟩,
  ⟨some 47, .move (.tmp 46), false, none⟩,
  ⟨some 48, .move (.tmp 5), false, some (47, true)⟩,
  ⟨some 49, .call ⟨.value (.func 10), #[(.tmp 48)], #[28]⟩, true, some (47, true)⟩,
  ⟨some 50, .binOp .eql 42 (.tmp 49) (.const (.pointer none)) 42, false, some (47, true)⟩,
  ⟨some 51, .pick (.tmp 47) (.tmp 50) (.const (.bool false)), false, none⟩,
  ⟨some 52, .move (.tmp 51), false, none⟩,
  ⟨some 53, .move (.tmp 5), false, some (52, true)⟩,
  ⟨some 54, .call ⟨.value (.func 7), #[(.tmp 53)], #[28]⟩, true, some (52, true)⟩,
  ⟨some 55, .build 27 #[], false, some (52, true)⟩,
  ⟨some 56, .binOp .eql 27 (.tmp 54) (.tmp 55) 27, false, some (52, true)⟩,
  ⟨some 57, .pick (.tmp 52) (.tmp 56) (.const (.bool false)), false, none⟩,
  ⟨some 58, .move (.tmp 57), false, none⟩,
  ⟨some 59, .load 27 (.tmp 10), false, some (58, true)⟩,
  ⟨some 60, .load 27 (.tmp 2), false, some (58, true)⟩,
  ⟨some 61, .binOp .eql 27 (.tmp 59) (.tmp 60) 27, false, some (58, true)⟩,
  ⟨some 62, .pick (.tmp 58) (.tmp 61) (.const (.bool false)), false, none⟩,
  ⟨some 4, .assign (.tmp 62), false, none⟩]) <|
 .seq (.keep [4]) <|
 .ret
theorem c3 : Tryz.f3.body.map (fun c => ((compile Tryz.prog kp3 [] kp3 c).map (·.1), fits Tryz.f3.ntmps c)) = some (some s3, true) := by kernel_rfl
theorem r3 : Tryz.f3.results.toList = [.tmp 4] := by kernel_rfl
-- (*marionette/hart.Hart).Set
abbrev kp4 : List Nat := []
def s4 : SC :=
 .seq (.ops [⟨some 3, .box 27 (.tmp 1), true, none⟩]) <|
 .seq (.keep [0, 3]) <|
 .seq (.ops [⟨some 4, .move (.tmp 0), false, none⟩,
  ⟨some 5, .binOp .neq 28 (.tmp 4) (.const (.pointer none)) 28, false, none⟩]) <|
 .seq (.keep [0, 3, 5]) <|
 .cond (.tmp 5) (.seq (.ops [⟨some 6, .fieldAddr 27 (.tmp 3) 1, false, none⟩,
  ⟨some 7, .indexAddr 23 (.tmp 6) (.const (.int .i64 0)), false, none⟩,
  ⟨none, .store 22 (.tmp 7) (.const (.int .u64 0)), true, none⟩]) <|
 .seq (.keep [0, 3]) <|
 .ops [⟨some 8, .move (.tmp 0), false, none⟩,
  ⟨some 9, .load 27 (.tmp 3), false, none⟩,
  ⟨some 10, .nilCheck (.tmp 8), false, none⟩,
  ⟨some 11, .fieldAddr 47 (.tmp 10) 0, false, none⟩,
  ⟨none, .store 27 (.tmp 11) (.tmp 9), true, none⟩]) <|
 .skip
theorem c4 : Tryz.f4.body.map (fun c => ((compile Tryz.prog kp4 [] kp4 c).map (·.1), fits Tryz.f4.ntmps c)) = some (some s4, true) := by kernel_rfl
theorem r4 : Tryz.f4.results.toList = [] := by kernel_rfl
-- (*marionette/hart.Hart).Run
abbrev kp5 : List Nat := [4, 5]
def s5 : SC :=
 .seq (.ops [⟨some 4, .alloc 33, true, none⟩,
  ⟨some 5, .assign (.const (.int .i64 0)), false, none⟩]) <|
 .seq (.keep [0, 1, 4, 5]) <|
 .seq (.seq (.ops [⟨some 7, .move (.tmp 0), false, none⟩,
  ⟨some 8, .binOp .eql 28 (.tmp 7) (.const (.pointer none)) 28, false, none⟩]) <|
 .seq (.keep [0, 1, 4, 5, 8]) <|
 .cond (.tmp 8) (.seq (.ops [⟨some 9, .build 33 #[(0, (.const (.int .i64 3)))], false, none⟩,
  ⟨none, .store 33 (.tmp 4) (.tmp 9), true, none⟩,
  ⟨some 5, .assign (.const (.int .i64 0)), false, none⟩]) <|
 .seq (.keep [4, 5]) <|
 .ret) <|
 .skip) <|
 .seq (.keep [0, 1, 4, 5]) <|
 .seq (.block 0 <| .loop <| .seq (.seq (.seq (.ops [⟨some 10, .move (.tmp 5), false, none⟩,
  ⟨some 11, .move (.tmp 1), false, none⟩,
  ⟨some 12, .binOp .lss 3 (.tmp 10) (.tmp 11) 3, false, none⟩]) <|
 .seq (.keep [0, 1, 4, 5, 12]) <|
 .cond (.tmp 12) (.skip) <|
 .exit 0) <|
 .seq (.keep [0, 1, 4, 5]) <|
 .block 1 <| .seq (.seq (.ops [⟨some 13, .move (.tmp 0), false, none⟩,
  ⟨some 14, .call ⟨.value (.func 9), #[(.tmp 13)], #[28]⟩, true, none⟩,
  ⟨some 6, .alloc 33, true, none⟩,
  ⟨none, .store 33 (.tmp 6) (.tmp 14), true, none⟩]) <|
 .seq (.keep [0, 1, 4, 5, 6]) <|
 .seq (.ops [⟨some 15, .fieldAddr 33 (.tmp 6) 0, false, none⟩,
  ⟨some 16, .load 3 (.tmp 15), false, none⟩,
  ⟨some 17, .binOp .neq 3 (.tmp 16) (.const (.int .i64 0)) 3, false, none⟩]) <|
 .seq (.keep [0, 1, 4, 5, 6, 17]) <|
 .cond (.tmp 17) (.seq (.ops [⟨some 18, .load 33 (.tmp 6), false, none⟩,
  ⟨some 19, .move (.tmp 5), false, none⟩,
  ⟨none, .store 33 (.tmp 4) (.tmp 18), true, none⟩,
  ⟨some 5, .assign (.tmp 19), false, none⟩]) <|
 .seq (.keep [4, 5]) <|
 .ret) <|
 .skip) <|
 .seq (.keep [0, 1, 4, 5]) <|
 .ops [⟨some 20, .move (.tmp 5), false, none⟩,
  ⟨some 21, .binOp .add 3 (.tmp 20) (.const (.int .i64 1)) 3, false, none⟩,
  ⟨some 5, .assign (.tmp 21), false, none⟩]) <|
 .keep [0, 1, 4, 5]) <|
 .seq (.keep [4, 5]) <|
 .seq (.ops [⟨some 22, .build 33 #[(0, (.const (.int .i64 6)))], false, none⟩,
  ⟨some 23, .move (.tmp 5), false, none⟩,
  ⟨none, .store 33 (.tmp 4) (.tmp 22), true, none⟩,
  ⟨some 5, .assign (.tmp 23), false, none⟩]) <|
 .seq (.keep [4, 5]) <|
 .ret
theorem c5 : Tryz.f5.body.map (fun c => ((compile Tryz.prog kp5 [] kp5 c).map (·.1), fits Tryz.f5.ntmps c)) = some (some s5, true) := by kernel_rfl
theorem r5 : Tryz.f5.results.toList = [.cell 4 33, .tmp 5] := by kernel_rfl
-- marionette/marionettelaw11.machines
abbrev kp6 : List Nat := [6, 7]
def s6 : SC :=
 .seq (.ops [⟨some 6, .assign (.const (.pointer none)), false, none⟩,
  ⟨some 7, .assign (.const (.pointer none)), false, none⟩]) <|
 .seq (.keep [0, 1, 2]) <|
 .seq (.ops [⟨some 14, .call ⟨.value (.func 11), #[(.const (.int .i64 20))], #[3]⟩, true, none⟩,
  ⟨some 8, .assign (.tmp 14), false, none⟩]) <|
 .seq (.keep [0, 1, 2, 8]) <|
 .seq (.ops [⟨some 15, .call ⟨.value (.func 12), #[(.const (.int .i64 20))], #[3]⟩, true, none⟩,
  ⟨some 9, .assign (.tmp 15), false, none⟩]) <|
 .seq (.keep [0, 1, 2, 8, 9]) <|
 .seq (.ops [⟨some 16, .move (.tmp 8), false, none⟩,
  ⟨some 17, .call ⟨.value (.func 13), #[(.tmp 16), (.const (.int .u64 65536)), (.const (.int .u64 8192)), (.const (.int .i64 7)), (.const (.bool true))], #[42, 22, 22, 3, 4]⟩, true, none⟩]) <|
 .seq (.keep [0, 1, 2, 8, 9]) <|
 .seq (.ops [⟨some 18, .move (.tmp 9), false, none⟩,
  ⟨some 19, .call ⟨.value (.func 14), #[(.tmp 18), (.const (.int .u64 65536)), (.const (.int .u64 73728)), (.const (.int .i64 7))], #[51, 22, 22, 3]⟩, true, none⟩]) <|
 .seq (.keep [0, 1, 2, 8, 9]) <|
 .seq (.ops [⟨some 20, .move (.tmp 8), false, none⟩,
  ⟨some 21, .call ⟨.value (.func 13), #[(.tmp 20), (.const (.int .u64 131072)), (.const (.int .u64 8192)), (.const (.int .i64 3)), (.const (.bool true))], #[42, 22, 22, 3, 4]⟩, true, none⟩]) <|
 .seq (.keep [0, 1, 2, 8, 9]) <|
 .seq (.ops [⟨some 22, .move (.tmp 9), false, none⟩,
  ⟨some 23, .call ⟨.value (.func 14), #[(.tmp 22), (.const (.int .u64 131072)), (.const (.int .u64 139264)), (.const (.int .i64 3))], #[51, 22, 22, 3]⟩, true, none⟩]) <|
 .seq (.keep [0, 1, 2, 8, 9]) <|
 .seq (.ops [⟨some 24, .move (.tmp 8), false, none⟩,
  ⟨some 25, .call ⟨.value (.func 13), #[(.tmp 24), (.const (.int .u64 139264)), (.const (.int .u64 4096)), (.const (.int .i64 1)), (.const (.bool true))], #[42, 22, 22, 3, 4]⟩, true, none⟩]) <|
 .seq (.keep [0, 1, 2, 8, 9]) <|
 .seq (.ops [⟨some 26, .move (.tmp 9), false, none⟩,
  ⟨some 27, .call ⟨.value (.func 14), #[(.tmp 26), (.const (.int .u64 139264)), (.const (.int .u64 143360)), (.const (.int .i64 1))], #[51, 22, 22, 3]⟩, true, none⟩]) <|
 .seq (.keep [0, 1, 2, 8, 9]) <|
 .seq (.ops [⟨some 28, .move (.tmp 8), false, none⟩,
  ⟨some 29, .move (.tmp 0), false, none⟩,
  ⟨some 30, .call ⟨.value (.func 15), #[(.tmp 28), (.const (.int .u64 65536)), (.tmp 29)], #[42, 22, 48]⟩, true, none⟩]) <|
 .seq (.keep [0, 1, 2, 8, 9]) <|
 .seq (.ops [⟨some 31, .move (.tmp 9), false, none⟩,
  ⟨some 32, .move (.tmp 0), false, none⟩,
  ⟨some 33, .call ⟨.value (.func 16), #[(.tmp 31), (.const (.int .u64 65536)), (.tmp 32)], #[51, 22, 48]⟩, true, none⟩]) <|
 .seq (.keep [1, 2, 8, 9]) <|
 .seq (.ops [⟨some 34, .move (.tmp 8), false, none⟩,
  ⟨some 35, .move (.tmp 2), false, none⟩,
  ⟨some 36, .call ⟨.value (.func 18), #[(.tmp 35)], #[4]⟩, true, none⟩,
  ⟨some 37, .call ⟨.value (.func 17), #[(.tmp 34), (.tmp 36)], #[42, 45]⟩, true, none⟩,
  ⟨some 10, .assign (.tmp 37), false, none⟩]) <|
 .seq (.keep [1, 9, 10]) <|
 .seq (.ops [⟨some 38, .move (.tmp 9), false, none⟩,
  ⟨some 39, .build 61 #[(4, (.tmp 38)), (0, (.const (.int .u64 65536)))], false, none⟩,
  ⟨some 40, .box 61 (.tmp 39), true, none⟩,
  ⟨some 11, .assign (.tmp 40), false, none⟩]) <|
 .seq (.keep [1, 10, 11]) <|
 .seq (.ops [⟨some 41, .build 27 #[(0, (.const (.int .u64 65536)))], false, none⟩,
  ⟨some 12, .alloc 27, true, none⟩,
  ⟨none, .store 27 (.tmp 12) (.tmp 41), true, none⟩]) <|
 .seq (.keep [1, 10, 11, 12]) <|
 .seq (.seq (.ops [⟨some 13, .assign (.const (.int .i64 1)), false, none⟩]) <|
 .seq (.keep [1, 10, 11, 12, 13]) <|
 .block 0 <| .loop <| .seq (.seq (.seq (.ops [⟨some 42, .move (.tmp 13), false, none⟩,
  ⟨some 43, .binOp .lss 3 (.tmp 42) (.const (.int .i64 32)) 3, false, none⟩]) <|
 .seq (.keep [1, 10, 11, 12, 13, 43]) <|
 .cond (.tmp 43) (.skip) <|
 .exit 0) <|
 .seq (.keep [1, 10, 11, 12, 13]) <|
 .seq (.block 1 <| .seq (.ops [⟨some 46, .move (.tmp 13), false, none⟩,
  ⟨some 47, .move (.tmp 13), false, none⟩,
  ⟨some 48, .binOp .mul 3 (.tmp 47) (.const (.int .i64 8)) 3, false, none⟩,
  ⟨some 49, .convert 3 22 (.tmp 48), false, none⟩,
  ⟨some 50, .binOp .add 22 (.const (.int .u64 131072)) (.tmp 49) 22, false, none⟩,
  ⟨some 51, .fieldAddr 27 (.tmp 12) 1, false, none⟩,
  ⟨some 52, .indexAddr 23 (.tmp 51) (.tmp 46), false, none⟩,
  ⟨none, .store 22 (.tmp 52) (.tmp 50), true, none⟩]) <|
 .seq (.keep [1, 10, 11, 12, 13]) <|
 .seq (.seq (.ops [⟨some 53, .move (.tmp 13), false, none⟩,
  ⟨some 54, .move (.tmp 1), false, none⟩,
  ⟨some 55, .call ⟨.builtin .len, #[(.tmp 54)], #[49]⟩, false, none⟩,
  ⟨some 56, .binOp .lss 3 (.tmp 53) (.tmp 55) 3, false, none⟩]) <|
 .seq (.keep [1, 10, 11, 12, 13, 56]) <|
 .cond (.tmp 56) (.ops [⟨some 57, .move (.tmp 13), false, none⟩,
  ⟨some 58, .move (.tmp 1), false, none⟩,
  ⟨some 59, .move (.tmp 13), false, none⟩,
  ⟨some 60, .indexAddr 49 (.tmp 58) (.tmp 59), false, none⟩,
  ⟨some 61, .load 22 (.tmp 60), false, none⟩,
  ⟨some 62, .fieldAddr 27 (.tmp 12) 1, false, none⟩,
  ⟨some 63, .indexAddr 23 (.tmp 62) (.tmp 57), false, none⟩,
  ⟨none, .store 22 (.tmp 63) (.tmp 61), true, none⟩]) <|
 .skip) <|
 .seq (.keep [1, 10, 11, 12, 13]) <|
 .seq (.ops [⟨some 64, .move (.tmp 11), false, none⟩]) <|
 .seq (.ops [⟨some 65, .move (.tmp 13), false, none⟩]) <|
 .seq (.ops [⟨some 66, .move (.tmp 13), false, none⟩]) <|
 .seq (.ops [⟨some 67, .fieldAddr 27 (.tmp 12) 1, false, none⟩]) <|
 .seq (.ops [⟨some 68, .indexAddr 23 (.tmp 67) (.tmp 66), false, none⟩]) <|
 .seq (.ops [⟨some 69, .load 22 (.tmp 68), false, none⟩]) <|
 .seq (.ops [⟨some 70, .nilCheck (.tmp 64), false, none⟩]) <|
 .seq (.ops [⟨some 71, .fieldAddr 61 (.tmp 70) 1, false, none⟩]) <|
 .seq (.ops [⟨some 72, .indexAddr 23 (.tmp 71) (.tmp 65), false, none⟩]) <|
 .seq (.ops [⟨none, .store 22 (.tmp 72) (.tmp 69), true, none⟩]) <|
 .skip) <|
 .seq (.keep [1, 10, 11, 12, 13]) <|
 .ops [⟨some 44, .move (.tmp 13), false, none⟩,
  ⟨some 45, .binOp .add 3 (.tmp 44) (.const (.int .i64 1)) 3, false, none⟩,
  ⟨some 13, .assign (.tmp 45), false, none⟩]) <|
 .keep [1, 10, 11, 12, 13]) <|
 .seq (.keep [10, 11, 12]) <|
 .seq (.ops [⟨some 73, .move (.tmp 10), false, none⟩,
  ⟨some 74, .load 27 (.tmp 12), false, none⟩,
  ⟨some 75, .call ⟨.value (.func 4), #[(.tmp 73), (.tmp 74)], #[28, 27]⟩, true, none⟩]) <|
 .seq (.keep [10, 11]) <|
 .seq (.ops [⟨some 76, .move (.tmp 10), false, none⟩,
  ⟨some 77, .move (.tmp 11), false, none⟩,
  ⟨some 6, .assign (.tmp 76), false, none⟩,
  ⟨some 7, .assign (.tmp 77), false, none⟩]) <|
 .seq (.keep [6, 7]) <|
 .ret
theorem c6 : Tryz.f6.body.map (fun c => ((compile Tryz.prog kp6 [] kp6 c).map (·.1), fits Tryz.f6.ntmps c)) = some (some s6, true) := by kernel_rfl
theorem r6 : Tryz.f6.results.toList = [.tmp 6, .tmp 7] := by kernel_rfl
-- (*marionette/hart.Hart).State
abbrev kp7 : List Nat := [2]
def s7 : SC :=
 .seq (.ops [⟨some 2, .alloc 27, true, none⟩]) <|
 .seq (.keep [0, 2]) <|
 .seq (.seq (.ops [⟨some 3, .move (.tmp 0), false, none⟩,
  ⟨some 4, .binOp .eql 28 (.tmp 3) (.const (.pointer none)) 28, false, none⟩]) <|
 .seq (.keep [0, 2, 4]) <|
 .cond (.tmp 4) (.seq (.ops [⟨some 5, .build 27 #[], false, none⟩,
  ⟨none, .store 27 (.tmp 2) (.tmp 5), true, none⟩]) <|
 .seq (.keep [2]) <|
 .ret) <|
 .skip) <|
 .seq (.keep [0, 2]) <|
 .seq (.ops [⟨some 6, .move (.tmp 0), false, none⟩,
  ⟨some 7, .nilCheck (.tmp 6), false, none⟩,
  ⟨some 8, .fieldAddr 47 (.tmp 7) 0, false, none⟩,
  ⟨some 9, .load 27 (.tmp 8), false, none⟩,
  ⟨none, .store 27 (.tmp 2) (.tmp 9), true, none⟩]) <|
 .seq (.keep [2]) <|
 .ret
theorem c7 : Tryz.f7.body.map (fun c => ((compile Tryz.prog kp7 [] kp7 c).map (·.1), fits Tryz.f7.ntmps c)) = some (some s7, true) := by kernel_rfl
theorem r7 : Tryz.f7.results.toList = [.cell 2 27] := by kernel_rfl
-- marionette/marionettelaw11.answers
abbrev kp8 : List Nat := [0]
def s8 : SC :=
 .seq (.ops [⟨some 0, .assign (.const (.bool false)), false, none⟩]) <|
 .seq (.keep []) <|
 .seq (.ops [⟨some 4, .buildSlice 48 2 #[(0, (.const (.int .u8 5))), (1, (.const (.int .u8 69)))], true, none⟩,
  ⟨some 5, .call ⟨.value (.func 6), #[(.tmp 4), (.const (.slice none 0 0)), (.const (.bool false))], #[48, 49, 4]⟩, true, none⟩,
  ⟨some 3, .move (.tmp 5), false, none⟩,
  ⟨some 6, .extract (.tmp 3) 0, false, none⟩,
  ⟨some 7, .extract (.tmp 3) 1, false, none⟩,
  ⟨some 1, .assign (.tmp 6), false, none⟩,
  ⟨some 2, .assign (.tmp 7), false, none⟩]) <|
 .seq (.keep [1]) <|
 .seq (.ops [⟨some 8, .move (.tmp 1), false, none⟩,
  ⟨some 9, .call ⟨.value (.func 9), #[(.tmp 8)], #[28]⟩, true, none⟩,
  ⟨some 10, .field 33 (.tmp 9) 0, false, none⟩,
  ⟨some 11, .binOp .eql 3 (.tmp 10) (.const (.int .i64 0)) 3, false, none⟩,
  ⟨some 12, .move (.tmp 11), false, none⟩,
  ⟨some 13, .move (.tmp 1), false, some (12, true)⟩,
  ⟨some 14, .call ⟨.value (.func 7), #[(.tmp 13)], #[28]⟩, true, some (12, true)⟩,
  ⟨some 15, .field 27 (.tmp 14) 1, false, some (12, true)⟩,
  ⟨some 16, .index 23 (.tmp 15) (.const (.int .i64 10)), false, some (12, true)⟩,
  ⟨some 17, .binOp .eql 22 (.tmp 16) (.const (.int .u64 1)) 22, false, some (12, true)⟩,
  ⟨some 18, .pick (.tmp 12) (.tmp 17) (.const (.bool false)), false, none⟩,
  ⟨some 0, .assign (.tmp 18), false, none⟩]) <|
 .seq (.keep [0]) <|
 .ret
theorem c8 : Tryz.f8.body.map (fun c => ((compile Tryz.prog kp8 [] kp8 c).map (·.1), fits Tryz.f8.ntmps c)) = some (some s8, true) := by kernel_rfl
theorem r8 : Tryz.f8.results.toList = [.tmp 0] := by kernel_rfl
def t9_0 : SC :=
 .seq (.ops [⟨some 14, .move (.tmp 0), false, none⟩]) <|
 .seq (.ops [⟨some 15, .nilCheck (.tmp 14), false, none⟩]) <|
 .seq (.ops [⟨some 16, .fieldAddr 47 (.tmp 15) 2, false, none⟩]) <|
 .seq (.ops [⟨some 18, .move (.tmp 0), false, none⟩]) <|
 .seq (.ops [⟨some 19, .nilCheck (.tmp 18), false, none⟩]) <|
 .seq (.ops [⟨some 20, .fieldAddr 47 (.tmp 19) 1, false, none⟩]) <|
 .seq (.ops [⟨some 22, .fieldAddr 27 (.tmp 3) 0, false, none⟩]) <|
 .amb (.seq (.ops [⟨some 17, .load 45 (.tmp 16), false, none⟩]) <|
 .amb (.seq (.ops [⟨some 21, .load 42 (.tmp 20), false, none⟩]) <|
 .amb (.seq (.ops [⟨some 23, .load 22 (.tmp 22), false, none⟩]) <|
 .amb (.seq (.ops [⟨some 24, .call ⟨.value (.func 19), #[(.tmp 17), (.tmp 21), (.tmp 23)], #[45, 42, 22]⟩, true, none⟩]) <|
 .seq (.ops [⟨some 13, .move (.tmp 24), false, none⟩]) <|
 .seq (.ops [⟨some 25, .extract (.tmp 13) 0, false, none⟩]) <|
 .seq (.ops [⟨some 26, .extract (.tmp 13) 1, false, none⟩]) <|
 .amb (.seq (.ops [⟨some 4, .alloc 63, true, none⟩]) <|
 .seq (.ops [⟨some 5, .alloc 33, true, none⟩]) <|
 .seq (.ops [⟨none, .store 63 (.tmp 4) (.tmp 25), true, none⟩]) <|
 .seq (.ops [⟨none, .store 33 (.tmp 5) (.tmp 26), true, none⟩]) <|
 .skip) (.seq (.ops [⟨some 5, .alloc 33, true, none⟩]) <|
 .seq (.ops [⟨some 4, .alloc 63, true, none⟩]) <|
 .seq (.ops [⟨none, .store 63 (.tmp 4) (.tmp 25), true, none⟩]) <|
 .seq (.ops [⟨none, .store 33 (.tmp 5) (.tmp 26), true, none⟩]) <|
 .skip)) (.amb (.seq (.ops [⟨some 4, .alloc 63, true, none⟩]) <|
 .amb (.seq (.ops [⟨some 24, .call ⟨.value (.func 19), #[(.tmp 17), (.tmp 21), (.tmp 23)], #[45, 42, 22]⟩, true, none⟩]) <|
 .seq (.ops [⟨some 13, .move (.tmp 24), false, none⟩]) <|
 .seq (.ops [⟨some 25, .extract (.tmp 13) 0, false, none⟩]) <|
 .seq (.ops [⟨some 26, .extract (.tmp 13) 1, false, none⟩]) <|
 .seq (.ops [⟨some 5, .alloc 33, true, none⟩]) <|
 .seq (.ops [⟨none, .store 63 (.tmp 4) (.tmp 25), true, none⟩]) <|
 .seq (.ops [⟨none, .store 33 (.tmp 5) (.tmp 26), true, none⟩]) <|
 .skip) (.seq (.ops [⟨some 5, .alloc 33, true, none⟩]) <|
 .seq (.ops [⟨some 24, .call ⟨.value (.func 19), #[(.tmp 17), (.tmp 21), (.tmp 23)], #[45, 42, 22]⟩, true, none⟩]) <|
 .seq (.ops [⟨some 13, .move (.tmp 24), false, none⟩]) <|
 .seq (.ops [⟨some 25, .extract (.tmp 13) 0, false, none⟩]) <|
 .seq (.ops [⟨some 26, .extract (.tmp 13) 1, false, none⟩]) <|
 .seq (.ops [⟨none, .store 63 (.tmp 4) (.tmp 25), true, none⟩]) <|
 .seq (.ops [⟨none, .store 33 (.tmp 5) (.tmp 26), true, none⟩]) <|
 .skip)) (.seq (.ops [⟨some 5, .alloc 33, true, none⟩]) <|
 .amb (.seq (.ops [⟨some 24, .call ⟨.value (.func 19), #[(.tmp 17), (.tmp 21), (.tmp 23)], #[45, 42, 22]⟩, true, none⟩]) <|
 .seq (.ops [⟨some 13, .move (.tmp 24), false, none⟩]) <|
 .seq (.ops [⟨some 25, .extract (.tmp 13) 0, false, none⟩]) <|
 .seq (.ops [⟨some 26, .extract (.tmp 13) 1, false, none⟩]) <|
 .seq (.ops [⟨some 4, .alloc 63, true, none⟩]) <|
 .seq (.ops [⟨none, .store 63 (.tmp 4) (.tmp 25), true, none⟩]) <|
 .seq (.ops [⟨none, .store 33 (.tmp 5) (.tmp 26), true, none⟩]) <|
 .skip) (.seq (.ops [⟨some 4, .alloc 63, true, none⟩]) <|
 .seq (.ops [⟨some 24, .call ⟨.value (.func 19), #[(.tmp 17), (.tmp 21), (.tmp 23)], #[45, 42, 22]⟩, true, none⟩]) <|
 .seq (.ops [⟨some 13, .move (.tmp 24), false, none⟩]) <|
 .seq (.ops [⟨some 25, .extract (.tmp 13) 0, false, none⟩]) <|
 .seq (.ops [⟨some 26, .extract (.tmp 13) 1, false, none⟩]) <|
 .seq (.ops [⟨none, .store 63 (.tmp 4) (.tmp 25), true, none⟩]) <|
 .seq (.ops [⟨none, .store 33 (.tmp 5) (.tmp 26), true, none⟩]) <|
 .skip)))) (.amb (.seq (.ops [⟨some 4, .alloc 63, true, none⟩]) <|
 .amb (.seq (.ops [⟨some 23, .load 22 (.tmp 22), false, none⟩]) <|
 .amb (.seq (.ops [⟨some 24, .call ⟨.value (.func 19), #[(.tmp 17), (.tmp 21), (.tmp 23)], #[45, 42, 22]⟩, true, none⟩]) <|
 .seq (.ops [⟨some 13, .move (.tmp 24), false, none⟩]) <|
 .seq (.ops [⟨some 25, .extract (.tmp 13) 0, false, none⟩]) <|
 .seq (.ops [⟨some 26, .extract (.tmp 13) 1, false, none⟩]) <|
 .seq (.ops [⟨some 5, .alloc 33, true, none⟩]) <|
 .seq (.ops [⟨none, .store 63 (.tmp 4) (.tmp 25), true, none⟩]) <|
 .seq (.ops [⟨none, .store 33 (.tmp 5) (.tmp 26), true, none⟩]) <|
 .skip) (.seq (.ops [⟨some 5, .alloc 33, true, none⟩]) <|
 .seq (.ops [⟨some 24, .call ⟨.value (.func 19), #[(.tmp 17), (.tmp 21), (.tmp 23)], #[45, 42, 22]⟩, true, none⟩]) <|
 .seq (.ops [⟨some 13, .move (.tmp 24), false, none⟩]) <|
 .seq (.ops [⟨some 25, .extract (.tmp 13) 0, false, none⟩]) <|
 .seq (.ops [⟨some 26, .extract (.tmp 13) 1, false, none⟩]) <|
 .seq (.ops [⟨none, .store 63 (.tmp 4) (.tmp 25), true, none⟩]) <|
 .seq (.ops [⟨none, .store 33 (.tmp 5) (.tmp 26), true, none⟩]) <|
 .skip)) (.seq (.ops [⟨some 5, .alloc 33, true, none⟩]) <|
 .seq (.ops [⟨some 23, .load 22 (.tmp 22), false, none⟩]) <|
 .seq (.ops [⟨some 24, .call ⟨.value (.func 19), #[(.tmp 17), (.tmp 21), (.tmp 23)], #[45, 42, 22]⟩, true, none⟩]) <|
 .seq (.ops [⟨some 13, .move (.tmp 24), false, none⟩]) <|
 .seq (.ops [⟨some 25, .extract (.tmp 13) 0, false, none⟩]) <|
 .seq (.ops [⟨some 26, .extract (.tmp 13) 1, false, none⟩]) <|
 .seq (.ops [⟨none, .store 63 (.tmp 4) (.tmp 25), true, none⟩]) <|
 .seq (.ops [⟨none, .store 33 (.tmp 5) (.tmp 26), true, none⟩]) <|
 .skip)) (.seq (.ops [⟨some 5, .alloc 33, true, none⟩]) <|
 .amb (.seq (.ops [⟨some 23, .load 22 (.tmp 22), false, none⟩]) <|
 .amb (.seq (.ops [⟨some 24, .call ⟨.value (.func 19), #[(.tmp 17), (.tmp 21), (.tmp 23)], #[45, 42, 22]⟩, true, none⟩]) <|
 .seq (.ops [⟨some 13, .move (.tmp 24), false, none⟩]) <|
 .seq (.ops [⟨some 25, .extract (.tmp 13) 0, false, none⟩]) <|
 .seq (.ops [⟨some 26, .extract (.tmp 13) 1, false, none⟩]) <|
 .seq (.ops [⟨some 4, .alloc 63, true, none⟩]) <|
 .seq (.ops [⟨none, .store 63 (.tmp 4) (.tmp 25), true, none⟩]) <|
 .seq (.ops [⟨none, .store 33 (.tmp 5) (.tmp 26), true, none⟩]) <|
 .skip) (.seq (.ops [⟨some 4, .alloc 63, true, none⟩]) <|
 .seq (.ops [⟨some 24, .call ⟨.value (.func 19), #[(.tmp 17), (.tmp 21), (.tmp 23)], #[45, 42, 22]⟩, true, none⟩]) <|
 .seq (.ops [⟨some 13, .move (.tmp 24), false, none⟩]) <|
 .seq (.ops [⟨some 25, .extract (.tmp 13) 0, false, none⟩]) <|
 .seq (.ops [⟨some 26, .extract (.tmp 13) 1, false, none⟩]) <|
 .seq (.ops [⟨none, .store 63 (.tmp 4) (.tmp 25), true, none⟩]) <|
 .seq (.ops [⟨none, .store 33 (.tmp 5) (.tmp 26), true, none⟩]) <|
 .skip)) (.seq (.ops [⟨some 4, .alloc 63, true, none⟩]) <|
 .seq (.ops [⟨some 23, .load 22 (.tmp 22), false, none⟩]) <|
 .seq (.ops [⟨some 24, .call ⟨.value (.func 19), #[(.tmp 17), (.tmp 21), (.tmp 23)], #[45, 42, 22]⟩, true, none⟩]) <|
 .seq (.ops [⟨some 13, .move (.tmp 24), false, none⟩]) <|
 .seq (.ops [⟨some 25, .extract (.tmp 13) 0, false, none⟩]) <|
 .seq (.ops [⟨some 26, .extract (.tmp 13) 1, false, none⟩]) <|
 .seq (.ops [⟨none, .store 63 (.tmp 4) (.tmp 25), true, none⟩]) <|
 .seq (.ops [⟨none, .store 33 (.tmp 5) (.tmp 26), true, none⟩]) <|
 .skip)))) (.amb (.seq (.ops [⟨some 23, .load 22 (.tmp 22), false, none⟩]) <|
 .amb (.seq (.ops [⟨some 4, .alloc 63, true, none⟩]) <|
 .amb (.seq (.ops [⟨some 21, .load 42 (.tmp 20), false, none⟩]) <|
 .amb (.seq (.ops [⟨some 24, .call ⟨.value (.func 19), #[(.tmp 17), (.tmp 21), (.tmp 23)], #[45, 42, 22]⟩, true, none⟩]) <|
 .seq (.ops [⟨some 13, .move (.tmp 24), false, none⟩]) <|
 .seq (.ops [⟨some 25, .extract (.tmp 13) 0, false, none⟩]) <|
 .seq (.ops [⟨some 26, .extract (.tmp 13) 1, false, none⟩]) <|
 .seq (.ops [⟨some 5, .alloc 33, true, none⟩]) <|
 .seq (.ops [⟨none, .store 63 (.tmp 4) (.tmp 25), true, none⟩]) <|
 .seq (.ops [⟨none, .store 33 (.tmp 5) (.tmp 26), true, none⟩]) <|
 .skip) (.seq (.ops [⟨some 5, .alloc 33, true, none⟩]) <|
 .seq (.ops [⟨some 24, .call ⟨.value (.func 19), #[(.tmp 17), (.tmp 21), (.tmp 23)], #[45, 42, 22]⟩, true, none⟩]) <|
 .seq (.ops [⟨some 13, .move (.tmp 24), false, none⟩]) <|
 .seq (.ops [⟨some 25, .extract (.tmp 13) 0, false, none⟩]) <|
 .seq (.ops [⟨some 26, .extract (.tmp 13) 1, false, none⟩]) <|
 .seq (.ops [⟨none, .store 63 (.tmp 4) (.tmp 25), true, none⟩]) <|
 .seq (.ops [⟨none, .store 33 (.tmp 5) (.tmp 26), true, none⟩]) <|
 .skip)) (.seq (.ops [⟨some 5, .alloc 33, true, none⟩]) <|
 .seq (.ops [⟨some 21, .load 42 (.tmp 20), false, none⟩]) <|
 .seq (.ops [⟨some 24, .call ⟨.value (.func 19), #[(.tmp 17), (.tmp 21), (.tmp 23)], #[45, 42, 22]⟩, true, none⟩]) <|
 .seq (.ops [⟨some 13, .move (.tmp 24), false, none⟩]) <|
 .seq (.ops [⟨some 25, .extract (.tmp 13) 0, false, none⟩]) <|
 .seq (.ops [⟨some 26, .extract (.tmp 13) 1, false, none⟩]) <|
 .seq (.ops [⟨none, .store 63 (.tmp 4) (.tmp 25), true, none⟩]) <|
 .seq (.ops [⟨none, .store 33 (.tmp 5) (.tmp 26), true, none⟩]) <|
 .skip)) (.seq (.ops [⟨some 5, .alloc 33, true, none⟩]) <|
 .amb (.seq (.ops [⟨some 21, .load 42 (.tmp 20), false, none⟩]) <|
 .amb (.seq (.ops [⟨some 24, .call ⟨.value (.func 19), #[(.tmp 17), (.tmp 21), (.tmp 23)], #[45, 42, 22]⟩, true, none⟩]) <|
 .seq (.ops [⟨some 13, .move (.tmp 24), false, none⟩]) <|
 .seq (.ops [⟨some 25, .extract (.tmp 13) 0, false, none⟩]) <|
 .seq (.ops [⟨some 26, .extract (.tmp 13) 1, false, none⟩]) <|
 .seq (.ops [⟨some 4, .alloc 63, true, none⟩]) <|
 .seq (.ops [⟨none, .store 63 (.tmp 4) (.tmp 25), true, none⟩]) <|
 .seq (.ops [⟨none, .store 33 (.tmp 5) (.tmp 26), true, none⟩]) <|
 .skip) (.seq (.ops [⟨some 4, .alloc 63, true, none⟩]) <|
 .seq (.ops [⟨some 24, .call ⟨.value (.func 19), #[(.tmp 17), (.tmp 21), (.tmp 23)], #[45, 42, 22]⟩, true, none⟩]) <|
 .seq (.ops [⟨some 13, .move (.tmp 24), false, none⟩]) <|
 .seq (.ops [⟨some 25, .extract (.tmp 13) 0, false, none⟩]) <|
 .seq (.ops [⟨some 26, .extract (.tmp 13) 1, false, none⟩]) <|
 .seq (.ops [⟨none, .store 63 (.tmp 4) (.tmp 25), true, none⟩]) <|
 .seq (.ops [⟨none, .store 33 (.tmp 5) (.tmp 26), true, none⟩]) <|
 .skip)) (.seq (.ops [⟨some 4, .alloc 63, true, none⟩]) <|
 .seq (.ops [⟨some 21, .load 42 (.tmp 20), false, none⟩]) <|
 .seq (.ops [⟨some 24, .call ⟨.value (.func 19), #[(.tmp 17), (.tmp 21), (.tmp 23)], #[45, 42, 22]⟩, true, none⟩]) <|
 .seq (.ops [⟨some 13, .move (.tmp 24), false, none⟩]) <|
 .seq (.ops [⟨some 25, .extract (.tmp 13) 0, false, none⟩]) <|
 .seq (.ops [⟨some 26, .extract (.tmp 13) 1, false, none⟩]) <|
 .seq (.ops [⟨none, .store 63 (.tmp 4) (.tmp 25), true, none⟩]) <|
 .seq (.ops [⟨none, .store 33 (.tmp 5) (.tmp 26), true, none⟩]) <|
 .skip))) (.amb (.seq (.ops [⟨some 4, .alloc 63, true, none⟩]) <|
 .amb (.seq (.ops [⟨some 21, .load 42 (.tmp 20), false, none⟩]) <|
 .amb (.seq (.ops [⟨some 23, .load 22 (.tmp 22), false, none⟩]) <|
 .amb (.seq (.ops [⟨some 24, .call ⟨.value (.func 19), #[(.tmp 17), (.tmp 21), (.tmp 23)], #[45, 42, 22]⟩, true, none⟩]) <|
 .seq (.ops [⟨some 13, .move (.tmp 24), false, none⟩]) <|
 .seq (.ops [⟨some 25, .extract (.tmp 13) 0, false, none⟩]) <|
 .seq (.ops [⟨some 26, .extract (.tmp 13) 1, false, none⟩]) <|
 .seq (.ops [⟨some 5, .alloc 33, true, none⟩]) <|
 .seq (.ops [⟨none, .store 63 (.tmp 4) (.tmp 25), true, none⟩]) <|
 .seq (.ops [⟨none, .store 33 (.tmp 5) (.tmp 26), true, none⟩]) <|
 .skip) (.seq (.ops [⟨some 5, .alloc 33, true, none⟩]) <|
 .seq (.ops [⟨some 24, .call ⟨.value (.func 19), #[(.tmp 17), (.tmp 21), (.tmp 23)], #[45, 42, 22]⟩, true, none⟩]) <|
 .seq (.ops [⟨some 13, .move (.tmp 24), false, none⟩]) <|
 .seq (.ops [⟨some 25, .extract (.tmp 13) 0, false, none⟩]) <|
 .seq (.ops [⟨some 26, .extract (.tmp 13) 1, false, none⟩]) <|
 .seq (.ops [⟨none, .store 63 (.tmp 4) (.tmp 25), true, none⟩]) <|
 .seq (.ops [⟨none, .store 33 (.tmp 5) (.tmp 26), true, none⟩]) <|
 .skip)) (.seq (.ops [⟨some 5, .alloc 33, true, none⟩]) <|
 .seq (.ops [⟨some 23, .load 22 (.tmp 22), false, none⟩]) <|
 .seq (.ops [⟨some 24, .call ⟨.value (.func 19), #[(.tmp 17), (.tmp 21), (.tmp 23)], #[45, 42, 22]⟩, true, none⟩]) <|
 .seq (.ops [⟨some 13, .move (.tmp 24), false, none⟩]) <|
 .seq (.ops [⟨some 25, .extract (.tmp 13) 0, false, none⟩]) <|
 .seq (.ops [⟨some 26, .extract (.tmp 13) 1, false, none⟩]) <|
 .seq (.ops [⟨none, .store 63 (.tmp 4) (.tmp 25), true, none⟩]) <|
 .seq (.ops [⟨none, .store 33 (.tmp 5) (.tmp 26), true, none⟩]) <|
 .skip)) (.amb (.seq (.ops [⟨some 23, .load 22 (.tmp 22), false, none⟩]) <|
 .seq (.ops [⟨some 5, .alloc 33, true, none⟩]) <|
 .seq (.ops [⟨some 21, .load 42 (.tmp 20), false, none⟩]) <|
 .seq (.ops [⟨some 24, .call ⟨.value (.func 19), #[(.tmp 17), (.tmp 21), (.tmp 23)], #[45, 42, 22]⟩, true, none⟩]) <|
 .seq (.ops [⟨some 13, .move (.tmp 24), false, none⟩]) <|
 .seq (.ops [⟨some 25, .extract (.tmp 13) 0, false, none⟩]) <|
 .seq (.ops [⟨some 26, .extract (.tmp 13) 1, false, none⟩]) <|
 .seq (.ops [⟨none, .store 63 (.tmp 4) (.tmp 25), true, none⟩]) <|
 .seq (.ops [⟨none, .store 33 (.tmp 5) (.tmp 26), true, none⟩]) <|
 .skip) (.seq (.ops [⟨some 5, .alloc 33, true, none⟩]) <|
 .seq (.ops [⟨some 21, .load 42 (.tmp 20), false, none⟩]) <|
 .seq (.ops [⟨some 23, .load 22 (.tmp 22), false, none⟩]) <|
 .seq (.ops [⟨some 24, .call ⟨.value (.func 19), #[(.tmp 17), (.tmp 21), (.tmp 23)], #[45, 42, 22]⟩, true, none⟩]) <|
 .seq (.ops [⟨some 13, .move (.tmp 24), false, none⟩]) <|
 .seq (.ops [⟨some 25, .extract (.tmp 13) 0, false, none⟩]) <|
 .seq (.ops [⟨some 26, .extract (.tmp 13) 1, false, none⟩]) <|
 .seq (.ops [⟨none, .store 63 (.tmp 4) (.tmp 25), true, none⟩]) <|
 .seq (.ops [⟨none, .store 33 (.tmp 5) (.tmp 26), true, none⟩]) <|
 .skip))) (.seq (.ops [⟨some 5, .alloc 33, true, none⟩]) <|
 .amb (.seq (.ops [⟨some 21, .load 42 (.tmp 20), false, none⟩]) <|
 .amb (.seq (.ops [⟨some 23, .load 22 (.tmp 22), false, none⟩]) <|
 .amb (.seq (.ops [⟨some 24, .call ⟨.value (.func 19), #[(.tmp 17), (.tmp 21), (.tmp 23)], #[45, 42, 22]⟩, true, none⟩]) <|
 .seq (.ops [⟨some 13, .move (.tmp 24), false, none⟩]) <|
 .seq (.ops [⟨some 25, .extract (.tmp 13) 0, false, none⟩]) <|
 .seq (.ops [⟨some 26, .extract (.tmp 13) 1, false, none⟩]) <|
 .seq (.ops [⟨some 4, .alloc 63, true, none⟩]) <|
 .seq (.ops [⟨none, .store 63 (.tmp 4) (.tmp 25), true, none⟩]) <|
 .seq (.ops [⟨none, .store 33 (.tmp 5) (.tmp 26), true, none⟩]) <|
 .skip) (.seq (.ops [⟨some 4, .alloc 63, true, none⟩]) <|
 .seq (.ops [⟨some 24, .call ⟨.value (.func 19), #[(.tmp 17), (.tmp 21), (.tmp 23)], #[45, 42, 22]⟩, true, none⟩]) <|
 .seq (.ops [⟨some 13, .move (.tmp 24), false, none⟩]) <|
 .seq (.ops [⟨some 25, .extract (.tmp 13) 0, false, none⟩]) <|
 .seq (.ops [⟨some 26, .extract (.tmp 13) 1, false, none⟩]) <|
 .seq (.ops [⟨none, .store 63 (.tmp 4) (.tmp 25), true, none⟩]) <|
 .seq (.ops [⟨none, .store 33 (.tmp 5) (.tmp 26), true, none⟩]) <|
 .skip)) (.seq (.ops [⟨some 4, .alloc 63, true, none⟩]) <|
 .seq (.ops [⟨some 23, .load 22 (.tmp 22), false, none⟩]) <|
 .seq (.ops [⟨some 24, .call ⟨.value (.func 19), #[(.tmp 17), (.tmp 21), (.tmp 23)], #[45, 42, 22]⟩, true, none⟩]) <|
 .seq (.ops [⟨some 13, .move (.tmp 24), false, none⟩]) <|
 .seq (.ops [⟨some 25, .extract (.tmp 13) 0, false, none⟩]) <|
 .seq (.ops [⟨some 26, .extract (.tmp 13) 1, false, none⟩]) <|
 .seq (.ops [⟨none, .store 63 (.tmp 4) (.tmp 25), true, none⟩]) <|
 .seq (.ops [⟨none, .store 33 (.tmp 5) (.tmp 26), true, none⟩]) <|
 .skip)) (.amb (.seq (.ops [⟨some 23, .load 22 (.tmp 22), false, none⟩]) <|
 .seq (.ops [⟨some 4, .alloc 63, true, none⟩]) <|
 .seq (.ops [⟨some 21, .load 42 (.tmp 20), false, none⟩]) <|
 .seq (.ops [⟨some 24, .call ⟨.value (.func 19), #[(.tmp 17), (.tmp 21), (.tmp 23)], #[45, 42, 22]⟩, true, none⟩]) <|
 .seq (.ops [⟨some 13, .move (.tmp 24), false, none⟩]) <|
 .seq (.ops [⟨some 25, .extract (.tmp 13) 0, false, none⟩]) <|
 .seq (.ops [⟨some 26, .extract (.tmp 13) 1, false, none⟩]) <|
 .seq (.ops [⟨none, .store 63 (.tmp 4) (.tmp 25), true, none⟩]) <|
 .seq (.ops [⟨none, .store 33 (.tmp 5) (.tmp 26), true, none⟩]) <|
 .skip) (.seq (.ops [⟨some 4, .alloc 63, true, none⟩]) <|
 .seq (.ops [⟨some 21, .load 42 (.tmp 20), false, none⟩]) <|
 .seq (.ops [⟨some 23, .load 22 (.tmp 22), false, none⟩]) <|
 .seq (.ops [⟨some 24, .call ⟨.value (.func 19), #[(.tmp 17), (.tmp 21), (.tmp 23)], #[45, 42, 22]⟩, true, none⟩]) <|
 .seq (.ops [⟨some 13, .move (.tmp 24), false, none⟩]) <|
 .seq (.ops [⟨some 25, .extract (.tmp 13) 0, false, none⟩]) <|
 .seq (.ops [⟨some 26, .extract (.tmp 13) 1, false, none⟩]) <|
 .seq (.ops [⟨none, .store 63 (.tmp 4) (.tmp 25), true, none⟩]) <|
 .seq (.ops [⟨none, .store 33 (.tmp 5) (.tmp 26), true, none⟩]) <|
 .skip)))))) (.amb (.seq (.ops [⟨some 21, .load 42 (.tmp 20), false, none⟩]) <|
 .amb (.seq (.ops [⟨some 23, .load 22 (.tmp 22), false, none⟩]) <|
 .amb (.seq (.ops [⟨some 4, .alloc 63, true, none⟩]) <|
 .amb (.seq (.ops [⟨some 17, .load 45 (.tmp 16), false, none⟩]) <|
 .amb (.seq (.ops [⟨some 24, .call ⟨.value (.func 19), #[(.tmp 17), (.tmp 21), (.tmp 23)], #[45, 42, 22]⟩, true, none⟩]) <|
 .seq (.ops [⟨some 13, .move (.tmp 24), false, none⟩]) <|
 .seq (.ops [⟨some 25, .extract (.tmp 13) 0, false, none⟩]) <|
 .seq (.ops [⟨some 26, .extract (.tmp 13) 1, false, none⟩]) <|
 .seq (.ops [⟨some 5, .alloc 33, true, none⟩]) <|
 .seq (.ops [⟨none, .store 63 (.tmp 4) (.tmp 25), true, none⟩]) <|
 .seq (.ops [⟨none, .store 33 (.tmp 5) (.tmp 26), true, none⟩]) <|
 .skip) (.seq (.ops [⟨some 5, .alloc 33, true, none⟩]) <|
 .seq (.ops [⟨some 24, .call ⟨.value (.func 19), #[(.tmp 17), (.tmp 21), (.tmp 23)], #[45, 42, 22]⟩, true, none⟩]) <|
 .seq (.ops [⟨some 13, .move (.tmp 24), false, none⟩]) <|
 .seq (.ops [⟨some 25, .extract (.tmp 13) 0, false, none⟩]) <|
 .seq (.ops [⟨some 26, .extract (.tmp 13) 1, false, none⟩]) <|
 .seq (.ops [⟨none, .store 63 (.tmp 4) (.tmp 25), true, none⟩]) <|
 .seq (.ops [⟨none, .store 33 (.tmp 5) (.tmp 26), true, none⟩]) <|
 .skip)) (.seq (.ops [⟨some 5, .alloc 33, true, none⟩]) <|
 .seq (.ops [⟨some 17, .load 45 (.tmp 16), false, none⟩]) <|
 .seq (.ops [⟨some 24, .call ⟨.value (.func 19), #[(.tmp 17), (.tmp 21), (.tmp 23)], #[45, 42, 22]⟩, true, none⟩]) <|
 .seq (.ops [⟨some 13, .move (.tmp 24), false, none⟩]) <|
 .seq (.ops [⟨some 25, .extract (.tmp 13) 0, false, none⟩]) <|
 .seq (.ops [⟨some 26, .extract (.tmp 13) 1, false, none⟩]) <|
 .seq (.ops [⟨none, .store 63 (.tmp 4) (.tmp 25), true, none⟩]) <|
 .seq (.ops [⟨none, .store 33 (.tmp 5) (.tmp 26), true, none⟩]) <|
 .skip)) (.seq (.ops [⟨some 5, .alloc 33, true, none⟩]) <|
 .amb (.seq (.ops [⟨some 17, .load 45 (.tmp 16), false, none⟩]) <|
 .amb (.seq (.ops [⟨some 24, .call ⟨.value (.func 19), #[(.tmp 17), (.tmp 21), (.tmp 23)], #[45, 42, 22]⟩, true, none⟩]) <|
 .seq (.ops [⟨some 13, .move (.tmp 24), false, none⟩]) <|
 .seq (.ops [⟨some 25, .extract (.tmp 13) 0, false, none⟩]) <|
 .seq (.ops [⟨some 26, .extract (.tmp 13) 1, false, none⟩]) <|
 .seq (.ops [⟨some 4, .alloc 63, true, none⟩]) <|
 .seq (.ops [⟨none, .store 63 (.tmp 4) (.tmp 25), true, none⟩]) <|
 .seq (.ops [⟨none, .store 33 (.tmp 5) (.tmp 26), true, none⟩]) <|
 .skip) (.seq (.ops [⟨some 4, .alloc 63, true, none⟩]) <|
 .seq (.ops [⟨some 24, .call ⟨.value (.func 19), #[(.tmp 17), (.tmp 21), (.tmp 23)], #[45, 42, 22]⟩, true, none⟩]) <|
 .seq (.ops [⟨some 13, .move (.tmp 24), false, none⟩]) <|
 .seq (.ops [⟨some 25, .extract (.tmp 13) 0, false, none⟩]) <|
 .seq (.ops [⟨some 26, .extract (.tmp 13) 1, false, none⟩]) <|
 .seq (.ops [⟨none, .store 63 (.tmp 4) (.tmp 25), true, none⟩]) <|
 .seq (.ops [⟨none, .store 33 (.tmp 5) (.tmp 26), true, none⟩]) <|
 .skip)) (.seq (.ops [⟨some 4, .alloc 63, true, none⟩]) <|
 .seq (.ops [⟨some 17, .load 45 (.tmp 16), false, none⟩]) <|
 .seq (.ops [⟨some 24, .call ⟨.value (.func 19), #[(.tmp 17), (.tmp 21), (.tmp 23)], #[45, 42, 22]⟩, true, none⟩]) <|
 .seq (.ops [⟨some 13, .move (.tmp 24), false, none⟩]) <|
 .seq (.ops [⟨some 25, .extract (.tmp 13) 0, false, none⟩]) <|
 .seq (.ops [⟨some 26, .extract (.tmp 13) 1, false, none⟩]) <|
 .seq (.ops [⟨none, .store 63 (.tmp 4) (.tmp 25), true, none⟩]) <|
 .seq (.ops [⟨none, .store 33 (.tmp 5) (.tmp 26), true, none⟩]) <|
 .skip))) (.amb (.seq (.ops [⟨some 4, .alloc 63, true, none⟩]) <|
 .amb (.seq (.ops [⟨some 17, .load 45 (.tmp 16), false, none⟩]) <|
 .amb (.seq (.ops [⟨some 23, .load 22 (.tmp 22), false, none⟩]) <|
 .amb (.seq (.ops [⟨some 24, .call ⟨.value (.func 19), #[(.tmp 17), (.tmp 21), (.tmp 23)], #[45, 42, 22]⟩, true, none⟩]) <|
 .seq (.ops [⟨some 13, .move (.tmp 24), false, none⟩]) <|
 .seq (.ops [⟨some 25, .extract (.tmp 13) 0, false, none⟩]) <|
 .seq (.ops [⟨some 26, .extract (.tmp 13) 1, false, none⟩]) <|
 .seq (.ops [⟨some 5, .alloc 33, true, none⟩]) <|
 .seq (.ops [⟨none, .store 63 (.tmp 4) (.tmp 25), true, none⟩]) <|
 .seq (.ops [⟨none, .store 33 (.tmp 5) (.tmp 26), true, none⟩]) <|
 .skip) (.seq (.ops [⟨some 5, .alloc 33, true, none⟩]) <|
 .seq (.ops [⟨some 24, .call ⟨.value (.func 19), #[(.tmp 17), (.tmp 21), (.tmp 23)], #[45, 42, 22]⟩, true, none⟩]) <|
 .seq (.ops [⟨some 13, .move (.tmp 24), false, none⟩]) <|
 .seq (.ops [⟨some 25, .extract (.tmp 13) 0, false, none⟩]) <|
 .seq (.ops [⟨some 26, .extract (.tmp 13) 1, false, none⟩]) <|
 .seq (.ops [⟨none, .store 63 (.tmp 4) (.tmp 25), true, none⟩]) <|
 .seq (.ops [⟨none, .store 33 (.tmp 5) (.tmp 26), true, none⟩]) <|
 .skip)) (.seq (.ops [⟨some 5, .alloc 33, true, none⟩]) <|
 .seq (.ops [⟨some 23, .load 22 (.tmp 22), false, none⟩]) <|
 .seq (.ops [⟨some 24, .call ⟨.value (.func 19), #[(.tmp 17), (.tmp 21), (.tmp 23)], #[45, 42, 22]⟩, true, none⟩]) <|
 .seq (.ops [⟨some 13, .move (.tmp 24), false, none⟩]) <|
 .seq (.ops [⟨some 25, .extract (.tmp 13) 0, false, none⟩]) <|
 .seq (.ops [⟨some 26, .extract (.tmp 13) 1, false, none⟩]) <|
 .seq (.ops [⟨none, .store 63 (.tmp 4) (.tmp 25), true, none⟩]) <|
 .seq (.ops [⟨none, .store 33 (.tmp 5) (.tmp 26), true, none⟩]) <|
 .skip)) (.amb (.seq (.ops [⟨some 23, .load 22 (.tmp 22), false, none⟩]) <|
 .seq (.ops [⟨some 5, .alloc 33, true, none⟩]) <|
 .seq (.ops [⟨some 17, .load 45 (.tmp 16), false, none⟩]) <|
 .seq (.ops [⟨some 24, .call ⟨.value (.func 19), #[(.tmp 17), (.tmp 21), (.tmp 23)], #[45, 42, 22]⟩, true, none⟩]) <|
 .seq (.ops [⟨some 13, .move (.tmp 24), false, none⟩]) <|
 .seq (.ops [⟨some 25, .extract (.tmp 13) 0, false, none⟩]) <|
 .seq (.ops [⟨some 26, .extract (.tmp 13) 1, false, none⟩]) <|
 .seq (.ops [⟨none, .store 63 (.tmp 4) (.tmp 25), true, none⟩]) <|
 .seq (.ops [⟨none, .store 33 (.tmp 5) (.tmp 26), true, none⟩]) <|
 .skip) (.seq (.ops [⟨some 5, .alloc 33, true, none⟩]) <|
 .seq (.ops [⟨some 17, .load 45 (.tmp 16), false, none⟩]) <|
 .seq (.ops [⟨some 23, .load 22 (.tmp 22), false, none⟩]) <|
 .seq (.ops [⟨some 24, .call ⟨.value (.func 19), #[(.tmp 17), (.tmp 21), (.tmp 23)], #[45, 42, 22]⟩, true, none⟩]) <|
 .seq (.ops [⟨some 13, .move (.tmp 24), false, none⟩]) <|
 .seq (.ops [⟨some 25, .extract (.tmp 13) 0, false, none⟩]) <|
 .seq (.ops [⟨some 26, .extract (.tmp 13) 1, false, none⟩]) <|
 .seq (.ops [⟨none, .store 63 (.tmp 4) (.tmp 25), true, none⟩]) <|
 .seq (.ops [⟨none, .store 33 (.tmp 5) (.tmp 26), true, none⟩]) <|
 .skip))) (.seq (.ops [⟨some 5, .alloc 33, true, none⟩]) <|
 .amb (.seq (.ops [⟨some 17, .load 45 (.tmp 16), false, none⟩]) <|
 .amb (.seq (.ops [⟨some 23, .load 22 (.tmp 22), false, none⟩]) <|
 .amb (.seq (.ops [⟨some 24, .call ⟨.value (.func 19), #[(.tmp 17), (.tmp 21), (.tmp 23)], #[45, 42, 22]⟩, true, none⟩]) <|
 .seq (.ops [⟨some 13, .move (.tmp 24), false, none⟩]) <|
 .seq (.ops [⟨some 25, .extract (.tmp 13) 0, false, none⟩]) <|
 .seq (.ops [⟨some 26, .extract (.tmp 13) 1, false, none⟩]) <|
 .seq (.ops [⟨some 4, .alloc 63, true, none⟩]) <|
 .seq (.ops [⟨none, .store 63 (.tmp 4) (.tmp 25), true, none⟩]) <|
 .seq (.ops [⟨none, .store 33 (.tmp 5) (.tmp 26), true, none⟩]) <|
 .skip) (.seq (.ops [⟨some 4, .alloc 63, true, none⟩]) <|
 .seq (.ops [⟨some 24, .call ⟨.value (.func 19), #[(.tmp 17), (.tmp 21), (.tmp 23)], #[45, 42, 22]⟩, true, none⟩]) <|
 .seq (.ops [⟨some 13, .move (.tmp 24), false, none⟩]) <|
 .seq (.ops [⟨some 25, .extract (.tmp 13) 0, false, none⟩]) <|
 .seq (.ops [⟨some 26, .extract (.tmp 13) 1, false, none⟩]) <|
 .seq (.ops [⟨none, .store 63 (.tmp 4) (.tmp 25), true, none⟩]) <|
 .seq (.ops [⟨none, .store 33 (.tmp 5) (.tmp 26), true, none⟩]) <|
 .skip)) (.seq (.ops [⟨some 4, .alloc 63, true, none⟩]) <|
 .seq (.ops [⟨some 23, .load 22 (.tmp 22), false, none⟩]) <|
 .seq (.ops [⟨some 24, .call ⟨.value (.func 19), #[(.tmp 17), (.tmp 21), (.tmp 23)], #[45, 42, 22]⟩, true, none⟩]) <|
 .seq (.ops [⟨some 13, .move (.tmp 24), false, none⟩]) <|
 .seq (.ops [⟨some 25, .extract (.tmp 13) 0, false, none⟩]) <|
 .seq (.ops [⟨some 26, .extract (.tmp 13) 1, false, none⟩]) <|
 .seq (.ops [⟨none, .store 63 (.tmp 4) (.tmp 25), true, none⟩]) <|
 .seq (.ops [⟨none, .store 33 (.tmp 5) (.tmp 26), true, none⟩]) <|
 .skip)) (.amb (.seq (.ops [⟨some 23, .load 22 (.tmp 22), false, none⟩]) <|
 .seq (.ops [⟨some 4, .alloc 63, true, none⟩]) <|
 .seq (.ops [⟨some 17, .load 45 (.tmp 16), false, none⟩]) <|
 .seq (.ops [⟨some 24, .call ⟨.value (.func 19), #[(.tmp 17), (.tmp 21), (.tmp 23)], #[45, 42, 22]⟩, true, none⟩]) <|
 .seq (.ops [⟨some 13, .move (.tmp 24), false, none⟩]) <|
 .seq (.ops [⟨some 25, .extract (.tmp 13) 0, false, none⟩]) <|
 .seq (.ops [⟨some 26, .extract (.tmp 13) 1, false, none⟩]) <|
 .seq (.ops [⟨none, .store 63 (.tmp 4) (.tmp 25), true, none⟩]) <|
 .seq (.ops [⟨none, .store 33 (.tmp 5) (.tmp 26), true, none⟩]) <|
 .skip) (.seq (.ops [⟨some 4, .alloc 63, true, none⟩]) <|
 .seq (.ops [⟨some 17, .load 45 (.tmp 16), false, none⟩]) <|
 .seq (.ops [⟨some 23, .load 22 (.tmp 22), false, none⟩]) <|
 .seq (.ops [⟨some 24, .call ⟨.value (.func 19), #[(.tmp 17), (.tmp 21), (.tmp 23)], #[45, 42, 22]⟩, true, none⟩]) <|
 .seq (.ops [⟨some 13, .move (.tmp 24), false, none⟩]) <|
 .seq (.ops [⟨some 25, .extract (.tmp 13) 0, false, none⟩]) <|
 .seq (.ops [⟨some 26, .extract (.tmp 13) 1, false, none⟩]) <|
 .seq (.ops [⟨none, .store 63 (.tmp 4) (.tmp 25), true, none⟩]) <|
 .seq (.ops [⟨none, .store 33 (.tmp 5) (.tmp 26), true, none⟩]) <|
 .skip))))) (.amb (.seq (.ops [⟨some 23, .load 22 (.tmp 22), false, none⟩]) <|
 .amb (.seq (.ops [⟨some 4, .alloc 63, true, none⟩]) <|
 .amb (.seq (.ops [⟨some 17, .load 45 (.tmp 16), false, none⟩]) <|
 .amb (.seq (.ops [⟨some 21, .load 42 (.tmp 20), false, none⟩]) <|
 .amb (.seq (.ops [⟨some 24, .call ⟨.value (.func 19), #[(.tmp 17), (.tmp 21), (.tmp 23)], #[45, 42, 22]⟩, true, none⟩]) <|
 .seq (.ops [⟨some 13, .move (.tmp 24), false, none⟩]) <|
 .seq (.ops [⟨some 25, .extract (.tmp 13) 0, false, none⟩]) <|
 .seq (.ops [⟨some 26, .extract (.tmp 13) 1, false, none⟩]) <|
 .seq (.ops [⟨some 5, .alloc 33, true, none⟩]) <|
 .seq (.ops [⟨none, .store 63 (.tmp 4) (.tmp 25), true, none⟩]) <|
 .seq (.ops [⟨none, .store 33 (.tmp 5) (.tmp 26), true, none⟩]) <|
 .skip) (.seq (.ops [⟨some 5, .alloc 33, true, none⟩]) <|
 .seq (.ops [⟨some 24, .call ⟨.value (.func 19), #[(.tmp 17), (.tmp 21), (.tmp 23)], #[45, 42, 22]⟩, true, none⟩]) <|
 .seq (.ops [⟨some 13, .move (.tmp 24), false, none⟩]) <|
 .seq (.ops [⟨some 25, .extract (.tmp 13) 0, false, none⟩]) <|
 .seq (.ops [⟨some 26, .extract (.tmp 13) 1, false, none⟩]) <|
 .seq (.ops [⟨none, .store 63 (.tmp 4) (.tmp 25), true, none⟩]) <|
 .seq (.ops [⟨none, .store 33 (.tmp 5) (.tmp 26), true, none⟩]) <|
 .skip)) (.seq (.ops [⟨some 5, .alloc 33, true, none⟩]) <|
 .seq (.ops [⟨some 21, .load 42 (.tmp 20), false, none⟩]) <|
 .seq (.ops [⟨some 24, .call ⟨.value (.func 19), #[(.tmp 17), (.tmp 21), (.tmp 23)], #[45, 42, 22]⟩, true, none⟩]) <|
 .seq (.ops [⟨some 13, .move (.tmp 24), false, none⟩]) <|
 .seq (.ops [⟨some 25, .extract (.tmp 13) 0, false, none⟩]) <|
 .seq (.ops [⟨some 26, .extract (.tmp 13) 1, false, none⟩]) <|
 .seq (.ops [⟨none, .store 63 (.tmp 4) (.tmp 25), true, none⟩]) <|
 .seq (.ops [⟨none, .store 33 (.tmp 5) (.tmp 26), true, none⟩]) <|
 .skip)) (.amb (.seq (.ops [⟨some 21, .load 42 (.tmp 20), false, none⟩]) <|
 .seq (.ops [⟨some 5, .alloc 33, true, none⟩]) <|
 .seq (.ops [⟨some 17, .load 45 (.tmp 16), false, none⟩]) <|
 .seq (.ops [⟨some 24, .call ⟨.value (.func 19), #[(.tmp 17), (.tmp 21), (.tmp 23)], #[45, 42, 22]⟩, true, none⟩]) <|
 .seq (.ops [⟨some 13, .move (.tmp 24), false, none⟩]) <|
 .seq (.ops [⟨some 25, .extract (.tmp 13) 0, false, none⟩]) <|
 .seq (.ops [⟨some 26, .extract (.tmp 13) 1, false, none⟩]) <|
 .seq (.ops [⟨none, .store 63 (.tmp 4) (.tmp 25), true, none⟩]) <|
 .seq (.ops [⟨none, .store 33 (.tmp 5) (.tmp 26), true, none⟩]) <|
 .skip) (.seq (.ops [⟨some 5, .alloc 33, true, none⟩]) <|
 .seq (.ops [⟨some 17, .load 45 (.tmp 16), false, none⟩]) <|
 .seq (.ops [⟨some 21, .load 42 (.tmp 20), false, none⟩]) <|
 .seq (.ops [⟨some 24, .call ⟨.value (.func 19), #[(.tmp 17), (.tmp 21), (.tmp 23)], #[45, 42, 22]⟩, true, none⟩]) <|
 .seq (.ops [⟨some 13, .move (.tmp 24), false, none⟩]) <|
 .seq (.ops [⟨some 25, .extract (.tmp 13) 0, false, none⟩]) <|
 .seq (.ops [⟨some 26, .extract (.tmp 13) 1, false, none⟩]) <|
 .seq (.ops [⟨none, .store 63 (.tmp 4) (.tmp 25), true, none⟩]) <|
 .seq (.ops [⟨none, .store 33 (.tmp 5) (.tmp 26), true, none⟩]) <|
 .skip))) (.seq (.ops [⟨some 5, .alloc 33, true, none⟩]) <|
 .amb (.seq (.ops [⟨some 17, .load 45 (.tmp 16), false, none⟩]) <|
 .amb (.seq (.ops [⟨some 21, .load 42 (.tmp 20), false, none⟩]) <|
 .amb (.seq (.ops [⟨some 24, .call ⟨.value (.func 19), #[(.tmp 17), (.tmp 21), (.tmp 23)], #[45, 42, 22]⟩, true, none⟩]) <|
 .seq (.ops [⟨some 13, .move (.tmp 24), false, none⟩]) <|
 .seq (.ops [⟨some 25, .extract (.tmp 13) 0, false, none⟩]) <|
 .seq (.ops [⟨some 26, .extract (.tmp 13) 1, false, none⟩]) <|
 .seq (.ops [⟨some 4, .alloc 63, true, none⟩]) <|
 .seq (.ops [⟨none, .store 63 (.tmp 4) (.tmp 25), true, none⟩]) <|
 .seq (.ops [⟨none, .store 33 (.tmp 5) (.tmp 26), true, none⟩]) <|
 .skip) (.seq (.ops [⟨some 4, .alloc 63, true, none⟩]) <|
 .seq (.ops [⟨some 24, .call ⟨.value (.func 19), #[(.tmp 17), (.tmp 21), (.tmp 23)], #[45, 42, 22]⟩, true, none⟩]) <|
 .seq (.ops [⟨some 13, .move (.tmp 24), false, none⟩]) <|
 .seq (.ops [⟨some 25, .extract (.tmp 13) 0, false, none⟩]) <|
 .seq (.ops [⟨some 26, .extract (.tmp 13) 1, false, none⟩]) <|
 .seq (.ops [⟨none, .store 63 (.tmp 4) (.tmp 25), true, none⟩]) <|
 .seq (.ops [⟨none, .store 33 (.tmp 5) (.tmp 26), true, none⟩]) <|
 .skip)) (.seq (.ops [⟨some 4, .alloc 63, true, none⟩]) <|
 .seq (.ops [⟨some 21, .load 42 (.tmp 20), false, none⟩]) <|
 .seq (.ops [⟨some 24, .call ⟨.value (.func 19), #[(.tmp 17), (.tmp 21), (.tmp 23)], #[45, 42, 22]⟩, true, none⟩]) <|
 .seq (.ops [⟨some 13, .move (.tmp 24), false, none⟩]) <|
 .seq (.ops [⟨some 25, .extract (.tmp 13) 0, false, none⟩]) <|
 .seq (.ops [⟨some 26, .extract (.tmp 13) 1, false, none⟩]) <|
 .seq (.ops [⟨none, .store 63 (.tmp 4) (.tmp 25), true, none⟩]) <|
 .seq (.ops [⟨none, .store 33 (.tmp 5) (.tmp 26), true, none⟩]) <|
 .skip)) (.amb (.seq (.ops [⟨some 21, .load 42 (.tmp 20), false, none⟩]) <|
 .seq (.ops [⟨some 4, .alloc 63, true, none⟩]) <|
 .seq (.ops [⟨some 17, .load 45 (.tmp 16), false, none⟩]) <|
 .seq (.ops [⟨some 24, .call ⟨.value (.func 19), #[(.tmp 17), (.tmp 21), (.tmp 23)], #[45, 42, 22]⟩, true, none⟩]) <|
 .seq (.ops [⟨some 13, .move (.tmp 24), false, none⟩]) <|
 .seq (.ops [⟨some 25, .extract (.tmp 13) 0, false, none⟩]) <|
 .seq (.ops [⟨some 26, .extract (.tmp 13) 1, false, none⟩]) <|
 .seq (.ops [⟨none, .store 63 (.tmp 4) (.tmp 25), true, none⟩]) <|
 .seq (.ops [⟨none, .store 33 (.tmp 5) (.tmp 26), true, none⟩]) <|
 .skip) (.seq (.ops [⟨some 4, .alloc 63, true, none⟩]) <|
 .seq (.ops [⟨some 17, .load 45 (.tmp 16), false, none⟩]) <|
 .seq (.ops [⟨some 21, .load 42 (.tmp 20), false, none⟩]) <|
 .seq (.ops [⟨some 24, .call ⟨.value (.func 19), #[(.tmp 17), (.tmp 21), (.tmp 23)], #[45, 42, 22]⟩, true, none⟩]) <|
 .seq (.ops [⟨some 13, .move (.tmp 24), false, none⟩]) <|
 .seq (.ops [⟨some 25, .extract (.tmp 13) 0, false, none⟩]) <|
 .seq (.ops [⟨some 26, .extract (.tmp 13) 1, false, none⟩]) <|
 .seq (.ops [⟨none, .store 63 (.tmp 4) (.tmp 25), true, none⟩]) <|
 .seq (.ops [⟨none, .store 33 (.tmp 5) (.tmp 26), true, none⟩]) <|
 .skip)))) (.amb (.seq (.ops [⟨some 4, .alloc 63, true, none⟩]) <|
 .amb (.seq (.ops [⟨some 17, .load 45 (.tmp 16), false, none⟩]) <|
 .amb (.seq (.ops [⟨some 21, .load 42 (.tmp 20), false, none⟩]) <|
 .amb (.seq (.ops [⟨some 23, .load 22 (.tmp 22), false, none⟩]) <|
 .amb (.seq (.ops [⟨some 24, .call ⟨.value (.func 19), #[(.tmp 17), (.tmp 21), (.tmp 23)], #[45, 42, 22]⟩, true, none⟩]) <|
 .seq (.ops [⟨some 13, .move (.tmp 24), false, none⟩]) <|
 .seq (.ops [⟨some 25, .extract (.tmp 13) 0, false, none⟩]) <|
 .seq (.ops [⟨some 26, .extract (.tmp 13) 1, false, none⟩]) <|
 .seq (.ops [⟨some 5, .alloc 33, true, none⟩]) <|
 .seq (.ops [⟨none, .store 63 (.tmp 4) (.tmp 25), true, none⟩]) <|
 .seq (.ops [⟨none, .store 33 (.tmp 5) (.tmp 26), true, none⟩]) <|
 .skip) (.seq (.ops [⟨some 5, .alloc 33, true, none⟩]) <|
 .seq (.ops [⟨some 24, .call ⟨.value (.func 19), #[(.tmp 17), (.tmp 21), (.tmp 23)], #[45, 42, 22]⟩, true, none⟩]) <|
 .seq (.ops [⟨some 13, .move (.tmp 24), false, none⟩]) <|
 .seq (.ops [⟨some 25, .extract (.tmp 13) 0, false, none⟩]) <|
 .seq (.ops [⟨some 26, .extract (.tmp 13) 1, false, none⟩]) <|
 .seq (.ops [⟨none, .store 63 (.tmp 4) (.tmp 25), true, none⟩]) <|
 .seq (.ops [⟨none, .store 33 (.tmp 5) (.tmp 26), true, none⟩]) <|
 .skip)) (.seq (.ops [⟨some 5, .alloc 33, true, none⟩]) <|
 .seq (.ops [⟨some 23, .load 22 (.tmp 22), false, none⟩]) <|
 .seq (.ops [⟨some 24, .call ⟨.value (.func 19), #[(.tmp 17), (.tmp 21), (.tmp 23)], #[45, 42, 22]⟩, true, none⟩]) <|
 .seq (.ops [⟨some 13, .move (.tmp 24), false, none⟩]) <|
 .seq (.ops [⟨some 25, .extract (.tmp 13) 0, false, none⟩]) <|
 .seq (.ops [⟨some 26, .extract (.tmp 13) 1, false, none⟩]) <|
 .seq (.ops [⟨none, .store 63 (.tmp 4) (.tmp 25), true, none⟩]) <|
 .seq (.ops [⟨none, .store 33 (.tmp 5) (.tmp 26), true, none⟩]) <|
 .skip)) (.amb (.seq (.ops [⟨some 23, .load 22 (.tmp 22), false, none⟩]) <|
 .seq (.ops [⟨some 5, .alloc 33, true, none⟩]) <|
 .seq (.ops [⟨some 21, .load 42 (.tmp 20), false, none⟩]) <|
 .seq (.ops [⟨some 24, .call ⟨.value (.func 19), #[(.tmp 17), (.tmp 21), (.tmp 23)], #[45, 42, 22]⟩, true, none⟩]) <|
 .seq (.ops [⟨some 13, .move (.tmp 24), false, none⟩]) <|
 .seq (.ops [⟨some 25, .extract (.tmp 13) 0, false, none⟩]) <|
 .seq (.ops [⟨some 26, .extract (.tmp 13) 1, false, none⟩]) <|
 .seq (.ops [⟨none, .store 63 (.tmp 4) (.tmp 25), true, none⟩]) <|
 .seq (.ops [⟨none, .store 33 (.tmp 5) (.tmp 26), true, none⟩]) <|
 .skip) (.seq (.ops [⟨some 5, .alloc 33, true, none⟩]) <|
 .seq (.ops [⟨some 21, .load 42 (.tmp 20), false, none⟩]) <|
 .seq (.ops [⟨some 23, .load 22 (.tmp 22), false, none⟩]) <|
 .seq (.ops [⟨some 24, .call ⟨.value (.func 19), #[(.tmp 17), (.tmp 21), (.tmp 23)], #[45, 42, 22]⟩, true, none⟩]) <|
 .seq (.ops [⟨some 13, .move (.tmp 24), false, none⟩]) <|
 .seq (.ops [⟨some 25, .extract (.tmp 13) 0, false, none⟩]) <|
 .seq (.ops [⟨some 26, .extract (.tmp 13) 1, false, none⟩]) <|
 .seq (.ops [⟨none, .store 63 (.tmp 4) (.tmp 25), true, none⟩]) <|
 .seq (.ops [⟨none, .store 33 (.tmp 5) (.tmp 26), true, none⟩]) <|
 .skip))) (.amb (.seq (.ops [⟨some 21, .load 42 (.tmp 20), false, none⟩]) <|
 .amb (.seq (.ops [⟨some 23, .load 22 (.tmp 22), false, none⟩]) <|
 .seq (.ops [⟨some 5, .alloc 33, true, none⟩]) <|
 .seq (.ops [⟨some 17, .load 45 (.tmp 16), false, none⟩]) <|
 .seq (.ops [⟨some 24, .call ⟨.value (.func 19), #[(.tmp 17), (.tmp 21), (.tmp 23)], #[45, 42, 22]⟩, true, none⟩]) <|
 .seq (.ops [⟨some 13, .move (.tmp 24), false, none⟩]) <|
 .seq (.ops [⟨some 25, .extract (.tmp 13) 0, false, none⟩]) <|
 .seq (.ops [⟨some 26, .extract (.tmp 13) 1, false, none⟩]) <|
 .seq (.ops [⟨none, .store 63 (.tmp 4) (.tmp 25), true, none⟩]) <|
 .seq (.ops [⟨none, .store 33 (.tmp 5) (.tmp 26), true, none⟩]) <|
 .skip) (.seq (.ops [⟨some 5, .alloc 33, true, none⟩]) <|
 .seq (.ops [⟨some 17, .load 45 (.tmp 16), false, none⟩]) <|
 .seq (.ops [⟨some 23, .load 22 (.tmp 22), false, none⟩]) <|
 .seq (.ops [⟨some 24, .call ⟨.value (.func 19), #[(.tmp 17), (.tmp 21), (.tmp 23)], #[45, 42, 22]⟩, true, none⟩]) <|
 .seq (.ops [⟨some 13, .move (.tmp 24), false, none⟩]) <|
 .seq (.ops [⟨some 25, .extract (.tmp 13) 0, false, none⟩]) <|
 .seq (.ops [⟨some 26, .extract (.tmp 13) 1, false, none⟩]) <|
 .seq (.ops [⟨none, .store 63 (.tmp 4) (.tmp 25), true, none⟩]) <|
 .seq (.ops [⟨none, .store 33 (.tmp 5) (.tmp 26), true, none⟩]) <|
 .skip)) (.amb (.seq (.ops [⟨some 23, .load 22 (.tmp 22), false, none⟩]) <|
 .seq (.ops [⟨some 5, .alloc 33, true, none⟩]) <|
 .seq (.ops [⟨some 17, .load 45 (.tmp 16), false, none⟩]) <|
 .seq (.ops [⟨some 21, .load 42 (.tmp 20), false, none⟩]) <|
 .seq (.ops [⟨some 24, .call ⟨.value (.func 19), #[(.tmp 17), (.tmp 21), (.tmp 23)], #[45, 42, 22]⟩, true, none⟩]) <|
 .seq (.ops [⟨some 13, .move (.tmp 24), false, none⟩]) <|
 .seq (.ops [⟨some 25, .extract (.tmp 13) 0, false, none⟩]) <|
 .seq (.ops [⟨some 26, .extract (.tmp 13) 1, false, none⟩]) <|
 .seq (.ops [⟨none, .store 63 (.tmp 4) (.tmp 25), true, none⟩]) <|
 .seq (.ops [⟨none, .store 33 (.tmp 5) (.tmp 26), true, none⟩]) <|
 .skip) (.seq (.ops [⟨some 5, .alloc 33, true, none⟩]) <|
 .seq (.ops [⟨some 17, .load 45 (.tmp 16), false, none⟩]) <|
 .seq (.ops [⟨some 21, .load 42 (.tmp 20), false, none⟩]) <|
 .seq (.ops [⟨some 23, .load 22 (.tmp 22), false, none⟩]) <|
 .seq (.ops [⟨some 24, .call ⟨.value (.func 19), #[(.tmp 17), (.tmp 21), (.tmp 23)], #[45, 42, 22]⟩, true, none⟩]) <|
 .seq (.ops [⟨some 13, .move (.tmp 24), false, none⟩]) <|
 .seq (.ops [⟨some 25, .extract (.tmp 13) 0, false, none⟩]) <|
 .seq (.ops [⟨some 26, .extract (.tmp 13) 1, false, none⟩]) <|
 .seq (.ops [⟨none, .store 63 (.tmp 4) (.tmp 25), true, none⟩]) <|
 .seq (.ops [⟨none, .store 33 (.tmp 5) (.tmp 26), true, none⟩]) <|
 .skip)))) (.seq (.ops [⟨some 5, .alloc 33, true, none⟩]) <|
 .amb (.seq (.ops [⟨some 17, .load 45 (.tmp 16), false, none⟩]) <|
 .amb (.seq (.ops [⟨some 21, .load 42 (.tmp 20), false, none⟩]) <|
 .amb (.seq (.ops [⟨some 23, .load 22 (.tmp 22), false, none⟩]) <|
 .amb (.seq (.ops [⟨some 24, .call ⟨.value (.func 19), #[(.tmp 17), (.tmp 21), (.tmp 23)], #[45, 42, 22]⟩, true, none⟩]) <|
 .seq (.ops [⟨some 13, .move (.tmp 24), false, none⟩]) <|
 .seq (.ops [⟨some 25, .extract (.tmp 13) 0, false, none⟩]) <|
 .seq (.ops [⟨some 26, .extract (.tmp 13) 1, false, none⟩]) <|
 .seq (.ops [⟨some 4, .alloc 63, true, none⟩]) <|
 .seq (.ops [⟨none, .store 63 (.tmp 4) (.tmp 25), true, none⟩]) <|
 .seq (.ops [⟨none, .store 33 (.tmp 5) (.tmp 26), true, none⟩]) <|
 .skip) (.seq (.ops [⟨some 4, .alloc 63, true, none⟩]) <|
 .seq (.ops [⟨some 24, .call ⟨.value (.func 19), #[(.tmp 17), (.tmp 21), (.tmp 23)], #[45, 42, 22]⟩, true, none⟩]) <|
 .seq (.ops [⟨some 13, .move (.tmp 24), false, none⟩]) <|
 .seq (.ops [⟨some 25, .extract (.tmp 13) 0, false, none⟩]) <|
 .seq (.ops [⟨some 26, .extract (.tmp 13) 1, false, none⟩]) <|
 .seq (.ops [⟨none, .store 63 (.tmp 4) (.tmp 25), true, none⟩]) <|
 .seq (.ops [⟨none, .store 33 (.tmp 5) (.tmp 26), true, none⟩]) <|
 .skip)) (.seq (.ops [⟨some 4, .alloc 63, true, none⟩]) <|
 .seq (.ops [⟨some 23, .load 22 (.tmp 22), false, none⟩]) <|
 .seq (.ops [⟨some 24, .call ⟨.value (.func 19), #[(.tmp 17), (.tmp 21), (.tmp 23)], #[45, 42, 22]⟩, true, none⟩]) <|
 .seq (.ops [⟨some 13, .move (.tmp 24), false, none⟩]) <|
 .seq (.ops [⟨some 25, .extract (.tmp 13) 0, false, none⟩]) <|
 .seq (.ops [⟨some 26, .extract (.tmp 13) 1, false, none⟩]) <|
 .seq (.ops [⟨none, .store 63 (.tmp 4) (.tmp 25), true, none⟩]) <|
 .seq (.ops [⟨none, .store 33 (.tmp 5) (.tmp 26), true, none⟩]) <|
 .skip)) (.amb (.seq (.ops [⟨some 23, .load 22 (.tmp 22), false, none⟩]) <|
 .seq (.ops [⟨some 4, .alloc 63, true, none⟩]) <|
 .seq (.ops [⟨some 21, .load 42 (.tmp 20), false, none⟩]) <|
 .seq (.ops [⟨some 24, .call ⟨.value (.func 19), #[(.tmp 17), (.tmp 21), (.tmp 23)], #[45, 42, 22]⟩, true, none⟩]) <|
 .seq (.ops [⟨some 13, .move (.tmp 24), false, none⟩]) <|
 .seq (.ops [⟨some 25, .extract (.tmp 13) 0, false, none⟩]) <|
 .seq (.ops [⟨some 26, .extract (.tmp 13) 1, false, none⟩]) <|
 .seq (.ops [⟨none, .store 63 (.tmp 4) (.tmp 25), true, none⟩]) <|
 .seq (.ops [⟨none, .store 33 (.tmp 5) (.tmp 26), true, none⟩]) <|
 .skip) (.seq (.ops [⟨some 4, .alloc 63, true, none⟩]) <|
 .seq (.ops [⟨some 21, .load 42 (.tmp 20), false, none⟩]) <|
 .seq (.ops [⟨some 23, .load 22 (.tmp 22), false, none⟩]) <|
 .seq (.ops [⟨some 24, .call ⟨.value (.func 19), #[(.tmp 17), (.tmp 21), (.tmp 23)], #[45, 42, 22]⟩, true, none⟩]) <|
 .seq (.ops [⟨some 13, .move (.tmp 24), false, none⟩]) <|
 .seq (.ops [⟨some 25, .extract (.tmp 13) 0, false, none⟩]) <|
 .seq (.ops [⟨some 26, .extract (.tmp 13) 1, false, none⟩]) <|
 .seq (.ops [⟨none, .store 63 (.tmp 4) (.tmp 25), true, none⟩]) <|
 .seq (.ops [⟨none, .store 33 (.tmp 5) (.tmp 26), true, none⟩]) <|
 .skip))) (.amb (.seq (.ops [⟨some 21, .load 42 (.tmp 20), false, none⟩]) <|
 .amb (.seq (.ops [⟨some 23, .load 22 (.tmp 22), false, none⟩]) <|
 .seq (.ops [⟨some 4, .alloc 63, true, none⟩]) <|
 .seq (.ops [⟨some 17, .load 45 (.tmp 16), false, none⟩]) <|
 .seq (.ops [⟨some 24, .call ⟨.value (.func 19), #[(.tmp 17), (.tmp 21), (.tmp 23)], #[45, 42, 22]⟩, true, none⟩]) <|
 .seq (.ops [⟨some 13, .move (.tmp 24), false, none⟩]) <|
 .seq (.ops [⟨some 25, .extract (.tmp 13) 0, false, none⟩]) <|
 .seq (.ops [⟨some 26, .extract (.tmp 13) 1, false, none⟩]) <|
 .seq (.ops [⟨none, .store 63 (.tmp 4) (.tmp 25), true, none⟩]) <|
 .seq (.ops [⟨none, .store 33 (.tmp 5) (.tmp 26), true, none⟩]) <|
 .skip) (.seq (.ops [⟨some 4, .alloc 63, true, none⟩]) <|
 .seq (.ops [⟨some 17, .load 45 (.tmp 16), false, none⟩]) <|
 .seq (.ops [⟨some 23, .load 22 (.tmp 22), false, none⟩]) <|
 .seq (.ops [⟨some 24, .call ⟨.value (.func 19), #[(.tmp 17), (.tmp 21), (.tmp 23)], #[45, 42, 22]⟩, true, none⟩]) <|
 .seq (.ops [⟨some 13, .move (.tmp 24), false, none⟩]) <|
 .seq (.ops [⟨some 25, .extract (.tmp 13) 0, false, none⟩]) <|
 .seq (.ops [⟨some 26, .extract (.tmp 13) 1, false, none⟩]) <|
 .seq (.ops [⟨none, .store 63 (.tmp 4) (.tmp 25), true, none⟩]) <|
 .seq (.ops [⟨none, .store 33 (.tmp 5) (.tmp 26), true, none⟩]) <|
 .skip)) (.amb (.seq (.ops [⟨some 23, .load 22 (.tmp 22), false, none⟩]) <|
 .seq (.ops [⟨some 4, .alloc 63, true, none⟩]) <|
 .seq (.ops [⟨some 17, .load 45 (.tmp 16), false, none⟩]) <|
 .seq (.ops [⟨some 21, .load 42 (.tmp 20), false, none⟩]) <|
 .seq (.ops [⟨some 24, .call ⟨.value (.func 19), #[(.tmp 17), (.tmp 21), (.tmp 23)], #[45, 42, 22]⟩, true, none⟩]) <|
 .seq (.ops [⟨some 13, .move (.tmp 24), false, none⟩]) <|
 .seq (.ops [⟨some 25, .extract (.tmp 13) 0, false, none⟩]) <|
 .seq (.ops [⟨some 26, .extract (.tmp 13) 1, false, none⟩]) <|
 .seq (.ops [⟨none, .store 63 (.tmp 4) (.tmp 25), true, none⟩]) <|
 .seq (.ops [⟨none, .store 33 (.tmp 5) (.tmp 26), true, none⟩]) <|
 .skip) (.seq (.ops [⟨some 4, .alloc 63, true, none⟩]) <|
 .seq (.ops [⟨some 17, .load 45 (.tmp 16), false, none⟩]) <|
 .seq (.ops [⟨some 21, .load 42 (.tmp 20), false, none⟩]) <|
 .seq (.ops [⟨some 23, .load 22 (.tmp 22), false, none⟩]) <|
 .seq (.ops [⟨some 24, .call ⟨.value (.func 19), #[(.tmp 17), (.tmp 21), (.tmp 23)], #[45, 42, 22]⟩, true, none⟩]) <|
 .seq (.ops [⟨some 13, .move (.tmp 24), false, none⟩]) <|
 .seq (.ops [⟨some 25, .extract (.tmp 13) 0, false, none⟩]) <|
 .seq (.ops [⟨some 26, .extract (.tmp 13) 1, false, none⟩]) <|
 .seq (.ops [⟨none, .store 63 (.tmp 4) (.tmp 25), true, none⟩]) <|
 .seq (.ops [⟨none, .store 33 (.tmp 5) (.tmp 26), true, none⟩]) <|
 .skip)))))))
theorem q9_0 : (Tryz.f9.body.bind fun c => (regs c)[0]?).bind (regO Tryz.prog) = some t9_0 := by kernel_rfl
-- (*marionette/hart.Hart).Step
abbrev kp9 : List Nat := [2]
def s9 : SC :=
 .seq (.ops [⟨some 2, .alloc 33, true, none⟩]) <|
 .seq (.keep [0, 2]) <|
 .seq (.seq (.ops [⟨some 6, .move (.tmp 0), false, none⟩,
  ⟨some 7, .binOp .eql 28 (.tmp 6) (.const (.pointer none)) 28, false, none⟩]) <|
 .seq (.keep [0, 2, 7]) <|
 .cond (.tmp 7) (.seq (.ops [⟨some 8, .build 33 #[(0, (.const (.int .i64 3)))], false, none⟩,
  ⟨none, .store 33 (.tmp 2) (.tmp 8), true, none⟩]) <|
 .seq (.keep [2]) <|
 .ret) <|
 .skip) <|
 .seq (.keep [0, 2]) <|
 .seq (.ops [⟨some 9, .move (.tmp 0), false, none⟩,
  ⟨some 10, .nilCheck (.tmp 9), false, none⟩,
  ⟨some 11, .fieldAddr 47 (.tmp 10) 0, false, none⟩,
  ⟨some 12, .load 27 (.tmp 11), false, none⟩,
  ⟨some 3, .alloc 27, true, none⟩,
  ⟨none, .store 27 (.tmp 3) (.tmp 12), true, none⟩]) <|
 .seq (.keep [0, 2, 3]) <|
 .seq (.seq (.ops [⟨some 14, .move (.tmp 0), false, none⟩]) <|
 .seq (.ops [⟨some 15, .nilCheck (.tmp 14), false, none⟩]) <|
 .seq (.ops [⟨some 16, .fieldAddr 47 (.tmp 15) 2, false, none⟩]) <|
 .seq (.ops [⟨some 18, .move (.tmp 0), false, none⟩]) <|
 .seq (.ops [⟨some 19, .nilCheck (.tmp 18), false, none⟩]) <|
 .seq (.ops [⟨some 20, .fieldAddr 47 (.tmp 19) 1, false, none⟩]) <|
 .seq (.ops [⟨some 22, .fieldAddr 27 (.tmp 3) 0, false, none⟩]) <|
 .amb (.seq (.ops [⟨some 17, .load 45 (.tmp 16), false, none⟩]) <|
 .amb (.seq (.ops [⟨some 21, .load 42 (.tmp 20), false, none⟩]) <|
 .amb (.seq (.ops [⟨some 23, .load 22 (.tmp 22), false, none⟩]) <|
 .amb (.seq (.ops [⟨some 24, .call ⟨.value (.func 19), #[(.tmp 17), (.tmp 21), (.tmp 23)], #[45, 42, 22]⟩, true, none⟩]) <|
 .seq (.ops [⟨some 13, .move (.tmp 24), false, none⟩]) <|
 .seq (.ops [⟨some 25, .extract (.tmp 13) 0, false, none⟩]) <|
 .seq (.ops [⟨some 26, .extract (.tmp 13) 1, false, none⟩]) <|
 .amb (.seq (.ops [⟨some 4, .alloc 63, true, none⟩]) <|
 .seq (.ops [⟨some 5, .alloc 33, true, none⟩]) <|
 .seq (.ops [⟨none, .store 63 (.tmp 4) (.tmp 25), true, none⟩]) <|
 .seq (.ops [⟨none, .store 33 (.tmp 5) (.tmp 26), true, none⟩]) <|
 .skip) (.seq (.ops [⟨some 5, .alloc 33, true, none⟩]) <|
 .seq (.ops [⟨some 4, .alloc 63, true, none⟩]) <|
 .seq (.ops [⟨none, .store 63 (.tmp 4) (.tmp 25), true, none⟩]) <|
 .seq (.ops [⟨none, .store 33 (.tmp 5) (.tmp 26), true, none⟩]) <|
 .skip)) (.amb (.seq (.ops [⟨some 4, .alloc 63, true, none⟩]) <|
 .amb (.seq (.ops [⟨some 24, .call ⟨.value (.func 19), #[(.tmp 17), (.tmp 21), (.tmp 23)], #[45, 42, 22]⟩, true, none⟩]) <|
 .seq (.ops [⟨some 13, .move (.tmp 24), false, none⟩]) <|
 .seq (.ops [⟨some 25, .extract (.tmp 13) 0, false, none⟩]) <|
 .seq (.ops [⟨some 26, .extract (.tmp 13) 1, false, none⟩]) <|
 .seq (.ops [⟨some 5, .alloc 33, true, none⟩]) <|
 .seq (.ops [⟨none, .store 63 (.tmp 4) (.tmp 25), true, none⟩]) <|
 .seq (.ops [⟨none, .store 33 (.tmp 5) (.tmp 26), true, none⟩]) <|
 .skip) (.seq (.ops [⟨some 5, .alloc 33, true, none⟩]) <|
 .seq (.ops [⟨some 24, .call ⟨.value (.func 19), #[(.tmp 17), (.tmp 21), (.tmp 23)], #[45, 42, 22]⟩, true, none⟩]) <|
 .seq (.ops [⟨some 13, .move (.tmp 24), false, none⟩]) <|
 .seq (.ops [⟨some 25, .extract (.tmp 13) 0, false, none⟩]) <|
 .seq (.ops [⟨some 26, .extract (.tmp 13) 1, false, none⟩]) <|
 .seq (.ops [⟨none, .store 63 (.tmp 4) (.tmp 25), true, none⟩]) <|
 .seq (.ops [⟨none, .store 33 (.tmp 5) (.tmp 26), true, none⟩]) <|
 .skip)) (.seq (.ops [⟨some 5, .alloc 33, true, none⟩]) <|
 .amb (.seq (.ops [⟨some 24, .call ⟨.value (.func 19), #[(.tmp 17), (.tmp 21), (.tmp 23)], #[45, 42, 22]⟩, true, none⟩]) <|
 .seq (.ops [⟨some 13, .move (.tmp 24), false, none⟩]) <|
 .seq (.ops [⟨some 25, .extract (.tmp 13) 0, false, none⟩]) <|
 .seq (.ops [⟨some 26, .extract (.tmp 13) 1, false, none⟩]) <|
 .seq (.ops [⟨some 4, .alloc 63, true, none⟩]) <|
 .seq (.ops [⟨none, .store 63 (.tmp 4) (.tmp 25), true, none⟩]) <|
 .seq (.ops [⟨none, .store 33 (.tmp 5) (.tmp 26), true, none⟩]) <|
 .skip) (.seq (.ops [⟨some 4, .alloc 63, true, none⟩]) <|
 .seq (.ops [⟨some 24, .call ⟨.value (.func 19), #[(.tmp 17), (.tmp 21), (.tmp 23)], #[45, 42, 22]⟩, true, none⟩]) <|
 .seq (.ops [⟨some 13, .move (.tmp 24), false, none⟩]) <|
 .seq (.ops [⟨some 25, .extract (.tmp 13) 0, false, none⟩]) <|
 .seq (.ops [⟨some 26, .extract (.tmp 13) 1, false, none⟩]) <|
 .seq (.ops [⟨none, .store 63 (.tmp 4) (.tmp 25), true, none⟩]) <|
 .seq (.ops [⟨none, .store 33 (.tmp 5) (.tmp 26), true, none⟩]) <|
 .skip)))) (.amb (.seq (.ops [⟨some 4, .alloc 63, true, none⟩]) <|
 .amb (.seq (.ops [⟨some 23, .load 22 (.tmp 22), false, none⟩]) <|
 .amb (.seq (.ops [⟨some 24, .call ⟨.value (.func 19), #[(.tmp 17), (.tmp 21), (.tmp 23)], #[45, 42, 22]⟩, true, none⟩]) <|
 .seq (.ops [⟨some 13, .move (.tmp 24), false, none⟩]) <|
 .seq (.ops [⟨some 25, .extract (.tmp 13) 0, false, none⟩]) <|
 .seq (.ops [⟨some 26, .extract (.tmp 13) 1, false, none⟩]) <|
 .seq (.ops [⟨some 5, .alloc 33, true, none⟩]) <|
 .seq (.ops [⟨none, .store 63 (.tmp 4) (.tmp 25), true, none⟩]) <|
 .seq (.ops [⟨none, .store 33 (.tmp 5) (.tmp 26), true, none⟩]) <|
 .skip) (.seq (.ops [⟨some 5, .alloc 33, true, none⟩]) <|
 .seq (.ops [⟨some 24, .call ⟨.value (.func 19), #[(.tmp 17), (.tmp 21), (.tmp 23)], #[45, 42, 22]⟩, true, none⟩]) <|
 .seq (.ops [⟨some 13, .move (.tmp 24), false, none⟩]) <|
 .seq (.ops [⟨some 25, .extract (.tmp 13) 0, false, none⟩]) <|
 .seq (.ops [⟨some 26, .extract (.tmp 13) 1, false, none⟩]) <|
 .seq (.ops [⟨none, .store 63 (.tmp 4) (.tmp 25), true, none⟩]) <|
 .seq (.ops [⟨none, .store 33 (.tmp 5) (.tmp 26), true, none⟩]) <|
 .skip)) (.seq (.ops [⟨some 5, .alloc 33, true, none⟩]) <|
 .seq (.ops [⟨some 23, .load 22 (.tmp 22), false, none⟩]) <|
 .seq (.ops [⟨some 24, .call ⟨.value (.func 19), #[(.tmp 17), (.tmp 21), (.tmp 23)], #[45, 42, 22]⟩, true, none⟩]) <|
 .seq (.ops [⟨some 13, .move (.tmp 24), false, none⟩]) <|
 .seq (.ops [⟨some 25, .extract (.tmp 13) 0, false, none⟩]) <|
 .seq (.ops [⟨some 26, .extract (.tmp 13) 1, false, none⟩]) <|
 .seq (.ops [⟨none, .store 63 (.tmp 4) (.tmp 25), true, none⟩]) <|
 .seq (.ops [⟨none, .store 33 (.tmp 5) (.tmp 26), true, none⟩]) <|
 .skip)) (.seq (.ops [⟨some 5, .alloc 33, true, none⟩]) <|
 .amb (.seq (.ops [⟨some 23, .load 22 (.tmp 22), false, none⟩]) <|
 .amb (.seq (.ops [⟨some 24, .call ⟨.value (.func 19), #[(.tmp 17), (.tmp 21), (.tmp 23)], #[45, 42, 22]⟩, true, none⟩]) <|
 .seq (.ops [⟨some 13, .move (.tmp 24), false, none⟩]) <|
 .seq (.ops [⟨some 25, .extract (.tmp 13) 0, false, none⟩]) <|
 .seq (.ops [⟨some 26, .extract (.tmp 13) 1, false, none⟩]) <|
 .seq (.ops [⟨some 4, .alloc 63, true, none⟩]) <|
 .seq (.ops [⟨none, .store 63 (.tmp 4) (.tmp 25), true, none⟩]) <|
 .seq (.ops [⟨none, .store 33 (.tmp 5) (.tmp 26), true, none⟩]) <|
 .skip) (.seq (.ops [⟨some 4, .alloc 63, true, none⟩]) <|
 .seq (.ops [⟨some 24, .call ⟨.value (.func 19), #[(.tmp 17), (.tmp 21), (.tmp 23)], #[45, 42, 22]⟩, true, none⟩]) <|
 .seq (.ops [⟨some 13, .move (.tmp 24), false, none⟩]) <|
 .seq (.ops [⟨some 25, .extract (.tmp 13) 0, false, none⟩]) <|
 .seq (.ops [⟨some 26, .extract (.tmp 13) 1, false, none⟩]) <|
 .seq (.ops [⟨none, .store 63 (.tmp 4) (.tmp 25), true, none⟩]) <|
 .seq (.ops [⟨none, .store 33 (.tmp 5) (.tmp 26), true, none⟩]) <|
 .skip)) (.seq (.ops [⟨some 4, .alloc 63, true, none⟩]) <|
 .seq (.ops [⟨some 23, .load 22 (.tmp 22), false, none⟩]) <|
 .seq (.ops [⟨some 24, .call ⟨.value (.func 19), #[(.tmp 17), (.tmp 21), (.tmp 23)], #[45, 42, 22]⟩, true, none⟩]) <|
 .seq (.ops [⟨some 13, .move (.tmp 24), false, none⟩]) <|
 .seq (.ops [⟨some 25, .extract (.tmp 13) 0, false, none⟩]) <|
 .seq (.ops [⟨some 26, .extract (.tmp 13) 1, false, none⟩]) <|
 .seq (.ops [⟨none, .store 63 (.tmp 4) (.tmp 25), true, none⟩]) <|
 .seq (.ops [⟨none, .store 33 (.tmp 5) (.tmp 26), true, none⟩]) <|
 .skip)))) (.amb (.seq (.ops [⟨some 23, .load 22 (.tmp 22), false, none⟩]) <|
 .amb (.seq (.ops [⟨some 4, .alloc 63, true, none⟩]) <|
 .amb (.seq (.ops [⟨some 21, .load 42 (.tmp 20), false, none⟩]) <|
 .amb (.seq (.ops [⟨some 24, .call ⟨.value (.func 19), #[(.tmp 17), (.tmp 21), (.tmp 23)], #[45, 42, 22]⟩, true, none⟩]) <|
 .seq (.ops [⟨some 13, .move (.tmp 24), false, none⟩]) <|
 .seq (.ops [⟨some 25, .extract (.tmp 13) 0, false, none⟩]) <|
 .seq (.ops [⟨some 26, .extract (.tmp 13) 1, false, none⟩]) <|
 .seq (.ops [⟨some 5, .alloc 33, true, none⟩]) <|
 .seq (.ops [⟨none, .store 63 (.tmp 4) (.tmp 25), true, none⟩]) <|
 .seq (.ops [⟨none, .store 33 (.tmp 5) (.tmp 26), true, none⟩]) <|
 .skip) (.seq (.ops [⟨some 5, .alloc 33, true, none⟩]) <|
 .seq (.ops [⟨some 24, .call ⟨.value (.func 19), #[(.tmp 17), (.tmp 21), (.tmp 23)], #[45, 42, 22]⟩, true, none⟩]) <|
 .seq (.ops [⟨some 13, .move (.tmp 24), false, none⟩]) <|
 .seq (.ops [⟨some 25, .extract (.tmp 13) 0, false, none⟩]) <|
 .seq (.ops [⟨some 26, .extract (.tmp 13) 1, false, none⟩]) <|
 .seq (.ops [⟨none, .store 63 (.tmp 4) (.tmp 25), true, none⟩]) <|
 .seq (.ops [⟨none, .store 33 (.tmp 5) (.tmp 26), true, none⟩]) <|
 .skip)) (.seq (.ops [⟨some 5, .alloc 33, true, none⟩]) <|
 .seq (.ops [⟨some 21, .load 42 (.tmp 20), false, none⟩]) <|
 .seq (.ops [⟨some 24, .call ⟨.value (.func 19), #[(.tmp 17), (.tmp 21), (.tmp 23)], #[45, 42, 22]⟩, true, none⟩]) <|
 .seq (.ops [⟨some 13, .move (.tmp 24), false, none⟩]) <|
 .seq (.ops [⟨some 25, .extract (.tmp 13) 0, false, none⟩]) <|
 .seq (.ops [⟨some 26, .extract (.tmp 13) 1, false, none⟩]) <|
 .seq (.ops [⟨none, .store 63 (.tmp 4) (.tmp 25), true, none⟩]) <|
 .seq (.ops [⟨none, .store 33 (.tmp 5) (.tmp 26), true, none⟩]) <|
 .skip)) (.seq (.ops [⟨some 5, .alloc 33, true, none⟩]) <|
 .amb (.seq (.ops [⟨some 21, .load 42 (.tmp 20), false, none⟩]) <|
 .amb (.seq (.ops [⟨some 24, .call ⟨.value (.func 19), #[(.tmp 17), (.tmp 21), (.tmp 23)], #[45, 42, 22]⟩, true, none⟩]) <|
 .seq (.ops [⟨some 13, .move (.tmp 24), false, none⟩]) <|
 .seq (.ops [⟨some 25, .extract (.tmp 13) 0, false, none⟩]) <|
 .seq (.ops [⟨some 26, .extract (.tmp 13) 1, false, none⟩]) <|
 .seq (.ops [⟨some 4, .alloc 63, true, none⟩]) <|
 .seq (.ops [⟨none, .store 63 (.tmp 4) (.tmp 25), true, none⟩]) <|
 .seq (.ops [⟨none, .store 33 (.tmp 5) (.tmp 26), true, none⟩]) <|
 .skip) (.seq (.ops [⟨some 4, .alloc 63, true, none⟩]) <|
 .seq (.ops [⟨some 24, .call ⟨.value (.func 19), #[(.tmp 17), (.tmp 21), (.tmp 23)], #[45, 42, 22]⟩, true, none⟩]) <|
 .seq (.ops [⟨some 13, .move (.tmp 24), false, none⟩]) <|
 .seq (.ops [⟨some 25, .extract (.tmp 13) 0, false, none⟩]) <|
 .seq (.ops [⟨some 26, .extract (.tmp 13) 1, false, none⟩]) <|
 .seq (.ops [⟨none, .store 63 (.tmp 4) (.tmp 25), true, none⟩]) <|
 .seq (.ops [⟨none, .store 33 (.tmp 5) (.tmp 26), true, none⟩]) <|
 .skip)) (.seq (.ops [⟨some 4, .alloc 63, true, none⟩]) <|
 .seq (.ops [⟨some 21, .load 42 (.tmp 20), false, none⟩]) <|
 .seq (.ops [⟨some 24, .call ⟨.value (.func 19), #[(.tmp 17), (.tmp 21), (.tmp 23)], #[45, 42, 22]⟩, true, none⟩]) <|
 .seq (.ops [⟨some 13, .move (.tmp 24), false, none⟩]) <|
 .seq (.ops [⟨some 25, .extract (.tmp 13) 0, false, none⟩]) <|
 .seq (.ops [⟨some 26, .extract (.tmp 13) 1, false, none⟩]) <|
 .seq (.ops [⟨none, .store 63 (.tmp 4) (.tmp 25), true, none⟩]) <|
 .seq (.ops [⟨none, .store 33 (.tmp 5) (.tmp 26), true, none⟩]) <|
 .skip))) (.amb (.seq (.ops [⟨some 4, .alloc 63, true, none⟩]) <|
 .amb (.seq (.ops [⟨some 21, .load 42 (.tmp 20), false, none⟩]) <|
 .amb (.seq (.ops [⟨some 23, .load 22 (.tmp 22), false, none⟩]) <|
 .amb (.seq (.ops [⟨some 24, .call ⟨.value (.func 19), #[(.tmp 17), (.tmp 21), (.tmp 23)], #[45, 42, 22]⟩, true, none⟩]) <|
 .seq (.ops [⟨some 13, .move (.tmp 24), false, none⟩]) <|
 .seq (.ops [⟨some 25, .extract (.tmp 13) 0, false, none⟩]) <|
 .seq (.ops [⟨some 26, .extract (.tmp 13) 1, false, none⟩]) <|
 .seq (.ops [⟨some 5, .alloc 33, true, none⟩]) <|
 .seq (.ops [⟨none, .store 63 (.tmp 4) (.tmp 25), true, none⟩]) <|
 .seq (.ops [⟨none, .store 33 (.tmp 5) (.tmp 26), true, none⟩]) <|
 .skip) (.seq (.ops [⟨some 5, .alloc 33, true, none⟩]) <|
 .seq (.ops [⟨some 24, .call ⟨.value (.func 19), #[(.tmp 17), (.tmp 21), (.tmp 23)], #[45, 42, 22]⟩, true, none⟩]) <|
 .seq (.ops [⟨some 13, .move (.tmp 24), false, none⟩]) <|
 .seq (.ops [⟨some 25, .extract (.tmp 13) 0, false, none⟩]) <|
 .seq (.ops [⟨some 26, .extract (.tmp 13) 1, false, none⟩]) <|
 .seq (.ops [⟨none, .store 63 (.tmp 4) (.tmp 25), true, none⟩]) <|
 .seq (.ops [⟨none, .store 33 (.tmp 5) (.tmp 26), true, none⟩]) <|
 .skip)) (.seq (.ops [⟨some 5, .alloc 33, true, none⟩]) <|
 .seq (.ops [⟨some 23, .load 22 (.tmp 22), false, none⟩]) <|
 .seq (.ops [⟨some 24, .call ⟨.value (.func 19), #[(.tmp 17), (.tmp 21), (.tmp 23)], #[45, 42, 22]⟩, true, none⟩]) <|
 .seq (.ops [⟨some 13, .move (.tmp 24), false, none⟩]) <|
 .seq (.ops [⟨some 25, .extract (.tmp 13) 0, false, none⟩]) <|
 .seq (.ops [⟨some 26, .extract (.tmp 13) 1, false, none⟩]) <|
 .seq (.ops [⟨none, .store 63 (.tmp 4) (.tmp 25), true, none⟩]) <|
 .seq (.ops [⟨none, .store 33 (.tmp 5) (.tmp 26), true, none⟩]) <|
 .skip)) (.amb (.seq (.ops [⟨some 23, .load 22 (.tmp 22), false, none⟩]) <|
 .seq (.ops [⟨some 5, .alloc 33, true, none⟩]) <|
 .seq (.ops [⟨some 21, .load 42 (.tmp 20), false, none⟩]) <|
 .seq (.ops [⟨some 24, .call ⟨.value (.func 19), #[(.tmp 17), (.tmp 21), (.tmp 23)], #[45, 42, 22]⟩, true, none⟩]) <|
 .seq (.ops [⟨some 13, .move (.tmp 24), false, none⟩]) <|
 .seq (.ops [⟨some 25, .extract (.tmp 13) 0, false, none⟩]) <|
 .seq (.ops [⟨some 26, .extract (.tmp 13) 1, false, none⟩]) <|
 .seq (.ops [⟨none, .store 63 (.tmp 4) (.tmp 25), true, none⟩]) <|
 .seq (.ops [⟨none, .store 33 (.tmp 5) (.tmp 26), true, none⟩]) <|
 .skip) (.seq (.ops [⟨some 5, .alloc 33, true, none⟩]) <|
 .seq (.ops [⟨some 21, .load 42 (.tmp 20), false, none⟩]) <|
 .seq (.ops [⟨some 23, .load 22 (.tmp 22), false, none⟩]) <|
 .seq (.ops [⟨some 24, .call ⟨.value (.func 19), #[(.tmp 17), (.tmp 21), (.tmp 23)], #[45, 42, 22]⟩, true, none⟩]) <|
 .seq (.ops [⟨some 13, .move (.tmp 24), false, none⟩]) <|
 .seq (.ops [⟨some 25, .extract (.tmp 13) 0, false, none⟩]) <|
 .seq (.ops [⟨some 26, .extract (.tmp 13) 1, false, none⟩]) <|
 .seq (.ops [⟨none, .store 63 (.tmp 4) (.tmp 25), true, none⟩]) <|
 .seq (.ops [⟨none, .store 33 (.tmp 5) (.tmp 26), true, none⟩]) <|
 .skip))) (.seq (.ops [⟨some 5, .alloc 33, true, none⟩]) <|
 .amb (.seq (.ops [⟨some 21, .load 42 (.tmp 20), false, none⟩]) <|
 .amb (.seq (.ops [⟨some 23, .load 22 (.tmp 22), false, none⟩]) <|
 .amb (.seq (.ops [⟨some 24, .call ⟨.value (.func 19), #[(.tmp 17), (.tmp 21), (.tmp 23)], #[45, 42, 22]⟩, true, none⟩]) <|
 .seq (.ops [⟨some 13, .move (.tmp 24), false, none⟩]) <|
 .seq (.ops [⟨some 25, .extract (.tmp 13) 0, false, none⟩]) <|
 .seq (.ops [⟨some 26, .extract (.tmp 13) 1, false, none⟩]) <|
 .seq (.ops [⟨some 4, .alloc 63, true, none⟩]) <|
 .seq (.ops [⟨none, .store 63 (.tmp 4) (.tmp 25), true, none⟩]) <|
 .seq (.ops [⟨none, .store 33 (.tmp 5) (.tmp 26), true, none⟩]) <|
 .skip) (.seq (.ops [⟨some 4, .alloc 63, true, none⟩]) <|
 .seq (.ops [⟨some 24, .call ⟨.value (.func 19), #[(.tmp 17), (.tmp 21), (.tmp 23)], #[45, 42, 22]⟩, true, none⟩]) <|
 .seq (.ops [⟨some 13, .move (.tmp 24), false, none⟩]) <|
 .seq (.ops [⟨some 25, .extract (.tmp 13) 0, false, none⟩]) <|
 .seq (.ops [⟨some 26, .extract (.tmp 13) 1, false, none⟩]) <|
 .seq (.ops [⟨none, .store 63 (.tmp 4) (.tmp 25), true, none⟩]) <|
 .seq (.ops [⟨none, .store 33 (.tmp 5) (.tmp 26), true, none⟩]) <|
 .skip)) (.seq (.ops [⟨some 4, .alloc 63, true, none⟩]) <|
 .seq (.ops [⟨some 23, .load 22 (.tmp 22), false, none⟩]) <|
 .seq (.ops [⟨some 24, .call ⟨.value (.func 19), #[(.tmp 17), (.tmp 21), (.tmp 23)], #[45, 42, 22]⟩, true, none⟩]) <|
 .seq (.ops [⟨some 13, .move (.tmp 24), false, none⟩]) <|
 .seq (.ops [⟨some 25, .extract (.tmp 13) 0, false, none⟩]) <|
 .seq (.ops [⟨some 26, .extract (.tmp 13) 1, false, none⟩]) <|
 .seq (.ops [⟨none, .store 63 (.tmp 4) (.tmp 25), true, none⟩]) <|
 .seq (.ops [⟨none, .store 33 (.tmp 5) (.tmp 26), true, none⟩]) <|
 .skip)) (.amb (.seq (.ops [⟨some 23, .load 22 (.tmp 22), false, none⟩]) <|
 .seq (.ops [⟨some 4, .alloc 63, true, none⟩]) <|
 .seq (.ops [⟨some 21, .load 42 (.tmp 20), false, none⟩]) <|
 .seq (.ops [⟨some 24, .call ⟨.value (.func 19), #[(.tmp 17), (.tmp 21), (.tmp 23)], #[45, 42, 22]⟩, true, none⟩]) <|
 .seq (.ops [⟨some 13, .move (.tmp 24), false, none⟩]) <|
 .seq (.ops [⟨some 25, .extract (.tmp 13) 0, false, none⟩]) <|
 .seq (.ops [⟨some 26, .extract (.tmp 13) 1, false, none⟩]) <|
 .seq (.ops [⟨none, .store 63 (.tmp 4) (.tmp 25), true, none⟩]) <|
 .seq (.ops [⟨none, .store 33 (.tmp 5) (.tmp 26), true, none⟩]) <|
 .skip) (.seq (.ops [⟨some 4, .alloc 63, true, none⟩]) <|
 .seq (.ops [⟨some 21, .load 42 (.tmp 20), false, none⟩]) <|
 .seq (.ops [⟨some 23, .load 22 (.tmp 22), false, none⟩]) <|
 .seq (.ops [⟨some 24, .call ⟨.value (.func 19), #[(.tmp 17), (.tmp 21), (.tmp 23)], #[45, 42, 22]⟩, true, none⟩]) <|
 .seq (.ops [⟨some 13, .move (.tmp 24), false, none⟩]) <|
 .seq (.ops [⟨some 25, .extract (.tmp 13) 0, false, none⟩]) <|
 .seq (.ops [⟨some 26, .extract (.tmp 13) 1, false, none⟩]) <|
 .seq (.ops [⟨none, .store 63 (.tmp 4) (.tmp 25), true, none⟩]) <|
 .seq (.ops [⟨none, .store 33 (.tmp 5) (.tmp 26), true, none⟩]) <|
 .skip)))))) (.amb (.seq (.ops [⟨some 21, .load 42 (.tmp 20), false, none⟩]) <|
 .amb (.seq (.ops [⟨some 23, .load 22 (.tmp 22), false, none⟩]) <|
 .amb (.seq (.ops [⟨some 4, .alloc 63, true, none⟩]) <|
 .amb (.seq (.ops [⟨some 17, .load 45 (.tmp 16), false, none⟩]) <|
 .amb (.seq (.ops [⟨some 24, .call ⟨.value (.func 19), #[(.tmp 17), (.tmp 21), (.tmp 23)], #[45, 42, 22]⟩, true, none⟩]) <|
 .seq (.ops [⟨some 13, .move (.tmp 24), false, none⟩]) <|
 .seq (.ops [⟨some 25, .extract (.tmp 13) 0, false, none⟩]) <|
 .seq (.ops [⟨some 26, .extract (.tmp 13) 1, false, none⟩]) <|
 .seq (.ops [⟨some 5, .alloc 33, true, none⟩]) <|
 .seq (.ops [⟨none, .store 63 (.tmp 4) (.tmp 25), true, none⟩]) <|
 .seq (.ops [⟨none, .store 33 (.tmp 5) (.tmp 26), true, none⟩]) <|
 .skip) (.seq (.ops [⟨some 5, .alloc 33, true, none⟩]) <|
 .seq (.ops [⟨some 24, .call ⟨.value (.func 19), #[(.tmp 17), (.tmp 21), (.tmp 23)], #[45, 42, 22]⟩, true, none⟩]) <|
 .seq (.ops [⟨some 13, .move (.tmp 24), false, none⟩]) <|
 .seq (.ops [⟨some 25, .extract (.tmp 13) 0, false, none⟩]) <|
 .seq (.ops [⟨some 26, .extract (.tmp 13) 1, false, none⟩]) <|
 .seq (.ops [⟨none, .store 63 (.tmp 4) (.tmp 25), true, none⟩]) <|
 .seq (.ops [⟨none, .store 33 (.tmp 5) (.tmp 26), true, none⟩]) <|
 .skip)) (.seq (.ops [⟨some 5, .alloc 33, true, none⟩]) <|
 .seq (.ops [⟨some 17, .load 45 (.tmp 16), false, none⟩]) <|
 .seq (.ops [⟨some 24, .call ⟨.value (.func 19), #[(.tmp 17), (.tmp 21), (.tmp 23)], #[45, 42, 22]⟩, true, none⟩]) <|
 .seq (.ops [⟨some 13, .move (.tmp 24), false, none⟩]) <|
 .seq (.ops [⟨some 25, .extract (.tmp 13) 0, false, none⟩]) <|
 .seq (.ops [⟨some 26, .extract (.tmp 13) 1, false, none⟩]) <|
 .seq (.ops [⟨none, .store 63 (.tmp 4) (.tmp 25), true, none⟩]) <|
 .seq (.ops [⟨none, .store 33 (.tmp 5) (.tmp 26), true, none⟩]) <|
 .skip)) (.seq (.ops [⟨some 5, .alloc 33, true, none⟩]) <|
 .amb (.seq (.ops [⟨some 17, .load 45 (.tmp 16), false, none⟩]) <|
 .amb (.seq (.ops [⟨some 24, .call ⟨.value (.func 19), #[(.tmp 17), (.tmp 21), (.tmp 23)], #[45, 42, 22]⟩, true, none⟩]) <|
 .seq (.ops [⟨some 13, .move (.tmp 24), false, none⟩]) <|
 .seq (.ops [⟨some 25, .extract (.tmp 13) 0, false, none⟩]) <|
 .seq (.ops [⟨some 26, .extract (.tmp 13) 1, false, none⟩]) <|
 .seq (.ops [⟨some 4, .alloc 63, true, none⟩]) <|
 .seq (.ops [⟨none, .store 63 (.tmp 4) (.tmp 25), true, none⟩]) <|
 .seq (.ops [⟨none, .store 33 (.tmp 5) (.tmp 26), true, none⟩]) <|
 .skip) (.seq (.ops [⟨some 4, .alloc 63, true, none⟩]) <|
 .seq (.ops [⟨some 24, .call ⟨.value (.func 19), #[(.tmp 17), (.tmp 21), (.tmp 23)], #[45, 42, 22]⟩, true, none⟩]) <|
 .seq (.ops [⟨some 13, .move (.tmp 24), false, none⟩]) <|
 .seq (.ops [⟨some 25, .extract (.tmp 13) 0, false, none⟩]) <|
 .seq (.ops [⟨some 26, .extract (.tmp 13) 1, false, none⟩]) <|
 .seq (.ops [⟨none, .store 63 (.tmp 4) (.tmp 25), true, none⟩]) <|
 .seq (.ops [⟨none, .store 33 (.tmp 5) (.tmp 26), true, none⟩]) <|
 .skip)) (.seq (.ops [⟨some 4, .alloc 63, true, none⟩]) <|
 .seq (.ops [⟨some 17, .load 45 (.tmp 16), false, none⟩]) <|
 .seq (.ops [⟨some 24, .call ⟨.value (.func 19), #[(.tmp 17), (.tmp 21), (.tmp 23)], #[45, 42, 22]⟩, true, none⟩]) <|
 .seq (.ops [⟨some 13, .move (.tmp 24), false, none⟩]) <|
 .seq (.ops [⟨some 25, .extract (.tmp 13) 0, false, none⟩]) <|
 .seq (.ops [⟨some 26, .extract (.tmp 13) 1, false, none⟩]) <|
 .seq (.ops [⟨none, .store 63 (.tmp 4) (.tmp 25), true, none⟩]) <|
 .seq (.ops [⟨none, .store 33 (.tmp 5) (.tmp 26), true, none⟩]) <|
 .skip))) (.amb (.seq (.ops [⟨some 4, .alloc 63, true, none⟩]) <|
 .amb (.seq (.ops [⟨some 17, .load 45 (.tmp 16), false, none⟩]) <|
 .amb (.seq (.ops [⟨some 23, .load 22 (.tmp 22), false, none⟩]) <|
 .amb (.seq (.ops [⟨some 24, .call ⟨.value (.func 19), #[(.tmp 17), (.tmp 21), (.tmp 23)], #[45, 42, 22]⟩, true, none⟩]) <|
 .seq (.ops [⟨some 13, .move (.tmp 24), false, none⟩]) <|
 .seq (.ops [⟨some 25, .extract (.tmp 13) 0, false, none⟩]) <|
 .seq (.ops [⟨some 26, .extract (.tmp 13) 1, false, none⟩]) <|
 .seq (.ops [⟨some 5, .alloc 33, true, none⟩]) <|
 .seq (.ops [⟨none, .store 63 (.tmp 4) (.tmp 25), true, none⟩]) <|
 .seq (.ops [⟨none, .store 33 (.tmp 5) (.tmp 26), true, none⟩]) <|
 .skip) (.seq (.ops [⟨some 5, .alloc 33, true, none⟩]) <|
 .seq (.ops [⟨some 24, .call ⟨.value (.func 19), #[(.tmp 17), (.tmp 21), (.tmp 23)], #[45, 42, 22]⟩, true, none⟩]) <|
 .seq (.ops [⟨some 13, .move (.tmp 24), false, none⟩]) <|
 .seq (.ops [⟨some 25, .extract (.tmp 13) 0, false, none⟩]) <|
 .seq (.ops [⟨some 26, .extract (.tmp 13) 1, false, none⟩]) <|
 .seq (.ops [⟨none, .store 63 (.tmp 4) (.tmp 25), true, none⟩]) <|
 .seq (.ops [⟨none, .store 33 (.tmp 5) (.tmp 26), true, none⟩]) <|
 .skip)) (.seq (.ops [⟨some 5, .alloc 33, true, none⟩]) <|
 .seq (.ops [⟨some 23, .load 22 (.tmp 22), false, none⟩]) <|
 .seq (.ops [⟨some 24, .call ⟨.value (.func 19), #[(.tmp 17), (.tmp 21), (.tmp 23)], #[45, 42, 22]⟩, true, none⟩]) <|
 .seq (.ops [⟨some 13, .move (.tmp 24), false, none⟩]) <|
 .seq (.ops [⟨some 25, .extract (.tmp 13) 0, false, none⟩]) <|
 .seq (.ops [⟨some 26, .extract (.tmp 13) 1, false, none⟩]) <|
 .seq (.ops [⟨none, .store 63 (.tmp 4) (.tmp 25), true, none⟩]) <|
 .seq (.ops [⟨none, .store 33 (.tmp 5) (.tmp 26), true, none⟩]) <|
 .skip)) (.amb (.seq (.ops [⟨some 23, .load 22 (.tmp 22), false, none⟩]) <|
 .seq (.ops [⟨some 5, .alloc 33, true, none⟩]) <|
 .seq (.ops [⟨some 17, .load 45 (.tmp 16), false, none⟩]) <|
 .seq (.ops [⟨some 24, .call ⟨.value (.func 19), #[(.tmp 17), (.tmp 21), (.tmp 23)], #[45, 42, 22]⟩, true, none⟩]) <|
 .seq (.ops [⟨some 13, .move (.tmp 24), false, none⟩]) <|
 .seq (.ops [⟨some 25, .extract (.tmp 13) 0, false, none⟩]) <|
 .seq (.ops [⟨some 26, .extract (.tmp 13) 1, false, none⟩]) <|
 .seq (.ops [⟨none, .store 63 (.tmp 4) (.tmp 25), true, none⟩]) <|
 .seq (.ops [⟨none, .store 33 (.tmp 5) (.tmp 26), true, none⟩]) <|
 .skip) (.seq (.ops [⟨some 5, .alloc 33, true, none⟩]) <|
 .seq (.ops [⟨some 17, .load 45 (.tmp 16), false, none⟩]) <|
 .seq (.ops [⟨some 23, .load 22 (.tmp 22), false, none⟩]) <|
 .seq (.ops [⟨some 24, .call ⟨.value (.func 19), #[(.tmp 17), (.tmp 21), (.tmp 23)], #[45, 42, 22]⟩, true, none⟩]) <|
 .seq (.ops [⟨some 13, .move (.tmp 24), false, none⟩]) <|
 .seq (.ops [⟨some 25, .extract (.tmp 13) 0, false, none⟩]) <|
 .seq (.ops [⟨some 26, .extract (.tmp 13) 1, false, none⟩]) <|
 .seq (.ops [⟨none, .store 63 (.tmp 4) (.tmp 25), true, none⟩]) <|
 .seq (.ops [⟨none, .store 33 (.tmp 5) (.tmp 26), true, none⟩]) <|
 .skip))) (.seq (.ops [⟨some 5, .alloc 33, true, none⟩]) <|
 .amb (.seq (.ops [⟨some 17, .load 45 (.tmp 16), false, none⟩]) <|
 .amb (.seq (.ops [⟨some 23, .load 22 (.tmp 22), false, none⟩]) <|
 .amb (.seq (.ops [⟨some 24, .call ⟨.value (.func 19), #[(.tmp 17), (.tmp 21), (.tmp 23)], #[45, 42, 22]⟩, true, none⟩]) <|
 .seq (.ops [⟨some 13, .move (.tmp 24), false, none⟩]) <|
 .seq (.ops [⟨some 25, .extract (.tmp 13) 0, false, none⟩]) <|
 .seq (.ops [⟨some 26, .extract (.tmp 13) 1, false, none⟩]) <|
 .seq (.ops [⟨some 4, .alloc 63, true, none⟩]) <|
 .seq (.ops [⟨none, .store 63 (.tmp 4) (.tmp 25), true, none⟩]) <|
 .seq (.ops [⟨none, .store 33 (.tmp 5) (.tmp 26), true, none⟩]) <|
 .skip) (.seq (.ops [⟨some 4, .alloc 63, true, none⟩]) <|
 .seq (.ops [⟨some 24, .call ⟨.value (.func 19), #[(.tmp 17), (.tmp 21), (.tmp 23)], #[45, 42, 22]⟩, true, none⟩]) <|
 .seq (.ops [⟨some 13, .move (.tmp 24), false, none⟩]) <|
 .seq (.ops [⟨some 25, .extract (.tmp 13) 0, false, none⟩]) <|
 .seq (.ops [⟨some 26, .extract (.tmp 13) 1, false, none⟩]) <|
 .seq (.ops [⟨none, .store 63 (.tmp 4) (.tmp 25), true, none⟩]) <|
 .seq (.ops [⟨none, .store 33 (.tmp 5) (.tmp 26), true, none⟩]) <|
 .skip)) (.seq (.ops [⟨some 4, .alloc 63, true, none⟩]) <|
 .seq (.ops [⟨some 23, .load 22 (.tmp 22), false, none⟩]) <|
 .seq (.ops [⟨some 24, .call ⟨.value (.func 19), #[(.tmp 17), (.tmp 21), (.tmp 23)], #[45, 42, 22]⟩, true, none⟩]) <|
 .seq (.ops [⟨some 13, .move (.tmp 24), false, none⟩]) <|
 .seq (.ops [⟨some 25, .extract (.tmp 13) 0, false, none⟩]) <|
 .seq (.ops [⟨some 26, .extract (.tmp 13) 1, false, none⟩]) <|
 .seq (.ops [⟨none, .store 63 (.tmp 4) (.tmp 25), true, none⟩]) <|
 .seq (.ops [⟨none, .store 33 (.tmp 5) (.tmp 26), true, none⟩]) <|
 .skip)) (.amb (.seq (.ops [⟨some 23, .load 22 (.tmp 22), false, none⟩]) <|
 .seq (.ops [⟨some 4, .alloc 63, true, none⟩]) <|
 .seq (.ops [⟨some 17, .load 45 (.tmp 16), false, none⟩]) <|
 .seq (.ops [⟨some 24, .call ⟨.value (.func 19), #[(.tmp 17), (.tmp 21), (.tmp 23)], #[45, 42, 22]⟩, true, none⟩]) <|
 .seq (.ops [⟨some 13, .move (.tmp 24), false, none⟩]) <|
 .seq (.ops [⟨some 25, .extract (.tmp 13) 0, false, none⟩]) <|
 .seq (.ops [⟨some 26, .extract (.tmp 13) 1, false, none⟩]) <|
 .seq (.ops [⟨none, .store 63 (.tmp 4) (.tmp 25), true, none⟩]) <|
 .seq (.ops [⟨none, .store 33 (.tmp 5) (.tmp 26), true, none⟩]) <|
 .skip) (.seq (.ops [⟨some 4, .alloc 63, true, none⟩]) <|
 .seq (.ops [⟨some 17, .load 45 (.tmp 16), false, none⟩]) <|
 .seq (.ops [⟨some 23, .load 22 (.tmp 22), false, none⟩]) <|
 .seq (.ops [⟨some 24, .call ⟨.value (.func 19), #[(.tmp 17), (.tmp 21), (.tmp 23)], #[45, 42, 22]⟩, true, none⟩]) <|
 .seq (.ops [⟨some 13, .move (.tmp 24), false, none⟩]) <|
 .seq (.ops [⟨some 25, .extract (.tmp 13) 0, false, none⟩]) <|
 .seq (.ops [⟨some 26, .extract (.tmp 13) 1, false, none⟩]) <|
 .seq (.ops [⟨none, .store 63 (.tmp 4) (.tmp 25), true, none⟩]) <|
 .seq (.ops [⟨none, .store 33 (.tmp 5) (.tmp 26), true, none⟩]) <|
 .skip))))) (.amb (.seq (.ops [⟨some 23, .load 22 (.tmp 22), false, none⟩]) <|
 .amb (.seq (.ops [⟨some 4, .alloc 63, true, none⟩]) <|
 .amb (.seq (.ops [⟨some 17, .load 45 (.tmp 16), false, none⟩]) <|
 .amb (.seq (.ops [⟨some 21, .load 42 (.tmp 20), false, none⟩]) <|
 .amb (.seq (.ops [⟨some 24, .call ⟨.value (.func 19), #[(.tmp 17), (.tmp 21), (.tmp 23)], #[45, 42, 22]⟩, true, none⟩]) <|
 .seq (.ops [⟨some 13, .move (.tmp 24), false, none⟩]) <|
 .seq (.ops [⟨some 25, .extract (.tmp 13) 0, false, none⟩]) <|
 .seq (.ops [⟨some 26, .extract (.tmp 13) 1, false, none⟩]) <|
 .seq (.ops [⟨some 5, .alloc 33, true, none⟩]) <|
 .seq (.ops [⟨none, .store 63 (.tmp 4) (.tmp 25), true, none⟩]) <|
 .seq (.ops [⟨none, .store 33 (.tmp 5) (.tmp 26), true, none⟩]) <|
 .skip) (.seq (.ops [⟨some 5, .alloc 33, true, none⟩]) <|
 .seq (.ops [⟨some 24, .call ⟨.value (.func 19), #[(.tmp 17), (.tmp 21), (.tmp 23)], #[45, 42, 22]⟩, true, none⟩]) <|
 .seq (.ops [⟨some 13, .move (.tmp 24), false, none⟩]) <|
 .seq (.ops [⟨some 25, .extract (.tmp 13) 0, false, none⟩]) <|
 .seq (.ops [⟨some 26, .extract (.tmp 13) 1, false, none⟩]) <|
 .seq (.ops [⟨none, .store 63 (.tmp 4) (.tmp 25), true, none⟩]) <|
 .seq (.ops [⟨none, .store 33 (.tmp 5) (.tmp 26), true, none⟩]) <|
 .skip)) (.seq (.ops [⟨some 5, .alloc 33, true, none⟩]) <|
 .seq (.ops [⟨some 21, .load 42 (.tmp 20), false, none⟩]) <|
 .seq (.ops [⟨some 24, .call ⟨.value (.func 19), #[(.tmp 17), (.tmp 21), (.tmp 23)], #[45, 42, 22]⟩, true, none⟩]) <|
 .seq (.ops [⟨some 13, .move (.tmp 24), false, none⟩]) <|
 .seq (.ops [⟨some 25, .extract (.tmp 13) 0, false, none⟩]) <|
 .seq (.ops [⟨some 26, .extract (.tmp 13) 1, false, none⟩]) <|
 .seq (.ops [⟨none, .store 63 (.tmp 4) (.tmp 25), true, none⟩]) <|
 .seq (.ops [⟨none, .store 33 (.tmp 5) (.tmp 26), true, none⟩]) <|
 .skip)) (.amb (.seq (.ops [⟨some 21, .load 42 (.tmp 20), false, none⟩]) <|
 .seq (.ops [⟨some 5, .alloc 33, true, none⟩]) <|
 .seq (.ops [⟨some 17, .load 45 (.tmp 16), false, none⟩]) <|
 .seq (.ops [⟨some 24, .call ⟨.value (.func 19), #[(.tmp 17), (.tmp 21), (.tmp 23)], #[45, 42, 22]⟩, true, none⟩]) <|
 .seq (.ops [⟨some 13, .move (.tmp 24), false, none⟩]) <|
 .seq (.ops [⟨some 25, .extract (.tmp 13) 0, false, none⟩]) <|
 .seq (.ops [⟨some 26, .extract (.tmp 13) 1, false, none⟩]) <|
 .seq (.ops [⟨none, .store 63 (.tmp 4) (.tmp 25), true, none⟩]) <|
 .seq (.ops [⟨none, .store 33 (.tmp 5) (.tmp 26), true, none⟩]) <|
 .skip) (.seq (.ops [⟨some 5, .alloc 33, true, none⟩]) <|
 .seq (.ops [⟨some 17, .load 45 (.tmp 16), false, none⟩]) <|
 .seq (.ops [⟨some 21, .load 42 (.tmp 20), false, none⟩]) <|
 .seq (.ops [⟨some 24, .call ⟨.value (.func 19), #[(.tmp 17), (.tmp 21), (.tmp 23)], #[45, 42, 22]⟩, true, none⟩]) <|
 .seq (.ops [⟨some 13, .move (.tmp 24), false, none⟩]) <|
 .seq (.ops [⟨some 25, .extract (.tmp 13) 0, false, none⟩]) <|
 .seq (.ops [⟨some 26, .extract (.tmp 13) 1, false, none⟩]) <|
 .seq (.ops [⟨none, .store 63 (.tmp 4) (.tmp 25), true, none⟩]) <|
 .seq (.ops [⟨none, .store 33 (.tmp 5) (.tmp 26), true, none⟩]) <|
 .skip))) (.seq (.ops [⟨some 5, .alloc 33, true, none⟩]) <|
 .amb (.seq (.ops [⟨some 17, .load 45 (.tmp 16), false, none⟩]) <|
 .amb (.seq (.ops [⟨some 21, .load 42 (.tmp 20), false, none⟩]) <|
 .amb (.seq (.ops [⟨some 24, .call ⟨.value (.func 19), #[(.tmp 17), (.tmp 21), (.tmp 23)], #[45, 42, 22]⟩, true, none⟩]) <|
 .seq (.ops [⟨some 13, .move (.tmp 24), false, none⟩]) <|
 .seq (.ops [⟨some 25, .extract (.tmp 13) 0, false, none⟩]) <|
 .seq (.ops [⟨some 26, .extract (.tmp 13) 1, false, none⟩]) <|
 .seq (.ops [⟨some 4, .alloc 63, true, none⟩]) <|
 .seq (.ops [⟨none, .store 63 (.tmp 4) (.tmp 25), true, none⟩]) <|
 .seq (.ops [⟨none, .store 33 (.tmp 5) (.tmp 26), true, none⟩]) <|
 .skip) (.seq (.ops [⟨some 4, .alloc 63, true, none⟩]) <|
 .seq (.ops [⟨some 24, .call ⟨.value (.func 19), #[(.tmp 17), (.tmp 21), (.tmp 23)], #[45, 42, 22]⟩, true, none⟩]) <|
 .seq (.ops [⟨some 13, .move (.tmp 24), false, none⟩]) <|
 .seq (.ops [⟨some 25, .extract (.tmp 13) 0, false, none⟩]) <|
 .seq (.ops [⟨some 26, .extract (.tmp 13) 1, false, none⟩]) <|
 .seq (.ops [⟨none, .store 63 (.tmp 4) (.tmp 25), true, none⟩]) <|
 .seq (.ops [⟨none, .store 33 (.tmp 5) (.tmp 26), true, none⟩]) <|
 .skip)) (.seq (.ops [⟨some 4, .alloc 63, true, none⟩]) <|
 .seq (.ops [⟨some 21, .load 42 (.tmp 20), false, none⟩]) <|
 .seq (.ops [⟨some 24, .call ⟨.value (.func 19), #[(.tmp 17), (.tmp 21), (.tmp 23)], #[45, 42, 22]⟩, true, none⟩]) <|
 .seq (.ops [⟨some 13, .move (.tmp 24), false, none⟩]) <|
 .seq (.ops [⟨some 25, .extract (.tmp 13) 0, false, none⟩]) <|
 .seq (.ops [⟨some 26, .extract (.tmp 13) 1, false, none⟩]) <|
 .seq (.ops [⟨none, .store 63 (.tmp 4) (.tmp 25), true, none⟩]) <|
 .seq (.ops [⟨none, .store 33 (.tmp 5) (.tmp 26), true, none⟩]) <|
 .skip)) (.amb (.seq (.ops [⟨some 21, .load 42 (.tmp 20), false, none⟩]) <|
 .seq (.ops [⟨some 4, .alloc 63, true, none⟩]) <|
 .seq (.ops [⟨some 17, .load 45 (.tmp 16), false, none⟩]) <|
 .seq (.ops [⟨some 24, .call ⟨.value (.func 19), #[(.tmp 17), (.tmp 21), (.tmp 23)], #[45, 42, 22]⟩, true, none⟩]) <|
 .seq (.ops [⟨some 13, .move (.tmp 24), false, none⟩]) <|
 .seq (.ops [⟨some 25, .extract (.tmp 13) 0, false, none⟩]) <|
 .seq (.ops [⟨some 26, .extract (.tmp 13) 1, false, none⟩]) <|
 .seq (.ops [⟨none, .store 63 (.tmp 4) (.tmp 25), true, none⟩]) <|
 .seq (.ops [⟨none, .store 33 (.tmp 5) (.tmp 26), true, none⟩]) <|
 .skip) (.seq (.ops [⟨some 4, .alloc 63, true, none⟩]) <|
 .seq (.ops [⟨some 17, .load 45 (.tmp 16), false, none⟩]) <|
 .seq (.ops [⟨some 21, .load 42 (.tmp 20), false, none⟩]) <|
 .seq (.ops [⟨some 24, .call ⟨.value (.func 19), #[(.tmp 17), (.tmp 21), (.tmp 23)], #[45, 42, 22]⟩, true, none⟩]) <|
 .seq (.ops [⟨some 13, .move (.tmp 24), false, none⟩]) <|
 .seq (.ops [⟨some 25, .extract (.tmp 13) 0, false, none⟩]) <|
 .seq (.ops [⟨some 26, .extract (.tmp 13) 1, false, none⟩]) <|
 .seq (.ops [⟨none, .store 63 (.tmp 4) (.tmp 25), true, none⟩]) <|
 .seq (.ops [⟨none, .store 33 (.tmp 5) (.tmp 26), true, none⟩]) <|
 .skip)))) (.amb (.seq (.ops [⟨some 4, .alloc 63, true, none⟩]) <|
 .amb (.seq (.ops [⟨some 17, .load 45 (.tmp 16), false, none⟩]) <|
 .amb (.seq (.ops [⟨some 21, .load 42 (.tmp 20), false, none⟩]) <|
 .amb (.seq (.ops [⟨some 23, .load 22 (.tmp 22), false, none⟩]) <|
 .amb (.seq (.ops [⟨some 24, .call ⟨.value (.func 19), #[(.tmp 17), (.tmp 21), (.tmp 23)], #[45, 42, 22]⟩, true, none⟩]) <|
 .seq (.ops [⟨some 13, .move (.tmp 24), false, none⟩]) <|
 .seq (.ops [⟨some 25, .extract (.tmp 13) 0, false, none⟩]) <|
 .seq (.ops [⟨some 26, .extract (.tmp 13) 1, false, none⟩]) <|
 .seq (.ops [⟨some 5, .alloc 33, true, none⟩]) <|
 .seq (.ops [⟨none, .store 63 (.tmp 4) (.tmp 25), true, none⟩]) <|
 .seq (.ops [⟨none, .store 33 (.tmp 5) (.tmp 26), true, none⟩]) <|
 .skip) (.seq (.ops [⟨some 5, .alloc 33, true, none⟩]) <|
 .seq (.ops [⟨some 24, .call ⟨.value (.func 19), #[(.tmp 17), (.tmp 21), (.tmp 23)], #[45, 42, 22]⟩, true, none⟩]) <|
 .seq (.ops [⟨some 13, .move (.tmp 24), false, none⟩]) <|
 .seq (.ops [⟨some 25, .extract (.tmp 13) 0, false, none⟩]) <|
 .seq (.ops [⟨some 26, .extract (.tmp 13) 1, false, none⟩]) <|
 .seq (.ops [⟨none, .store 63 (.tmp 4) (.tmp 25), true, none⟩]) <|
 .seq (.ops [⟨none, .store 33 (.tmp 5) (.tmp 26), true, none⟩]) <|
 .skip)) (.seq (.ops [⟨some 5, .alloc 33, true, none⟩]) <|
 .seq (.ops [⟨some 23, .load 22 (.tmp 22), false, none⟩]) <|
 .seq (.ops [⟨some 24, .call ⟨.value (.func 19), #[(.tmp 17), (.tmp 21), (.tmp 23)], #[45, 42, 22]⟩, true, none⟩]) <|
 .seq (.ops [⟨some 13, .move (.tmp 24), false, none⟩]) <|
 .seq (.ops [⟨some 25, .extract (.tmp 13) 0, false, none⟩]) <|
 .seq (.ops [⟨some 26, .extract (.tmp 13) 1, false, none⟩]) <|
 .seq (.ops [⟨none, .store 63 (.tmp 4) (.tmp 25), true, none⟩]) <|
 .seq (.ops [⟨none, .store 33 (.tmp 5) (.tmp 26), true, none⟩]) <|
 .skip)) (.amb (.seq (.ops [⟨some 23, .load 22 (.tmp 22), false, none⟩]) <|
 .seq (.ops [⟨some 5, .alloc 33, true, none⟩]) <|
 .seq (.ops [⟨some 21, .load 42 (.tmp 20), false, none⟩]) <|
 .seq (.ops [⟨some 24, .call ⟨.value (.func 19), #[(.tmp 17), (.tmp 21), (.tmp 23)], #[45, 42, 22]⟩, true, none⟩]) <|
 .seq (.ops [⟨some 13, .move (.tmp 24), false, none⟩]) <|
 .seq (.ops [⟨some 25, .extract (.tmp 13) 0, false, none⟩]) <|
 .seq (.ops [⟨some 26, .extract (.tmp 13) 1, false, none⟩]) <|
 .seq (.ops [⟨none, .store 63 (.tmp 4) (.tmp 25), true, none⟩]) <|
 .seq (.ops [⟨none, .store 33 (.tmp 5) (.tmp 26), true, none⟩]) <|
 .skip) (.seq (.ops [⟨some 5, .alloc 33, true, none⟩]) <|
 .seq (.ops [⟨some 21, .load 42 (.tmp 20), false, none⟩]) <|
 .seq (.ops [⟨some 23, .load 22 (.tmp 22), false, none⟩]) <|
 .seq (.ops [⟨some 24, .call ⟨.value (.func 19), #[(.tmp 17), (.tmp 21), (.tmp 23)], #[45, 42, 22]⟩, true, none⟩]) <|
 .seq (.ops [⟨some 13, .move (.tmp 24), false, none⟩]) <|
 .seq (.ops [⟨some 25, .extract (.tmp 13) 0, false, none⟩]) <|
 .seq (.ops [⟨some 26, .extract (.tmp 13) 1, false, none⟩]) <|
 .seq (.ops [⟨none, .store 63 (.tmp 4) (.tmp 25), true, none⟩]) <|
 .seq (.ops [⟨none, .store 33 (.tmp 5) (.tmp 26), true, none⟩]) <|
 .skip))) (.amb (.seq (.ops [⟨some 21, .load 42 (.tmp 20), false, none⟩]) <|
 .amb (.seq (.ops [⟨some 23, .load 22 (.tmp 22), false, none⟩]) <|
 .seq (.ops [⟨some 5, .alloc 33, true, none⟩]) <|
 .seq (.ops [⟨some 17, .load 45 (.tmp 16), false, none⟩]) <|
 .seq (.ops [⟨some 24, .call ⟨.value (.func 19), #[(.tmp 17), (.tmp 21), (.tmp 23)], #[45, 42, 22]⟩, true, none⟩]) <|
 .seq (.ops [⟨some 13, .move (.tmp 24), false, none⟩]) <|
 .seq (.ops [⟨some 25, .extract (.tmp 13) 0, false, none⟩]) <|
 .seq (.ops [⟨some 26, .extract (.tmp 13) 1, false, none⟩]) <|
 .seq (.ops [⟨none, .store 63 (.tmp 4) (.tmp 25), true, none⟩]) <|
 .seq (.ops [⟨none, .store 33 (.tmp 5) (.tmp 26), true, none⟩]) <|
 .skip) (.seq (.ops [⟨some 5, .alloc 33, true, none⟩]) <|
 .seq (.ops [⟨some 17, .load 45 (.tmp 16), false, none⟩]) <|
 .seq (.ops [⟨some 23, .load 22 (.tmp 22), false, none⟩]) <|
 .seq (.ops [⟨some 24, .call ⟨.value (.func 19), #[(.tmp 17), (.tmp 21), (.tmp 23)], #[45, 42, 22]⟩, true, none⟩]) <|
 .seq (.ops [⟨some 13, .move (.tmp 24), false, none⟩]) <|
 .seq (.ops [⟨some 25, .extract (.tmp 13) 0, false, none⟩]) <|
 .seq (.ops [⟨some 26, .extract (.tmp 13) 1, false, none⟩]) <|
 .seq (.ops [⟨none, .store 63 (.tmp 4) (.tmp 25), true, none⟩]) <|
 .seq (.ops [⟨none, .store 33 (.tmp 5) (.tmp 26), true, none⟩]) <|
 .skip)) (.amb (.seq (.ops [⟨some 23, .load 22 (.tmp 22), false, none⟩]) <|
 .seq (.ops [⟨some 5, .alloc 33, true, none⟩]) <|
 .seq (.ops [⟨some 17, .load 45 (.tmp 16), false, none⟩]) <|
 .seq (.ops [⟨some 21, .load 42 (.tmp 20), false, none⟩]) <|
 .seq (.ops [⟨some 24, .call ⟨.value (.func 19), #[(.tmp 17), (.tmp 21), (.tmp 23)], #[45, 42, 22]⟩, true, none⟩]) <|
 .seq (.ops [⟨some 13, .move (.tmp 24), false, none⟩]) <|
 .seq (.ops [⟨some 25, .extract (.tmp 13) 0, false, none⟩]) <|
 .seq (.ops [⟨some 26, .extract (.tmp 13) 1, false, none⟩]) <|
 .seq (.ops [⟨none, .store 63 (.tmp 4) (.tmp 25), true, none⟩]) <|
 .seq (.ops [⟨none, .store 33 (.tmp 5) (.tmp 26), true, none⟩]) <|
 .skip) (.seq (.ops [⟨some 5, .alloc 33, true, none⟩]) <|
 .seq (.ops [⟨some 17, .load 45 (.tmp 16), false, none⟩]) <|
 .seq (.ops [⟨some 21, .load 42 (.tmp 20), false, none⟩]) <|
 .seq (.ops [⟨some 23, .load 22 (.tmp 22), false, none⟩]) <|
 .seq (.ops [⟨some 24, .call ⟨.value (.func 19), #[(.tmp 17), (.tmp 21), (.tmp 23)], #[45, 42, 22]⟩, true, none⟩]) <|
 .seq (.ops [⟨some 13, .move (.tmp 24), false, none⟩]) <|
 .seq (.ops [⟨some 25, .extract (.tmp 13) 0, false, none⟩]) <|
 .seq (.ops [⟨some 26, .extract (.tmp 13) 1, false, none⟩]) <|
 .seq (.ops [⟨none, .store 63 (.tmp 4) (.tmp 25), true, none⟩]) <|
 .seq (.ops [⟨none, .store 33 (.tmp 5) (.tmp 26), true, none⟩]) <|
 .skip)))) (.seq (.ops [⟨some 5, .alloc 33, true, none⟩]) <|
 .amb (.seq (.ops [⟨some 17, .load 45 (.tmp 16), false, none⟩]) <|
 .amb (.seq (.ops [⟨some 21, .load 42 (.tmp 20), false, none⟩]) <|
 .amb (.seq (.ops [⟨some 23, .load 22 (.tmp 22), false, none⟩]) <|
 .amb (.seq (.ops [⟨some 24, .call ⟨.value (.func 19), #[(.tmp 17), (.tmp 21), (.tmp 23)], #[45, 42, 22]⟩, true, none⟩]) <|
 .seq (.ops [⟨some 13, .move (.tmp 24), false, none⟩]) <|
 .seq (.ops [⟨some 25, .extract (.tmp 13) 0, false, none⟩]) <|
 .seq (.ops [⟨some 26, .extract (.tmp 13) 1, false, none⟩]) <|
 .seq (.ops [⟨some 4, .alloc 63, true, none⟩]) <|
 .seq (.ops [⟨none, .store 63 (.tmp 4) (.tmp 25), true, none⟩]) <|
 .seq (.ops [⟨none, .store 33 (.tmp 5) (.tmp 26), true, none⟩]) <|
 .skip) (.seq (.ops [⟨some 4, .alloc 63, true, none⟩]) <|
 .seq (.ops [⟨some 24, .call ⟨.value (.func 19), #[(.tmp 17), (.tmp 21), (.tmp 23)], #[45, 42, 22]⟩, true, none⟩]) <|
 .seq (.ops [⟨some 13, .move (.tmp 24), false, none⟩]) <|
 .seq (.ops [⟨some 25, .extract (.tmp 13) 0, false, none⟩]) <|
 .seq (.ops [⟨some 26, .extract (.tmp 13) 1, false, none⟩]) <|
 .seq (.ops [⟨none, .store 63 (.tmp 4) (.tmp 25), true, none⟩]) <|
 .seq (.ops [⟨none, .store 33 (.tmp 5) (.tmp 26), true, none⟩]) <|
 .skip)) (.seq (.ops [⟨some 4, .alloc 63, true, none⟩]) <|
 .seq (.ops [⟨some 23, .load 22 (.tmp 22), false, none⟩]) <|
 .seq (.ops [⟨some 24, .call ⟨.value (.func 19), #[(.tmp 17), (.tmp 21), (.tmp 23)], #[45, 42, 22]⟩, true, none⟩]) <|
 .seq (.ops [⟨some 13, .move (.tmp 24), false, none⟩]) <|
 .seq (.ops [⟨some 25, .extract (.tmp 13) 0, false, none⟩]) <|
 .seq (.ops [⟨some 26, .extract (.tmp 13) 1, false, none⟩]) <|
 .seq (.ops [⟨none, .store 63 (.tmp 4) (.tmp 25), true, none⟩]) <|
 .seq (.ops [⟨none, .store 33 (.tmp 5) (.tmp 26), true, none⟩]) <|
 .skip)) (.amb (.seq (.ops [⟨some 23, .load 22 (.tmp 22), false, none⟩]) <|
 .seq (.ops [⟨some 4, .alloc 63, true, none⟩]) <|
 .seq (.ops [⟨some 21, .load 42 (.tmp 20), false, none⟩]) <|
 .seq (.ops [⟨some 24, .call ⟨.value (.func 19), #[(.tmp 17), (.tmp 21), (.tmp 23)], #[45, 42, 22]⟩, true, none⟩]) <|
 .seq (.ops [⟨some 13, .move (.tmp 24), false, none⟩]) <|
 .seq (.ops [⟨some 25, .extract (.tmp 13) 0, false, none⟩]) <|
 .seq (.ops [⟨some 26, .extract (.tmp 13) 1, false, none⟩]) <|
 .seq (.ops [⟨none, .store 63 (.tmp 4) (.tmp 25), true, none⟩]) <|
 .seq (.ops [⟨none, .store 33 (.tmp 5) (.tmp 26), true, none⟩]) <|
 .skip) (.seq (.ops [⟨some 4, .alloc 63, true, none⟩]) <|
 .seq (.ops [⟨some 21, .load 42 (.tmp 20), false, none⟩]) <|
 .seq (.ops [⟨some 23, .load 22 (.tmp 22), false, none⟩]) <|
 .seq (.ops [⟨some 24, .call ⟨.value (.func 19), #[(.tmp 17), (.tmp 21), (.tmp 23)], #[45, 42, 22]⟩, true, none⟩]) <|
 .seq (.ops [⟨some 13, .move (.tmp 24), false, none⟩]) <|
 .seq (.ops [⟨some 25, .extract (.tmp 13) 0, false, none⟩]) <|
 .seq (.ops [⟨some 26, .extract (.tmp 13) 1, false, none⟩]) <|
 .seq (.ops [⟨none, .store 63 (.tmp 4) (.tmp 25), true, none⟩]) <|
 .seq (.ops [⟨none, .store 33 (.tmp 5) (.tmp 26), true, none⟩]) <|
 .skip))) (.amb (.seq (.ops [⟨some 21, .load 42 (.tmp 20), false, none⟩]) <|
 .amb (.seq (.ops [⟨some 23, .load 22 (.tmp 22), false, none⟩]) <|
 .seq (.ops [⟨some 4, .alloc 63, true, none⟩]) <|
 .seq (.ops [⟨some 17, .load 45 (.tmp 16), false, none⟩]) <|
 .seq (.ops [⟨some 24, .call ⟨.value (.func 19), #[(.tmp 17), (.tmp 21), (.tmp 23)], #[45, 42, 22]⟩, true, none⟩]) <|
 .seq (.ops [⟨some 13, .move (.tmp 24), false, none⟩]) <|
 .seq (.ops [⟨some 25, .extract (.tmp 13) 0, false, none⟩]) <|
 .seq (.ops [⟨some 26, .extract (.tmp 13) 1, false, none⟩]) <|
 .seq (.ops [⟨none, .store 63 (.tmp 4) (.tmp 25), true, none⟩]) <|
 .seq (.ops [⟨none, .store 33 (.tmp 5) (.tmp 26), true, none⟩]) <|
 .skip) (.seq (.ops [⟨some 4, .alloc 63, true, none⟩]) <|
 .seq (.ops [⟨some 17, .load 45 (.tmp 16), false, none⟩]) <|
 .seq (.ops [⟨some 23, .load 22 (.tmp 22), false, none⟩]) <|
 .seq (.ops [⟨some 24, .call ⟨.value (.func 19), #[(.tmp 17), (.tmp 21), (.tmp 23)], #[45, 42, 22]⟩, true, none⟩]) <|
 .seq (.ops [⟨some 13, .move (.tmp 24), false, none⟩]) <|
 .seq (.ops [⟨some 25, .extract (.tmp 13) 0, false, none⟩]) <|
 .seq (.ops [⟨some 26, .extract (.tmp 13) 1, false, none⟩]) <|
 .seq (.ops [⟨none, .store 63 (.tmp 4) (.tmp 25), true, none⟩]) <|
 .seq (.ops [⟨none, .store 33 (.tmp 5) (.tmp 26), true, none⟩]) <|
 .skip)) (.amb (.seq (.ops [⟨some 23, .load 22 (.tmp 22), false, none⟩]) <|
 .seq (.ops [⟨some 4, .alloc 63, true, none⟩]) <|
 .seq (.ops [⟨some 17, .load 45 (.tmp 16), false, none⟩]) <|
 .seq (.ops [⟨some 21, .load 42 (.tmp 20), false, none⟩]) <|
 .seq (.ops [⟨some 24, .call ⟨.value (.func 19), #[(.tmp 17), (.tmp 21), (.tmp 23)], #[45, 42, 22]⟩, true, none⟩]) <|
 .seq (.ops [⟨some 13, .move (.tmp 24), false, none⟩]) <|
 .seq (.ops [⟨some 25, .extract (.tmp 13) 0, false, none⟩]) <|
 .seq (.ops [⟨some 26, .extract (.tmp 13) 1, false, none⟩]) <|
 .seq (.ops [⟨none, .store 63 (.tmp 4) (.tmp 25), true, none⟩]) <|
 .seq (.ops [⟨none, .store 33 (.tmp 5) (.tmp 26), true, none⟩]) <|
 .skip) (.seq (.ops [⟨some 4, .alloc 63, true, none⟩]) <|
 .seq (.ops [⟨some 17, .load 45 (.tmp 16), false, none⟩]) <|
 .seq (.ops [⟨some 21, .load 42 (.tmp 20), false, none⟩]) <|
 .seq (.ops [⟨some 23, .load 22 (.tmp 22), false, none⟩]) <|
 .seq (.ops [⟨some 24, .call ⟨.value (.func 19), #[(.tmp 17), (.tmp 21), (.tmp 23)], #[45, 42, 22]⟩, true, none⟩]) <|
 .seq (.ops [⟨some 13, .move (.tmp 24), false, none⟩]) <|
 .seq (.ops [⟨some 25, .extract (.tmp 13) 0, false, none⟩]) <|
 .seq (.ops [⟨some 26, .extract (.tmp 13) 1, false, none⟩]) <|
 .seq (.ops [⟨none, .store 63 (.tmp 4) (.tmp 25), true, none⟩]) <|
 .seq (.ops [⟨none, .store 33 (.tmp 5) (.tmp 26), true, none⟩]) <|
 .skip)))))))) <|
 .seq (.keep [0, 2, 3, 4, 5]) <|
 .seq (.seq (.ops [⟨some 27, .fieldAddr 33 (.tmp 5) 0, false, none⟩,
  ⟨some 28, .load 3 (.tmp 27), false, none⟩,
  ⟨some 29, .binOp .eql 3 (.tmp 28) (.const (.int .i64 0)) 3, false, none⟩]) <|
 .seq (.keep [0, 2, 3, 4, 5, 29]) <|
 .cond (.tmp 29) (.ops [⟨some 30, .move (.tmp 0), false, none⟩,
  ⟨some 31, .load 63 (.tmp 4), false, none⟩,
  ⟨some 32, .call ⟨.value (.func 20), #[(.tmp 30), (.tmp 3), (.tmp 31)], #[28, 67, 63]⟩, true, none⟩,
  ⟨none, .store 33 (.tmp 5) (.tmp 32), true, none⟩]) <|
 .skip) <|
 .seq (.keep [0, 2, 3, 5]) <|
 .seq (.seq (.ops [⟨some 33, .fieldAddr 33 (.tmp 5) 0, false, none⟩,
  ⟨some 34, .load 3 (.tmp 33), false, none⟩,
  ⟨some 35, .binOp .neq 3 (.tmp 34) (.const (.int .i64 0)) 3, false, none⟩]) <|
 .seq (.keep [0, 2, 3, 5, 35]) <|
 .cond (.tmp 35) (.seq (.ops [⟨some 36, .move (.tmp 0), false, none⟩,
  ⟨some 37, .build 25 #[], false, none⟩,
  ⟨some 38, .nilCheck (.tmp 36), false, none⟩,
  ⟨some 39, .fieldAddr 47 (.tmp 38) 0, false, none⟩,
  ⟨some 40, .fieldAddr 27 (.tmp 39) 2, false, none⟩,
  ⟨none, .store 25 (.tmp 40) (.tmp 37), true, none⟩]) <|
 .seq (.keep [2, 5]) <|
 .seq (.ops [⟨some 41, .load 33 (.tmp 5), false, none⟩,
  ⟨none, .store 33 (.tmp 2) (.tmp 41), true, none⟩]) <|
 .seq (.keep [2]) <|
 .ret) <|
 .skip) <|
 .seq (.keep [0, 2, 3]) <|
 .seq (.ops [⟨some 42, .move (.tmp 0), false, none⟩,
  ⟨some 43, .load 27 (.tmp 3), false, none⟩,
  ⟨some 44, .nilCheck (.tmp 42), false, none⟩,
  ⟨some 45, .fieldAddr 47 (.tmp 44) 0, false, none⟩,
  ⟨none, .store 27 (.tmp 45) (.tmp 43), true, none⟩]) <|
 .seq (.keep [2]) <|
 .seq (.ops [⟨some 46, .build 33 #[], false, none⟩,
  ⟨none, .store 33 (.tmp 2) (.tmp 46), true, none⟩]) <|
 .seq (.keep [2]) <|
 .ret
theorem c9 : Parted Tryz.prog Tryz.f9 s9 := Parted.of [(0, t9_0)] (List.forall_mem_cons.2 ⟨q9_0, (fun p hp => by cases hp)⟩) (by kernel_rfl)
theorem r9 : Tryz.f9.results.toList = [.cell 2 33] := by kernel_rfl
-- (*marionette/hart.Hart).Space
abbrev kp10 : List Nat := [2]
def s10 : SC :=
 .seq (.ops [⟨some 2, .assign (.const (.pointer none)), false, none⟩]) <|
 .seq (.keep [0]) <|
 .seq (.seq (.ops [⟨some 3, .move (.tmp 0), false, none⟩,
  ⟨some 4, .binOp .eql 28 (.tmp 3) (.const (.pointer none)) 28, false, none⟩]) <|
 .seq (.keep [0, 4]) <|
 .cond (.tmp 4) (.seq (.ops [⟨some 2, .assign (.const (.pointer none)), false, none⟩]) <|
 .seq (.keep [2]) <|
 .ret) <|
 .skip) <|
 .seq (.keep [0]) <|
 .seq (.ops [⟨some 5, .move (.tmp 0), false, none⟩,
  ⟨some 6, .nilCheck (.tmp 5), false, none⟩,
  ⟨some 7, .fieldAddr 47 (.tmp 6) 1, false, none⟩,
  ⟨some 8, .load 42 (.tmp 7), false, none⟩,
  ⟨some 2, .assign (.tmp 8), false, none⟩]) <|
 .seq (.keep [2]) <|
 .ret
theorem c10 : Tryz.f10.body.map (fun c => ((compile Tryz.prog kp10 [] kp10 c).map (·.1), fits Tryz.f10.ntmps c)) = some (some s10, true) := by kernel_rfl
theorem r10 : Tryz.f10.results.toList = [.tmp 2] := by kernel_rfl
-- marionette/mem.New
abbrev kp11 : List Nat := [2]
def s11 : SC :=
 .seq (.ops [⟨some 2, .assign (.const (.pointer none)), false, none⟩]) <|
 .seq (.keep [0]) <|
 .seq (.ops [⟨some 3, .call ⟨.value (.func 21), #[], #[]⟩, true, none⟩,
  ⟨some 4, .call ⟨.value (.func 22), #[], #[]⟩, true, none⟩,
  ⟨some 5, .move (.tmp 0), false, none⟩,
  ⟨some 6, .call ⟨.builtin .max, #[(.tmp 5), (.const (.int .i64 0))], #[3, 3]⟩, false, none⟩,
  ⟨some 7, .build 73 #[(0, (.tmp 3)), (1, (.tmp 4)), (2, (.tmp 6))], false, none⟩,
  ⟨some 8, .box 73 (.tmp 7), true, none⟩,
  ⟨some 2, .assign (.tmp 8), false, none⟩]) <|
 .seq (.keep [2]) <|
 .ret
theorem c11 : Tryz.f11.body.map (fun c => ((compile Tryz.prog kp11 [] kp11 c).map (·.1), fits Tryz.f11.ntmps c)) = some (some s11, true) := by kernel_rfl
theorem r11 : Tryz.f11.results.toList = [.tmp 2] := by kernel_rfl
-- marionette/marionetteref06.New
abbrev kp12 : List Nat := [2]
def s12 : SC :=
 .seq (.ops [⟨some 2, .assign (.const (.pointer none)), false, none⟩]) <|
 .seq (.keep [0]) <|
 .seq (.seq (.ops [⟨some 3, .move (.tmp 0), false, none⟩,
  ⟨some 4, .binOp .lss 3 (.tmp 3) (.const (.int .i64 0)) 3, false, none⟩]) <|
 .seq (.keep [0, 4]) <|
 .cond (.tmp 4) (.ops [⟨some 0, .assign (.const (.int .i64 0)), false, none⟩]) <|
 .skip) <|
 .seq (.keep [0]) <|
 .seq (.ops [⟨some 5, .move (.tmp 0), false, none⟩,
  ⟨some 6, .build 76 #[(1, (.tmp 5))], false, none⟩,
  ⟨some 7, .box 76 (.tmp 6), true, none⟩,
  ⟨some 2, .assign (.tmp 7), false, none⟩]) <|
 .seq (.keep [2]) <|
 .ret
theorem c12 : Tryz.f12.body.map (fun c => ((compile Tryz.prog kp12 [] kp12 c).map (·.1), fits Tryz.f12.ntmps c)) = some (some s12, true) := by kernel_rfl
theorem r12 : Tryz.f12.results.toList = [.tmp 2] := by kernel_rfl
-- (*marionette/mem.Space).Map
abbrev kp13 : List Nat := [10, 11]
def s13 : SC :=
 .seq (.ops [⟨some 10, .assign (.const (.int .u64 0)), false, none⟩,
  ⟨some 11, .assign (.const (.int .i64 0)), false, none⟩]) <|
 .seq (.keep [0, 1, 2, 3, 4]) <|
 .seq (.seq (.ops [⟨some 16, .move (.tmp 0), false, none⟩,
  ⟨some 17, .binOp .eql 42 (.tmp 16) (.const (.pointer none)) 42, false, none⟩,
  ⟨some 18, .move (.tmp 17), false, none⟩,
  ⟨some 19, .move (.tmp 1), false, some (18, false)⟩,
  ⟨some 20, .binOp .rem 22 (.tmp 19) (.const (.int .u64 4096)) 22, false, some (18, false)⟩,
  ⟨some 21, .binOp .neq 22 (.tmp 20) (.const (.int .u64 0)) 22, false, some (18, false)⟩,
  ⟨some 22, .pick (.tmp 18) (.const (.bool true)) (.tmp 21), false, none⟩,
  ⟨some 23, .move (.tmp 22), false, none⟩,
  ⟨some 24, .move (.tmp 2), false, some (23, false)⟩,
  ⟨some 25, .binOp .eql 22 (.tmp 24) (.const (.int .u64 0)) 22, false, some (23, false)⟩,
  ⟨some 26, .pick (.tmp 23) (.const (.bool true)) (.tmp 25), false, none⟩,
  ⟨some 27, .move (.tmp 26), false, none⟩,
  ⟨some 28, .move (.tmp 2), false, some (27, false)⟩,
  ⟨some 29, .binOp .gtr 22 (.tmp 28) (.const (.int .u64 274877906944)) 22, false, some (27, false)⟩,
  ⟨some 30, .pick (.tmp 27) (.const (.bool true)) (.tmp 29), false, none⟩,
  ⟨some 31, .move (.tmp 30), false, none⟩,
  ⟨some 32, .move (.tmp 3), false, some (31, false)⟩,
  ⟨some 33, .binOp .lss 3 (.tmp 32) (.const (.int .i64 0)) 3, false, some (31, false)⟩,
  ⟨some 34, .pick (.tmp 31) (.const (.bool true)) (.tmp 33), false, none⟩,
  ⟨some 35, .move (.tmp 34), false, none⟩,
  ⟨some 36, .move (.tmp 3), false, some (35, false)⟩,
  ⟨some 37, .binOp .gtr 3 (.tmp 36) (.const (.int .i64 7)) 3, false, some (35, false)⟩,
  ⟨some 38, .pick (.tmp 35) (.const (.bool true)) (.tmp 37), false, none⟩]) <|
 .seq (.keep [0, 1, 2, 3, 4, 38]) <|
 .cond (.tmp 38) (.seq (.ops [⟨some 10, .assign (.const (.int .u64 0)), false, none⟩,
  ⟨some 11, .assign (.const (.int .i64 22)), false, none⟩]) <|
 .seq (.keep [10, 11]) <|
 .ret) <|
 .skip) <|
 .seq (.keep [0, 1, 2, 3, 4]) <|
 .seq (.seq (.ops [⟨some 39, .move (.tmp 4), false, none⟩,
  ⟨some 40, .unOp .not 4 (.tmp 39), false, none⟩]) <|
 .seq (.keep [0, 1, 2, 3, 40]) <|
 .cond (.tmp 40) (.seq (.ops [⟨some 12, .assign (.const (.bool false)), false, none⟩]) <|
 .seq (.keep [0, 1, 2, 3]) <|
 .seq (.ops [⟨some 42, .move (.tmp 0), false, none⟩,
  ⟨some 43, .move (.tmp 1), false, none⟩,
  ⟨some 44, .move (.tmp 2), false, none⟩,
  ⟨some 45, .call ⟨.value (.func 23), #[(.tmp 42), (.tmp 43), (.tmp 44)], #[42, 22, 22]⟩, true, none⟩,
  ⟨some 41, .move (.tmp 45), false, none⟩,
  ⟨some 46, .extract (.tmp 41) 0, false, none⟩,
  ⟨some 47, .extract (.tmp 41) 1, false, none⟩,
  ⟨some 1, .assign (.tmp 46), false, none⟩,
  ⟨some 12, .assign (.tmp 47), false, none⟩]) <|
 .seq (.keep [0, 1, 2, 3, 12]) <|
 .seq (.ops [⟨some 48, .move (.tmp 12), false, none⟩,
  ⟨some 49, .unOp .not 4 (.tmp 48), false, none⟩]) <|
 .seq (.keep [0, 1, 2, 3, 49]) <|
 .cond (.tmp 49) (.seq (.ops [⟨some 10, .assign (.const (.int .u64 0)), false, none⟩,
  ⟨some 11, .assign (.const (.int .i64 12)), false, none⟩]) <|
 .seq (.keep [10, 11]) <|
 .ret) <|
 .skip) <|
 .skip) <|
 .seq (.keep [0, 1, 2, 3]) <|
 .seq (.ops [⟨some 51, .move (.tmp 1), false, none⟩,
  ⟨some 52, .move (.tmp 2), false, none⟩,
  ⟨some 53, .call ⟨.value (.func 24), #[(.tmp 51), (.tmp 52)], #[22, 22]⟩, true, none⟩,
  ⟨some 50, .move (.tmp 53), false, none⟩,
  ⟨some 54, .extract (.tmp 50) 0, false, none⟩,
  ⟨some 55, .extract (.tmp 50) 1, false, none⟩,
  ⟨some 13, .assign (.tmp 54), false, none⟩,
  ⟨some 14, .assign (.tmp 55), false, none⟩]) <|
 .seq (.keep [0, 1, 3, 13, 14]) <|
 .seq (.seq (.ops [⟨some 56, .move (.tmp 14), false, none⟩,
  ⟨some 57, .unOp .not 4 (.tmp 56), false, none⟩]) <|
 .seq (.keep [0, 1, 3, 13, 57]) <|
 .cond (.tmp 57) (.seq (.ops [⟨some 10, .assign (.const (.int .u64 0)), false, none⟩,
  ⟨some 11, .assign (.const (.int .i64 22)), false, none⟩]) <|
 .seq (.keep [10, 11]) <|
 .ret) <|
 .skip) <|
 .seq (.keep [0, 1, 3, 13]) <|
 .seq (.seq (.ops [⟨some 58, .move (.tmp 0), false, none⟩,
  ⟨some 59, .move (.tmp 1), false, none⟩,
  ⟨some 60, .move (.tmp 13), false, none⟩,
  ⟨some 61, .move (.tmp 3), false, none⟩,
  ⟨some 62, .call ⟨.value (.func 25), #[(.tmp 58), (.tmp 59), (.tmp 60), (.tmp 61)], #[42, 22, 22, 3]⟩, true, none⟩,
  ⟨some 15, .assign (.tmp 62), false, none⟩]) <|
 .seq (.keep [1, 15]) <|
 .seq (.ops [⟨some 63, .move (.tmp 15), false, none⟩,
  ⟨some 64, .binOp .neq 53 (.tmp 63) (.const (.int .i64 0)) 53, false, none⟩]) <|
 .seq (.keep [1, 15, 64]) <|
 .cond (.tmp 64) (.seq (.ops [⟨some 65, .move (.tmp 15), false, none⟩,
  ⟨some 10, .assign (.const (.int .u64 0)), false, none⟩,
  ⟨some 11, .assign (.tmp 65), false, none⟩]) <|
 .seq (.keep [10, 11]) <|
 .ret) <|
 .skip) <|
 .seq (.keep [1]) <|
 .seq (.ops [⟨some 66, .move (.tmp 1), false, none⟩,
  ⟨some 10, .assign (.tmp 66), false, none⟩,
  ⟨some 11, .assign (.const (.int .i64 0)), false, none⟩]) <|
 .seq (.keep [10, 11]) <|
 .ret
theorem c13 : Tryz.f13.body.map (fun c => ((compile Tryz.prog kp13 [] kp13 c).map (·.1), fits Tryz.f13.ntmps c)) = some (some s13, true) := by kernel_rfl
theorem r13 : Tryz.f13.results.toList = [.tmp 10, .tmp 11] := by kernel_rfl
-- (*marionette/marionetteref06.Space).Lay
abbrev kp14 : List Nat := [8]
def s14 : SC :=
 .seq (.ops [⟨some 8, .assign (.const (.int .i64 0)), false, none⟩]) <|
 .seq (.keep [0, 1, 2, 3]) <|
 .seq (.seq (.ops [⟨some 13, .move (.tmp 2), false, none⟩,
  ⟨some 14, .move (.tmp 1), false, none⟩,
  ⟨some 15, .binOp .sub 22 (.tmp 13) (.tmp 14) 22, false, none⟩,
  ⟨some 16, .binOp .quo 22 (.tmp 15) (.const (.int .u64 4096)) 22, false, none⟩,
  ⟨some 17, .binOp .gtr 22 (.tmp 16) (.const (.int .u64 8192)) 22, false, none⟩]) <|
 .seq (.keep [0, 1, 2, 3, 17]) <|
 .cond (.tmp 17) (.seq (.ops [⟨some 8, .assign (.const (.int .i64 12)), false, none⟩]) <|
 .seq (.keep [8]) <|
 .ret) <|
 .skip) <|
 .seq (.keep [0, 1, 2, 3]) <|
 .seq (.ops [⟨some 18, .move (.tmp 0), false, none⟩,
  ⟨some 19, .move (.tmp 1), false, none⟩,
  ⟨some 20, .move (.tmp 2), false, none⟩,
  ⟨some 21, .call ⟨.value (.func 26), #[(.tmp 18), (.tmp 19), (.tmp 20)], #[51, 22, 22]⟩, true, none⟩,
  ⟨some 9, .assign (.tmp 21), false, none⟩]) <|
 .seq (.keep [0, 1, 2, 3, 9]) <|
 .seq (.seq (.ops [⟨some 22, .move (.tmp 9), false, none⟩,
  ⟨some 23, .call ⟨.builtin .len, #[(.tmp 22)], #[74]⟩, false, none⟩,
  ⟨some 24, .convert 3 22 (.tmp 23), false, none⟩,
  ⟨some 25, .move (.tmp 2), false, none⟩,
  ⟨some 26, .move (.tmp 1), false, none⟩,
  ⟨some 27, .binOp .sub 22 (.tmp 25) (.tmp 26) 22, false, none⟩,
  ⟨some 28, .binOp .quo 22 (.tmp 27) (.const (.int .u64 4096)) 22, false, none⟩,
  ⟨some 29, .binOp .add 22 (.tmp 24) (.tmp 28) 22, false, none⟩,
  ⟨some 30, .move (.tmp 0), false, none⟩,
  ⟨some 31, .nilCheck (.tmp 30), false, none⟩,
  ⟨some 32, .fieldAddr 76 (.tmp 31) 1, false, none⟩,
  ⟨some 33, .load 3 (.tmp 32), false, none⟩,
  ⟨some 34, .convert 3 22 (.tmp 33), false, none⟩,
  ⟨some 35, .binOp .gtr 22 (.tmp 29) (.tmp 34) 22, false, none⟩]) <|
 .seq (.keep [0, 1, 2, 3, 9, 35]) <|
 .cond (.tmp 35) (.seq (.ops [⟨some 8, .assign (.const (.int .i64 12)), false, none⟩]) <|
 .seq (.keep [8]) <|
 .ret) <|
 .skip) <|
 .seq (.keep [0, 1, 2, 3, 9]) <|
 .seq (.ops [⟨some 10, .assign (.const (.slice none 0 0)), false, none⟩]) <|
 .seq (.keep [0, 1, 2, 3, 9, 10]) <|
 .seq (.ops [⟨some 11, .assign (.const (.int .i64 0)), false, none⟩]) <|
 .seq (.keep [0, 1, 2, 3, 9, 10, 11]) <|
 .seq (.block 0 <| .loop <| .seq (.seq (.seq (.ops [⟨some 36, .move (.tmp 11), false, none⟩,
  ⟨some 37, .move (.tmp 9), false, none⟩,
  ⟨some 38, .call ⟨.builtin .len, #[(.tmp 37)], #[74]⟩, false, none⟩,
  ⟨some 39, .binOp .lss 3 (.tmp 36) (.tmp 38) 3, false, none⟩,
  ⟨some 40, .move (.tmp 39), false, none⟩,
  ⟨some 41, .move (.tmp 9), false, some (40, true)⟩,
  ⟨some 42, .move (.tmp 11), false, some (40, true)⟩,
  ⟨some 43, .indexAddr 74 (.tmp 41) (.tmp 42), false, some (40, true)⟩,
  ⟨some 44, .fieldAddr 81 (.tmp 43) 0, false, some (40, true)⟩,
  ⟨some 45, .load 22 (.tmp 44), false, some (40, true)⟩,
  ⟨some 46, .binOp .mul 22 (.tmp 45) (.const (.int .u64 4096)) 22, false, some (40, true)⟩,
  ⟨some 47, .move (.tmp 1), false, some (40, true)⟩,
  ⟨some 48, .binOp .lss 22 (.tmp 46) (.tmp 47) 22, false, some (40, true)⟩,
  ⟨some 49, .pick (.tmp 40) (.tmp 48) (.const (.bool false)), false, none⟩]) <|
 .seq (.keep [0, 1, 2, 3, 9, 10, 11, 49]) <|
 .cond (.tmp 49) (.skip) <|
 .exit 0) <|
 .seq (.keep [0, 1, 2, 3, 9, 10, 11]) <|
 .seq (.block 1 <| .ops [⟨some 52, .move (.tmp 10), false, none⟩,
  ⟨some 53, .move (.tmp 9), false, none⟩,
  ⟨some 54, .move (.tmp 11), false, none⟩,
  ⟨some 55, .indexAddr 74 (.tmp 53) (.tmp 54), false, none⟩,
  ⟨some 56, .load 81 (.tmp 55), false, none⟩,
  ⟨some 57, .buildSlice 74 1 #[(0, (.tmp 56))], true, none⟩,
  ⟨some 58, .call ⟨.builtin .append, #[(.tmp 52), (.tmp 57)], #[74, 74]⟩, true, none⟩,
  ⟨some 10, .assign (.tmp 58), false, none⟩]) <|
 .seq (.keep [0, 1, 2, 3, 9, 10, 11]) <|
 .ops [⟨some 50, .move (.tmp 11), false, none⟩,
  ⟨some 51, .binOp .add 3 (.tmp 50) (.const (.int .i64 1)) 3, false, none⟩,
  ⟨some 11, .assign (.tmp 51), false, none⟩]) <|
 .keep [0, 1, 2, 3, 9, 10, 11]) <|
 .seq (.keep [0, 1, 2, 3, 9, 10, 11]) <|
 .seq (.seq (.ops [⟨some 59, .move (.tmp 1), false, none⟩,
  ⟨some 12, .assign (.tmp 59), false, none⟩]) <|
 .seq (.keep [0, 2, 3, 9, 10, 11, 12]) <|
 .block 2 <| .loop <| .seq (.seq (.seq (.ops [⟨some 60, .move (.tmp 12), false, none⟩,
  ⟨some 61, .move (.tmp 2), false, none⟩,
  ⟨some 62, .binOp .lss 22 (.tmp 60) (.tmp 61) 22, false, none⟩]) <|
 .seq (.keep [0, 2, 3, 9, 10, 11, 12, 62]) <|
 .cond (.tmp 62) (.skip) <|
 .exit 2) <|
 .seq (.keep [0, 2, 3, 9, 10, 11, 12]) <|
 .seq (.block 3 <| .ops [⟨some 65, .move (.tmp 10), false, none⟩,
  ⟨some 66, .move (.tmp 12), false, none⟩,
  ⟨some 67, .binOp .quo 22 (.tmp 66) (.const (.int .u64 4096)) 22, false, none⟩,
  ⟨some 68, .move (.tmp 3), false, none⟩,
  ⟨some 69, .makeSlice 48 (.const (.int .i64 4096)) (.const (.int .i64 4096)), true, none⟩,
  ⟨some 70, .build 81 #[(0, (.tmp 67)), (1, (.tmp 68)), (2, (.tmp 69))], false, none⟩,
  ⟨some 71, .buildSlice 74 1 #[(0, (.tmp 70))], true, none⟩,
  ⟨some 72, .call ⟨.builtin .append, #[(.tmp 65), (.tmp 71)], #[74, 74]⟩, true, none⟩,
  ⟨some 10, .assign (.tmp 72), false, none⟩]) <|
 .seq (.keep [0, 2, 3, 9, 10, 11, 12]) <|
 .ops [⟨some 63, .move (.tmp 12), false, none⟩,
  ⟨some 64, .binOp .add 22 (.tmp 63) (.const (.int .u64 4096)) 22, false, none⟩,
  ⟨some 12, .assign (.tmp 64), false, none⟩]) <|
 .keep [0, 2, 3, 9, 10, 11, 12]) <|
 .seq (.keep [0, 9, 10, 11]) <|
 .seq (.ops [⟨some 73, .move (.tmp 10), false, none⟩,
  ⟨some 74, .move (.tmp 9), false, none⟩,
  ⟨some 75, .move (.tmp 11), false, none⟩,
  ⟨some 76, .slice 74 (.tmp 74) (some (.tmp 75)) none none, false, none⟩,
  ⟨some 77, .call ⟨.builtin .append, #[(.tmp 73), (.tmp 76)], #[74, 74]⟩, true, none⟩,
  ⟨some 10, .assign (.tmp 77), false, none⟩]) <|
 .seq (.keep [0, 10]) <|
 .seq (.seq (.ops [⟨some 78, .move (.tmp 10), false, none⟩,
  ⟨some 79, .call ⟨.value (.func 27), #[(.tmp 78)], #[74]⟩, true, none⟩,
  ⟨some 80, .call ⟨.builtin .len, #[(.tmp 79)], #[82]⟩, false, none⟩,
  ⟨some 81, .binOp .gtr 3 (.tmp 80) (.const (.int .i64 256)) 3, false, none⟩,
  ⟨some 82, .move (.tmp 81), false, none⟩,
  ⟨some 83, .move (.tmp 10), false, some (82, false)⟩,
  ⟨some 84, .call ⟨.builtin .len, #[(.tmp 83)], #[74]⟩, false, some (82, false)⟩,
  ⟨some 85, .move (.tmp 0), false, some (82, false)⟩,
  ⟨some 86, .nilCheck (.tmp 85), false, some (82, false)⟩,
  ⟨some 87, .fieldAddr 76 (.tmp 86) 1, false, some (82, false)⟩,
  ⟨some 88, .load 3 (.tmp 87), false, some (82, false)⟩,
  ⟨some 89, .binOp .gtr 3 (.tmp 84) (.tmp 88) 3, false, some (82, false)⟩,
  ⟨some 90, .pick (.tmp 82) (.const (.bool true)) (.tmp 89), false, none⟩]) <|
 .seq (.keep [0, 10, 90]) <|
 .cond (.tmp 90) (.seq (.ops [⟨some 8, .assign (.const (.int .i64 12)), false, none⟩]) <|
 .seq (.keep [8]) <|
 .ret) <|
 .skip) <|
 .seq (.keep [0, 10]) <|
 .seq (.ops [⟨some 91, .move (.tmp 0), false, none⟩,
  ⟨some 92, .move (.tmp 10), false, none⟩,
  ⟨some 93, .nilCheck (.tmp 91), false, none⟩,
  ⟨some 94, .fieldAddr 76 (.tmp 93) 0, false, none⟩,
  ⟨none, .store 74 (.tmp 94) (.tmp 92), true, none⟩]) <|
 .seq (.keep []) <|
 .seq (.ops [⟨some 8, .assign (.const (.int .i64 0)), false, none⟩]) <|
 .seq (.keep [8]) <|
 .ret
theorem c14 : Tryz.f14.body.map (fun c => ((compile Tryz.prog kp14 [] kp14 c).map (·.1), fits Tryz.f14.ntmps c)) = some (some s14, true) := by kernel_rfl
theorem r14 : Tryz.f14.results.toList = [.tmp 8] := by kernel_rfl
-- (*marionette/mem.Space).Put
abbrev kp15 : List Nat := []
def s15 : SC :=
 .seq (.seq (.ops [⟨some 9, .move (.tmp 0), false, none⟩,
  ⟨some 10, .binOp .eql 42 (.tmp 9) (.const (.pointer none)) 42, false, none⟩]) <|
 .seq (.keep [0, 1, 2, 10]) <|
 .cond (.tmp 10) (.ret) <|
 .skip) <|
 .seq (.keep [0, 1, 2]) <|
 .block 0 <| .loop <| .seq (.seq (.seq (.ops [⟨some 11, .move (.tmp 2), false, none⟩,
  ⟨some 12, .call ⟨.builtin .len, #[(.tmp 11)], #[48]⟩, false, none⟩,
  ⟨some 13, .binOp .gtr 3 (.tmp 12) (.const (.int .i64 0)) 3, false, none⟩,
  ⟨some 14, .move (.tmp 13), false, none⟩,
  ⟨some 15, .move (.tmp 1), false, some (14, true)⟩,
  ⟨some 16, .binOp .lss 22 (.tmp 15) (.const (.int .u64 274877906944)) 22, false, some (14, true)⟩,
  ⟨some 17, .pick (.tmp 14) (.tmp 16) (.const (.bool false)), false, none⟩]) <|
 .seq (.keep [0, 1, 2, 17]) <|
 .cond (.tmp 17) (.skip) <|
 .exit 0) <|
 .seq (.keep [0, 1, 2]) <|
 .block 1 <| .seq (.ops [⟨some 18, .move (.tmp 2), false, none⟩,
  ⟨some 19, .call ⟨.builtin .len, #[(.tmp 18)], #[48]⟩, false, none⟩,
  ⟨some 20, .convert 3 22 (.tmp 19), false, none⟩,
  ⟨some 21, .move (.tmp 1), false, none⟩,
  ⟨some 22, .binOp .rem 22 (.tmp 21) (.const (.int .u64 4096)) 22, false, none⟩,
  ⟨some 23, .binOp .sub 22 (.const (.int .u64 4096)) (.tmp 22) 22, false, none⟩,
  ⟨some 24, .call ⟨.builtin .min, #[(.tmp 20), (.tmp 23)], #[22, 22]⟩, false, none⟩,
  ⟨some 6, .assign (.tmp 24), false, none⟩]) <|
 .seq (.keep [0, 1, 2, 6]) <|
 .seq (.seq (.ops [⟨some 26, .move (.tmp 0), false, none⟩,
  ⟨some 27, .nilCheck (.tmp 26), false, none⟩,
  ⟨some 28, .fieldAddr 73 (.tmp 27) 0, false, none⟩,
  ⟨some 29, .load 68 (.tmp 28), false, none⟩,
  ⟨some 30, .move (.tmp 1), false, none⟩,
  ⟨some 31, .call ⟨.value (.func 28), #[(.tmp 29), (.tmp 30)], #[68, 22]⟩, true, none⟩,
  ⟨some 25, .move (.tmp 31), false, none⟩,
  ⟨some 32, .extract (.tmp 25) 0, false, none⟩,
  ⟨some 33, .extract (.tmp 25) 1, false, none⟩,
  ⟨some 7, .alloc 85, true, none⟩,
  ⟨none, .store 85 (.tmp 7) (.tmp 32), true, none⟩,
  ⟨some 8, .assign (.tmp 33), false, none⟩]) <|
 .seq (.keep [0, 1, 2, 6, 8]) <|
 .seq (.ops [⟨some 34, .move (.tmp 8), false, none⟩]) <|
 .seq (.keep [0, 1, 2, 6, 34]) <|
 .cond (.tmp 34) (.seq (.ops [⟨some 35, .move (.tmp 0), false, none⟩]) <|
 .seq (.ops [⟨some 36, .nilCheck (.tmp 35), false, none⟩]) <|
 .seq (.ops [⟨some 37, .fieldAddr 73 (.tmp 36) 1, false, none⟩]) <|
 .seq (.ops [⟨some 38, .load 70 (.tmp 37), false, none⟩]) <|
 .seq (.ops [⟨some 39, .move (.tmp 1), false, none⟩]) <|
 .seq (.ops [⟨some 40, .move (.tmp 2), false, none⟩]) <|
 .seq (.ops [⟨some 41, .move (.tmp 6), false, none⟩]) <|
 .seq (.ops [⟨some 42, .slice 48 (.tmp 40) none (some (.tmp 41)) none, false, none⟩]) <|
 .seq (.ops [⟨some 43, .call ⟨.value (.func 29), #[(.tmp 38), (.tmp 39), (.tmp 42)], #[70, 22, 48]⟩, true, none⟩]) <|
 .skip) <|
 .skip) <|
 .seq (.keep [0, 1, 2, 6]) <|
 .seq (.ops [⟨some 44, .move (.tmp 2), false, none⟩,
  ⟨some 45, .move (.tmp 6), false, none⟩,
  ⟨some 46, .slice 48 (.tmp 44) (some (.tmp 45)) none none, false, none⟩,
  ⟨some 2, .assign (.tmp 46), false, none⟩]) <|
 .seq (.keep [0, 1, 2, 6]) <|
 .ops [⟨some 47, .move (.tmp 1), false, none⟩,
  ⟨some 48, .move (.tmp 6), false, none⟩,
  ⟨some 49, .binOp .add 22 (.tmp 47) (.tmp 48) 22, false, none⟩,
  ⟨some 1, .assign (.tmp 49), false, none⟩]) <|
 .keep [0, 1, 2]
theorem c15 : Tryz.f15.body.map (fun c => ((compile Tryz.prog kp15 [] kp15 c).map (·.1), fits Tryz.f15.ntmps c)) = some (some s15, true) := by kernel_rfl
theorem r15 : Tryz.f15.results.toList = [] := by kernel_rfl
-- (*marionette/marionetteref06.Space).Lays
abbrev kp16 : List Nat := []
def s16 : SC :=
 .seq (.ops [⟨some 6, .assign (.const (.int .i64 0)), false, none⟩]) <|
 .seq (.keep [0, 1, 2, 6]) <|
 .block 0 <| .loop <| .seq (.seq (.seq (.ops [⟨some 7, .move (.tmp 6), false, none⟩,
  ⟨some 8, .move (.tmp 2), false, none⟩,
  ⟨some 9, .call ⟨.builtin .len, #[(.tmp 8)], #[48]⟩, false, none⟩,
  ⟨some 10, .binOp .lss 3 (.tmp 7) (.tmp 9) 3, false, none⟩,
  ⟨some 11, .move (.tmp 10), false, none⟩,
  ⟨some 12, .move (.tmp 1), false, some (11, true)⟩,
  ⟨some 13, .binOp .lss 22 (.tmp 12) (.const (.int .u64 274877906944)) 22, false, some (11, true)⟩,
  ⟨some 14, .pick (.tmp 11) (.tmp 13) (.const (.bool false)), false, none⟩,
  ⟨some 15, .move (.tmp 14), false, none⟩,
  ⟨some 16, .move (.tmp 1), false, some (15, true)⟩,
  ⟨some 17, .move (.tmp 6), false, some (15, true)⟩,
  ⟨some 18, .convert 3 22 (.tmp 17), false, some (15, true)⟩,
  ⟨some 19, .binOp .add 22 (.tmp 16) (.tmp 18) 22, false, some (15, true)⟩,
  ⟨some 20, .binOp .lss 22 (.tmp 19) (.const (.int .u64 274877906944)) 22, false, some (15, true)⟩,
  ⟨some 21, .pick (.tmp 15) (.tmp 20) (.const (.bool false)), false, none⟩]) <|
 .seq (.keep [0, 1, 2, 6, 21]) <|
 .cond (.tmp 21) (.skip) <|
 .exit 0) <|
 .seq (.keep [0, 1, 2, 6]) <|
 .seq (.block 1 <| .ops [⟨some 24, .move (.tmp 0), false, none⟩,
  ⟨some 25, .move (.tmp 1), false, none⟩,
  ⟨some 26, .move (.tmp 6), false, none⟩,
  ⟨some 27, .convert 3 22 (.tmp 26), false, none⟩,
  ⟨some 28, .binOp .add 22 (.tmp 25) (.tmp 27) 22, false, none⟩,
  ⟨some 29, .move (.tmp 2), false, none⟩,
  ⟨some 30, .move (.tmp 6), false, none⟩,
  ⟨some 31, .indexAddr 48 (.tmp 29) (.tmp 30), false, none⟩,
  ⟨some 32, .load 5 (.tmp 31), false, none⟩,
  ⟨some 33, .call ⟨.value (.func 30), #[(.tmp 24), (.tmp 28), (.tmp 32)], #[51, 22, 5]⟩, true, none⟩]) <|
 .seq (.keep [0, 1, 2, 6]) <|
 .ops [⟨some 22, .move (.tmp 6), false, none⟩,
  ⟨some 23, .binOp .add 3 (.tmp 22) (.const (.int .i64 1)) 3, false, none⟩,
  ⟨some 6, .assign (.tmp 23), false, none⟩]) <|
 .keep [0, 1, 2, 6]
theorem c16 : Tryz.f16.body.map (fun c => ((compile Tryz.prog kp16 [] kp16 c).map (·.1), fits Tryz.f16.ntmps c)) = some (some s16, true) := by kernel_rfl
theorem r16 : Tryz.f16.results.toList = [] := by kernel_rfl
-- marionette/hart.New
abbrev kp17 : List Nat := [4]
def s17 : SC :=
 .seq (.ops [⟨some 4, .assign (.const (.pointer none)), false, none⟩]) <|
 .seq (.keep [0, 1]) <|
 .seq (.ops [⟨some 5, .move (.tmp 0), false, none⟩,
  ⟨some 6, .move (.tmp 1), false, none⟩,
  ⟨some 7, .build 47 #[(1, (.tmp 5)), (2, (.tmp 6))], false, none⟩,
  ⟨some 8, .box 47 (.tmp 7), true, none⟩,
  ⟨some 4, .assign (.tmp 8), false, none⟩]) <|
 .seq (.keep [4]) <|
 .ret
theorem c17 : Tryz.f17.body.map (fun c => ((compile Tryz.prog kp17 [] kp17 c).map (·.1), fits Tryz.f17.ntmps c)) = some (some s17, true) := by kernel_rfl
theorem r17 : Tryz.f17.results.toList = [.tmp 4] := by kernel_rfl
-- marionette/cache.New
abbrev kp18 : List Nat := [2]
def s18 : SC :=
 .seq (.ops [⟨some 2, .assign (.const (.pointer none)), false, none⟩]) <|
 .seq (.keep [0]) <|
 .seq (.ops [⟨some 3, .move (.tmp 0), false, none⟩,
  ⟨some 4, .makeMap 89 none, true, none⟩,
  ⟨some 5, .build 91 #[(0, (.tmp 3)), (1, (.tmp 4))], false, none⟩,
  ⟨some 6, .box 91 (.tmp 5), true, none⟩,
  ⟨some 2, .assign (.tmp 6), false, none⟩]) <|
 .seq (.keep [2]) <|
 .ret
theorem c18 : Tryz.f18.body.map (fun c => ((compile Tryz.prog kp18 [] kp18 c).map (·.1), fits Tryz.f18.ntmps c)) = some (some s18, true) := by kernel_rfl
theorem r18 : Tryz.f18.results.toList = [.tmp 2] := by kernel_rfl
-- (*marionette/cache.Cache).Fetch
abbrev kp19 : List Nat := [6, 7]
def s19 : SC :=
 .seq (.ops [⟨some 6, .alloc 63, true, none⟩,
  ⟨some 7, .alloc 33, true, none⟩]) <|
 .seq (.keep [0, 1, 2, 6, 7]) <|
 .seq (.seq (.ops [⟨some 14, .move (.tmp 0), false, none⟩,
  ⟨some 15, .binOp .eql 45 (.tmp 14) (.const (.pointer none)) 45, false, none⟩,
  ⟨some 16, .move (.tmp 15), false, none⟩,
  ⟨some 17, .move (.tmp 0), false, some (16, false)⟩,
  ⟨some 18, .nilCheck (.tmp 17), false, some (16, false)⟩,
  ⟨some 19, .fieldAddr 91 (.tmp 18) 0, false, some (16, false)⟩,
  ⟨some 20, .load 4 (.tmp 19), false, some (16, false)⟩,
  ⟨some 21, .unOp .not 4 (.tmp 20), false, some (16, false)⟩,
  ⟨some 22, .pick (.tmp 16) (.const (.bool true)) (.tmp 21), false, none⟩]) <|
 .seq (.keep [0, 1, 2, 6, 7, 22]) <|
 .cond (.tmp 22) (.seq (.ops [⟨some 23, .move (.tmp 1), false, none⟩,
  ⟨some 24, .move (.tmp 2), false, none⟩,
  ⟨some 25, .call ⟨.value (.func 31), #[(.tmp 23), (.tmp 24)], #[42, 22]⟩, true, none⟩,
  ⟨some 26, .extract (.tmp 25) 0, false, none⟩,
  ⟨some 27, .extract (.tmp 25) 1, false, none⟩,
  ⟨none, .store 63 (.tmp 6) (.tmp 26), true, none⟩,
  ⟨none, .store 33 (.tmp 7) (.tmp 27), true, none⟩]) <|
 .seq (.keep [6, 7]) <|
 .ret) <|
 .skip) <|
 .seq (.keep [0, 1, 2, 6, 7]) <|
 .seq (.seq (.ops [⟨some 28, .move (.tmp 0), false, none⟩,
  ⟨some 29, .nilCheck (.tmp 28), false, none⟩,
  ⟨some 30, .fieldAddr 91 (.tmp 29) 2, false, none⟩,
  ⟨some 31, .load 42 (.tmp 30), false, none⟩,
  ⟨some 32, .move (.tmp 1), false, none⟩,
  ⟨some 33, .binOp .neq 42 (.tmp 31) (.tmp 32) 42, false, none⟩]) <|
 .seq (.keep [0, 1, 2, 6, 7, 33]) <|
 .cond (.tmp 33) (.seq (.ops [⟨some 34, .move (.tmp 0), false, none⟩,
  ⟨some 35, .call ⟨.value (.func 32), #[(.tmp 34)], #[45]⟩, true, none⟩]) <|
 .seq (.keep [0, 1, 2, 6, 7]) <|
 .ops [⟨some 36, .move (.tmp 0), false, none⟩,
  ⟨some 37, .move (.tmp 1), false, none⟩,
  ⟨some 38, .nilCheck (.tmp 36), false, none⟩,
  ⟨some 39, .fieldAddr 91 (.tmp 38) 2, false, none⟩,
  ⟨none, .store 42 (.tmp 39) (.tmp 37), true, none⟩]) <|
 .skip) <|
 .seq (.keep [0, 1, 2, 6, 7]) <|
 .seq (.seq (.ops [⟨some 41, .move (.tmp 0), false, none⟩,
  ⟨some 42, .nilCheck (.tmp 41), false, none⟩,
  ⟨some 43, .fieldAddr 91 (.tmp 42) 1, false, none⟩,
  ⟨some 44, .load 89 (.tmp 43), false, none⟩,
  ⟨some 45, .move (.tmp 2), false, none⟩,
  ⟨some 46, .lookup 89 (.tmp 44) (.tmp 45) true, false, none⟩,
  ⟨some 40, .move (.tmp 46), false, none⟩,
  ⟨some 47, .extract (.tmp 40) 0, false, none⟩,
  ⟨some 48, .extract (.tmp 40) 1, false, none⟩,
  ⟨some 8, .alloc 93, true, none⟩,
  ⟨none, .store 93 (.tmp 8) (.tmp 47), true, none⟩,
  ⟨some 9, .assign (.tmp 48), false, none⟩]) <|
 .seq (.keep [0, 1, 2, 6, 7, 8, 9]) <|
 .seq (.ops [⟨some 49, .move (.tmp 9), false, none⟩]) <|
 .seq (.keep [0, 1, 2, 6, 7, 8, 49]) <|
 .cond (.tmp 49) (.seq (.seq (.ops [⟨some 51, .move (.tmp 1), false, none⟩,
  ⟨some 52, .move (.tmp 2), false, none⟩,
  ⟨some 53, .fieldAddr 93 (.tmp 8) 0, false, none⟩,
  ⟨some 54, .fieldAddr 63 (.tmp 53) 6, false, none⟩,
  ⟨some 55, .load 3 (.tmp 54), false, none⟩,
  ⟨some 56, .call ⟨.value (.func 33), #[(.tmp 51), (.tmp 52), (.tmp 55)], #[42, 22, 3]⟩, true, none⟩,
  ⟨some 50, .move (.tmp 56), false, none⟩,
  ⟨some 57, .extract (.tmp 50) 0, false, none⟩,
  ⟨some 58, .extract (.tmp 50) 1, false, none⟩,
  ⟨some 10, .assign (.tmp 57), false, none⟩,
  ⟨some 11, .assign (.tmp 58), false, none⟩]) <|
 .seq (.keep [0, 1, 2, 6, 7, 8, 10, 11]) <|
 .seq (.ops [⟨some 59, .move (.tmp 10), false, none⟩,
  ⟨some 60, .fieldAddr 93 (.tmp 8) 1, false, none⟩,
  ⟨some 61, .load 22 (.tmp 60), false, none⟩,
  ⟨some 62, .binOp .eql 22 (.tmp 59) (.tmp 61) 22, false, none⟩,
  ⟨some 63, .move (.tmp 62), false, none⟩,
  ⟨some 64, .move (.tmp 11), false, some (63, true)⟩,
  ⟨some 65, .fieldAddr 93 (.tmp 8) 2, false, some (63, true)⟩,
  ⟨some 66, .load 22 (.tmp 65), false, some (63, true)⟩,
  ⟨some 67, .binOp .eql 22 (.tmp 64) (.tmp 66) 22, false, some (63, true)⟩,
  ⟨some 68, .pick (.tmp 63) (.tmp 67) (.const (.bool false)), false, none⟩]) <|
 .seq (.keep [0, 1, 2, 6, 7, 8, 68]) <|
 .cond (.tmp 68) (.seq (.ops [⟨some 69, .fieldAddr 93 (.tmp 8) 0, false, none⟩,
  ⟨some 70, .load 63 (.tmp 69), false, none⟩,
  ⟨some 71, .build 33 #[], false, none⟩,
  ⟨none, .store 63 (.tmp 6) (.tmp 70), true, none⟩,
  ⟨none, .store 33 (.tmp 7) (.tmp 71), true, none⟩]) <|
 .seq (.keep [6, 7]) <|
 .ret) <|
 .skip) <|
 .seq (.keep [0, 1, 2, 6, 7]) <|
 .ops [⟨some 72, .move (.tmp 0), false, none⟩,
  ⟨some 73, .nilCheck (.tmp 72), false, none⟩,
  ⟨some 74, .fieldAddr 91 (.tmp 73) 1, false, none⟩,
  ⟨some 75, .load 89 (.tmp 74), false, none⟩,
  ⟨some 76, .move (.tmp 2), false, none⟩,
  ⟨none, .call ⟨.builtin .delete, #[(.tmp 75), (.tmp 76)], #[89, 22]⟩, true, none⟩]) <|
 .skip) <|
 .seq (.keep [0, 1, 2, 6, 7]) <|
 .seq (.ops [⟨some 78, .move (.tmp 1), false, none⟩,
  ⟨some 79, .move (.tmp 2), false, none⟩,
  ⟨some 80, .call ⟨.value (.func 31), #[(.tmp 78), (.tmp 79)], #[42, 22]⟩, true, none⟩,
  ⟨some 77, .move (.tmp 80), false, none⟩,
  ⟨some 81, .extract (.tmp 77) 0, false, none⟩,
  ⟨some 82, .extract (.tmp 77) 1, false, none⟩,
  ⟨none, .store 63 (.tmp 6) (.tmp 81), true, none⟩,
  ⟨none, .store 33 (.tmp 7) (.tmp 82), true, none⟩]) <|
 .seq (.keep [0, 1, 2, 6, 7]) <|
 .seq (.seq (.ops [⟨some 83, .fieldAddr 33 (.tmp 7) 0, false, none⟩,
  ⟨some 84, .load 3 (.tmp 83), false, none⟩,
  ⟨some 85, .binOp .neq 3 (.tmp 84) (.const (.int .i64 0)) 3, false, none⟩]) <|
 .seq (.keep [0, 1, 2, 6, 7, 85]) <|
 .cond (.tmp 85) (.seq (.seq (.ops [⟨some 86, .load 63 (.tmp 6), false, none⟩]) <|
 .amb (.seq (.ops [⟨some 87, .load 33 (.tmp 7), false, none⟩]) <|
 .seq (.ops [⟨none, .store 63 (.tmp 6) (.tmp 86), true, none⟩]) <|
 .seq (.ops [⟨none, .store 33 (.tmp 7) (.tmp 87), true, none⟩]) <|
 .skip) (.seq (.ops [⟨none, .store 63 (.tmp 6) (.tmp 86), true, none⟩]) <|
 .seq (.ops [⟨some 87, .load 33 (.tmp 7), false, none⟩]) <|
 .seq (.ops [⟨none, .store 33 (.tmp 7) (.tmp 87), true, none⟩]) <|
 .skip)) <|
 .seq (.keep [6, 7]) <|
 .ret) <|
 .skip) <|
 .seq (.keep [0, 1, 2, 6, 7]) <|
 .seq (.seq (.ops [⟨some 88, .move (.tmp 0), false, none⟩,
  ⟨some 89, .nilCheck (.tmp 88), false, none⟩,
  ⟨some 90, .fieldAddr 91 (.tmp 89) 1, false, none⟩,
  ⟨some 91, .load 89 (.tmp 90), false, none⟩,
  ⟨some 92, .call ⟨.builtin .len, #[(.tmp 91)], #[89]⟩, false, none⟩,
  ⟨some 93, .binOp .geq 3 (.tmp 92) (.const (.int .i64 4096)) 3, false, none⟩]) <|
 .seq (.keep [0, 1, 2, 6, 7, 93]) <|
 .cond (.tmp 93) (.ops [⟨some 94, .move (.tmp 0), false, none⟩,
  ⟨some 95, .call ⟨.value (.func 32), #[(.tmp 94)], #[45]⟩, true, none⟩]) <|
 .skip) <|
 .seq (.keep [0, 1, 2, 6, 7]) <|
 .seq (.ops [⟨some 97, .move (.tmp 1), false, none⟩,
  ⟨some 98, .move (.tmp 2), false, none⟩,
  ⟨some 99, .fieldAddr 63 (.tmp 6) 6, false, none⟩,
  ⟨some 100, .load 3 (.tmp 99), false, none⟩,
  ⟨some 101, .call ⟨.value (.func 33), #[(.tmp 97), (.tmp 98), (.tmp 100)], #[42, 22, 3]⟩, true, none⟩,
  ⟨some 96, .move (.tmp 101), false, none⟩,
  ⟨some 102, .extract (.tmp 96) 0, false, none⟩,
  ⟨some 103, .extract (.tmp 96) 1, false, none⟩,
  ⟨some 12, .assign (.tmp 102), false, none⟩,
  ⟨some 13, .assign (.tmp 103), false, none⟩]) <|
 .seq (.keep [0, 2, 6, 7, 12, 13]) <|
 .seq (.seq (.ops [⟨some 104, .move (.tmp 0), false, none⟩]) <|
 .seq (.ops [⟨some 105, .nilCheck (.tmp 104), false, none⟩]) <|
 .seq (.ops [⟨some 106, .fieldAddr 91 (.tmp 105) 1, false, none⟩]) <|
 .seq (.ops [⟨some 107, .load 89 (.tmp 106), false, none⟩]) <|
 .seq (.ops [⟨some 108, .move (.tmp 2), false, none⟩]) <|
 .seq (.ops [⟨some 109, .load 63 (.tmp 6), false, none⟩]) <|
 .seq (.ops [⟨some 110, .move (.tmp 12), false, none⟩]) <|
 .seq (.ops [⟨some 111, .move (.tmp 13), false, none⟩]) <|
 .seq (.ops [⟨some 112, .build 93 #[(0, (.tmp 109)), (1, (.tmp 110)), (2, (.tmp 111))], false, none⟩]) <|
 .seq (.ops [⟨none, .mapUpdate 89 (.tmp 107) (.tmp 108) (.tmp 112), true, none⟩]) <|
 .skip) <|
 .seq (.keep [6, 7]) <|
 .seq (.ops [⟨some 113, .load 63 (.tmp 6), false, none⟩,
  ⟨some 114, .build 33 #[], false, none⟩,
  ⟨none, .store 63 (.tmp 6) (.tmp 113), true, none⟩,
  ⟨none, .store 33 (.tmp 7) (.tmp 114), true, none⟩]) <|
 .seq (.keep [6, 7]) <|
 .ret
theorem c19 : Tryz.f19.body.map (fun c => ((compile Tryz.prog kp19 [] kp19 c).map (·.1), fits Tryz.f19.ntmps c)) = some (some s19, true) := by kernel_rfl
theorem r19 : Tryz.f19.results.toList = [.cell 6 63, .cell 7 33] := by kernel_rfl
-- (*marionette/hart.Hart).do
abbrev kp20 : List Nat := [6]
def s20 : SC :=
 .seq (.ops [⟨some 5, .box 63 (.tmp 2), true, none⟩,
  ⟨some 6, .alloc 33, true, none⟩]) <|
 .seq (.keep [0, 1, 5, 6]) <|
 .seq (.ops [⟨some 13, .move (.tmp 1), false, none⟩,
  ⟨some 14, .load 63 (.tmp 5), false, none⟩,
  ⟨some 15, .call ⟨.value (.func 34), #[(.tmp 13), (.tmp 14)], #[67, 63]⟩, true, none⟩,
  ⟨some 12, .move (.tmp 15), false, none⟩,
  ⟨some 16, .extract (.tmp 12) 0, false, none⟩,
  ⟨some 17, .extract (.tmp 12) 1, false, none⟩,
  ⟨some 7, .assign (.tmp 16), false, none⟩,
  ⟨some 8, .assign (.tmp 17), false, none⟩]) <|
 .seq (.keep [0, 1, 5, 6, 7, 8]) <|
 .seq (.seq (.ops [⟨some 18, .move (.tmp 8), false, none⟩,
  ⟨some 19, .unOp .not 4 (.tmp 18), false, none⟩]) <|
 .seq (.keep [0, 1, 5, 6, 7, 19]) <|
 .cond (.tmp 19) (.seq (.ops [⟨some 9, .alloc 33, true, none⟩]) <|
 .seq (.keep [0, 1, 5, 6, 9]) <|
 .seq (.seq (.ops [⟨some 21, .fieldAddr 63 (.tmp 5) 0, false, none⟩,
  ⟨some 22, .load 3 (.tmp 21), false, none⟩,
  ⟨some 23, .call ⟨.value (.func 35), #[(.tmp 22)], #[3]⟩, true, none⟩,
  ⟨some 20, .move (.tmp 23), false, none⟩,
  ⟨some 24, .extract (.tmp 20) 0, false, none⟩,
  ⟨some 25, .extract (.tmp 20) 1, false, none⟩,
  ⟨some 10, .assign (.tmp 24), false, none⟩,
  ⟨some 11, .assign (.tmp 25), false, none⟩]) <|
 .seq (.keep [0, 1, 5, 6, 9, 10, 11]) <|
 .seq (.ops [⟨some 26, .move (.tmp 10), false, none⟩,
  ⟨some 27, .binOp .gtr 3 (.tmp 26) (.const (.int .i64 0)) 3, false, none⟩]) <|
 .seq (.keep [0, 1, 5, 6, 9, 10, 11, 27]) <|
 .cond (.tmp 27) (.ops [⟨some 28, .move (.tmp 0), false, none⟩,
  ⟨some 29, .move (.tmp 1), false, none⟩,
  ⟨some 30, .load 63 (.tmp 5), false, none⟩,
  ⟨some 31, .move (.tmp 10), false, none⟩,
  ⟨some 32, .move (.tmp 11), false, none⟩,
  ⟨some 33, .call ⟨.value (.func 36), #[(.tmp 28), (.tmp 29), (.tmp 30), (.tmp 31), (.tmp 32)], #[28, 67, 63, 3, 4]⟩, true, none⟩,
  ⟨none, .store 33 (.tmp 9) (.tmp 33), true, none⟩]) <|
 .ops [⟨some 34, .move (.tmp 0), false, none⟩,
  ⟨some 35, .move (.tmp 1), false, none⟩,
  ⟨some 36, .load 63 (.tmp 5), false, none⟩,
  ⟨some 37, .call ⟨.value (.func 37), #[(.tmp 34), (.tmp 35), (.tmp 36)], #[28, 67, 63]⟩, true, none⟩,
  ⟨none, .store 33 (.tmp 9) (.tmp 37), true, none⟩]) <|
 .seq (.keep [1, 5, 6, 9]) <|
 .seq (.seq (.ops [⟨some 38, .fieldAddr 33 (.tmp 9) 0, false, none⟩,
  ⟨some 39, .load 3 (.tmp 38), false, none⟩,
  ⟨some 40, .binOp .neq 3 (.tmp 39) (.const (.int .i64 0)) 3, false, none⟩]) <|
 .seq (.keep [1, 5, 6, 9, 40]) <|
 .cond (.tmp 40) (.seq (.ops [⟨some 41, .load 33 (.tmp 9), false, none⟩,
  ⟨none, .store 33 (.tmp 6) (.tmp 41), true, none⟩]) <|
 .seq (.keep [6]) <|
 .ret) <|
 .skip) <|
 .seq (.keep [1, 5, 6]) <|
 .seq (.ops [⟨some 42, .move (.tmp 1), false, none⟩]) <|
 .seq (.ops [⟨some 43, .nilCheck (.tmp 42), false, none⟩]) <|
 .seq (.ops [⟨some 44, .fieldAddr 27 (.tmp 43) 0, false, none⟩]) <|
 .seq (.ops [⟨some 45, .load 22 (.tmp 44), false, none⟩]) <|
 .seq (.ops [⟨some 46, .fieldAddr 63 (.tmp 5) 6, false, none⟩]) <|
 .seq (.ops [⟨some 47, .load 3 (.tmp 46), false, none⟩]) <|
 .seq (.ops [⟨some 48, .convert 3 22 (.tmp 47), false, none⟩]) <|
 .seq (.ops [⟨some 49, .binOp .add 22 (.tmp 45) (.tmp 48) 22, false, none⟩]) <|
 .seq (.ops [⟨some 7, .assign (.tmp 49), false, none⟩]) <|
 .skip) <|
 .skip) <|
 .seq (.keep [1, 6, 7]) <|
 .seq (.ops [⟨some 50, .move (.tmp 1), false, none⟩,
  ⟨some 51, .move (.tmp 7), false, none⟩,
  ⟨some 52, .nilCheck (.tmp 50), false, none⟩,
  ⟨some 53, .fieldAddr 27 (.tmp 52) 0, false, none⟩,
  ⟨none, .store 22 (.tmp 53) (.tmp 51), true, none⟩]) <|
 .seq (.keep [1, 6]) <|
 .seq (.ops [⟨some 54, .move (.tmp 1), false, none⟩,
  ⟨some 55, .nilCheck (.tmp 54), false, none⟩,
  ⟨some 56, .fieldAddr 27 (.tmp 55) 1, false, none⟩,
  ⟨some 57, .indexAddr 23 (.tmp 56) (.const (.int .i64 0)), false, none⟩,
  ⟨none, .store 22 (.tmp 57) (.const (.int .u64 0)), true, none⟩]) <|
 .seq (.keep [6]) <|
 .seq (.ops [⟨some 58, .build 33 #[], false, none⟩,
  ⟨none, .store 33 (.tmp 6) (.tmp 58), true, none⟩]) <|
 .seq (.keep [6]) <|
 .ret
theorem c20 : Tryz.f20.body.map (fun c => ((compile Tryz.prog kp20 [] kp20 c).map (·.1), fits Tryz.f20.ntmps c)) = some (some s20, true) := by kernel_rfl
theorem r20 : Tryz.f20.results.toList = [.cell 6 33] := by kernel_rfl
-- marionette/region.New
abbrev kp21 : List Nat := [0]
def s21 : SC :=
 .seq (.ops [⟨some 0, .assign (.const (.pointer none)), false, none⟩]) <|
 .seq (.keep []) <|
 .seq (.ops [⟨some 1, .build 102 #[], false, none⟩,
  ⟨some 2, .box 102 (.tmp 1), true, none⟩,
  ⟨some 0, .assign (.tmp 2), false, none⟩]) <|
 .seq (.keep [0]) <|
 .ret
theorem c21 : Tryz.f21.body.map (fun c => ((compile Tryz.prog kp21 [] kp21 c).map (·.1), fits Tryz.f21.ntmps c)) = some (some s21, true) := by kernel_rfl
theorem r21 : Tryz.f21.results.toList = [.tmp 0] := by kernel_rfl
-- marionette/page.New
abbrev kp22 : List Nat := [0]
def s22 : SC :=
 .seq (.ops [⟨some 0, .assign (.const (.pointer none)), false, none⟩]) <|
 .seq (.keep []) <|
 .seq (.ops [⟨some 1, .makeMap 103 none, true, none⟩,
  ⟨some 2, .makeMap 104 none, true, none⟩,
  ⟨some 3, .build 106 #[(0, (.tmp 1)), (1, (.tmp 2))], false, none⟩,
  ⟨some 4, .box 106 (.tmp 3), true, none⟩,
  ⟨some 0, .assign (.tmp 4), false, none⟩]) <|
 .seq (.keep [0]) <|
 .ret
theorem c22 : Tryz.f22.body.map (fun c => ((compile Tryz.prog kp22 [] kp22 c).map (·.1), fits Tryz.f22.ntmps c)) = some (some s22, true) := by kernel_rfl
theorem r22 : Tryz.f22.results.toList = [.tmp 0] := by kernel_rfl
-- (*marionette/mem.Space).where
abbrev kp23 : List Nat := [6, 7]
def s23 : SC :=
 .seq (.ops [⟨some 6, .assign (.const (.int .u64 0)), false, none⟩,
  ⟨some 7, .assign (.const (.bool false)), false, none⟩]) <|
 .seq (.keep [0, 1, 2]) <|
 .seq (.seq (.ops [⟨some 11, .move (.tmp 1), false, none⟩,
  ⟨some 12, .move (.tmp 2), false, none⟩,
  ⟨some 13, .call ⟨.value (.func 24), #[(.tmp 11), (.tmp 12)], #[22, 22]⟩, true, none⟩,
  ⟨some 10, .move (.tmp 13), false, none⟩,
  ⟨some 14, .extract (.tmp 10) 0, false, none⟩,
  ⟨some 15, .extract (.tmp 10) 1, false, none⟩,
  ⟨some 8, .assign (.tmp 14), false, none⟩,
  ⟨some 9, .assign (.tmp 15), false, none⟩]) <|
 .seq (.keep [0, 1, 2, 8, 9]) <|
 .seq (.ops [⟨some 16, .move (.tmp 9), false, none⟩,
  ⟨some 17, .move (.tmp 16), false, none⟩,
  ⟨some 18, .move (.tmp 1), false, some (17, true)⟩,
  ⟨some 19, .binOp .neq 22 (.tmp 18) (.const (.int .u64 0)) 22, false, some (17, true)⟩,
  ⟨some 20, .pick (.tmp 17) (.tmp 19) (.const (.bool false)), false, none⟩,
  ⟨some 21, .move (.tmp 20), false, none⟩,
  ⟨some 22, .move (.tmp 0), false, some (21, true)⟩,
  ⟨some 23, .nilCheck (.tmp 22), false, some (21, true)⟩,
  ⟨some 24, .fieldAddr 73 (.tmp 23) 0, false, some (21, true)⟩,
  ⟨some 25, .load 68 (.tmp 24), false, some (21, true)⟩,
  ⟨some 26, .move (.tmp 1), false, some (21, true)⟩,
  ⟨some 27, .move (.tmp 8), false, some (21, true)⟩,
  ⟨some 28, .call ⟨.value (.func 38), #[(.tmp 25), (.tmp 26), (.tmp 27)], #[68, 22, 22]⟩, true, some (21, true)⟩,
  ⟨some 29, .pick (.tmp 21) (.tmp 28) (.const (.bool false)), false, none⟩]) <|
 .seq (.keep [0, 1, 2, 29]) <|
 .cond (.tmp 29) (.seq (.ops [⟨some 30, .move (.tmp 1), false, none⟩,
  ⟨some 6, .assign (.tmp 30), false, none⟩,
  ⟨some 7, .assign (.const (.bool true)), false, none⟩]) <|
 .seq (.keep [6, 7]) <|
 .ret) <|
 .skip) <|
 .seq (.keep [0, 2]) <|
 .seq (.ops [⟨some 31, .move (.tmp 0), false, none⟩,
  ⟨some 32, .nilCheck (.tmp 31), false, none⟩,
  ⟨some 33, .fieldAddr 73 (.tmp 32) 0, false, none⟩,
  ⟨some 34, .load 68 (.tmp 33), false, none⟩,
  ⟨some 35, .move (.tmp 2), false, none⟩,
  ⟨some 36, .call ⟨.value (.func 39), #[(.tmp 34), (.tmp 35), (.const (.int .u64 274877833216))], #[68, 22, 22]⟩, true, none⟩,
  ⟨some 37, .extract (.tmp 36) 0, false, none⟩,
  ⟨some 38, .extract (.tmp 36) 1, false, none⟩,
  ⟨some 6, .assign (.tmp 37), false, none⟩,
  ⟨some 7, .assign (.tmp 38), false, none⟩]) <|
 .seq (.keep [6, 7]) <|
 .ret
theorem c23 : Tryz.f23.body.map (fun c => ((compile Tryz.prog kp23 [] kp23 c).map (·.1), fits Tryz.f23.ntmps c)) = some (some s23, true) := by kernel_rfl
theorem r23 : Tryz.f23.results.toList = [.tmp 6, .tmp 7] := by kernel_rfl
-- marionette/mem.span
abbrev kp24 : List Nat := [4, 5]
def s24 : SC :=
 .seq (.ops [⟨some 4, .assign (.const (.int .u64 0)), false, none⟩,
  ⟨some 5, .assign (.const (.bool false)), false, none⟩]) <|
 .seq (.keep [0, 1]) <|
 .seq (.ops [⟨some 7, .move (.tmp 1), false, none⟩,
  ⟨some 8, .call ⟨.value (.func 40), #[(.tmp 7)], #[22]⟩, true, none⟩,
  ⟨some 6, .move (.tmp 8), false, none⟩,
  ⟨some 9, .extract (.tmp 6) 0, false, none⟩,
  ⟨some 10, .extract (.tmp 6) 1, false, none⟩,
  ⟨some 1, .assign (.tmp 9), false, none⟩,
  ⟨some 5, .assign (.tmp 10), false, none⟩]) <|
 .seq (.keep [0, 1, 5]) <|
 .seq (.seq (.ops [⟨some 11, .move (.tmp 5), false, none⟩,
  ⟨some 12, .unOp .not 4 (.tmp 11), false, none⟩,
  ⟨some 13, .move (.tmp 12), false, none⟩,
  ⟨some 14, .move (.tmp 0), false, some (13, false)⟩,
  ⟨some 15, .binOp .rem 22 (.tmp 14) (.const (.int .u64 4096)) 22, false, some (13, false)⟩,
  ⟨some 16, .binOp .neq 22 (.tmp 15) (.const (.int .u64 0)) 22, false, some (13, false)⟩,
  ⟨some 17, .pick (.tmp 13) (.const (.bool true)) (.tmp 16), false, none⟩,
  ⟨some 18, .move (.tmp 17), false, none⟩,
  ⟨some 19, .move (.tmp 0), false, some (18, false)⟩,
  ⟨some 20, .binOp .gtr 22 (.tmp 19) (.const (.int .u64 274877906944)) 22, false, some (18, false)⟩,
  ⟨some 21, .pick (.tmp 18) (.const (.bool true)) (.tmp 20), false, none⟩,
  ⟨some 22, .move (.tmp 21), false, none⟩,
  ⟨some 23, .move (.tmp 1), false, some (22, false)⟩,
  ⟨some 24, .binOp .eql 22 (.tmp 23) (.const (.int .u64 0)) 22, false, some (22, false)⟩,
  ⟨some 25, .pick (.tmp 22) (.const (.bool true)) (.tmp 24), false, none⟩,
  ⟨some 26, .move (.tmp 25), false, none⟩,
  ⟨some 27, .move (.tmp 1), false, some (26, false)⟩,
  ⟨some 28, .move (.tmp 0), false, some (26, false)⟩,
  ⟨some 29, .binOp .sub 22 (.const (.int .u64 274877906944)) (.tmp 28) 22, false, some (26, false)⟩,
  ⟨some 30, .binOp .gtr 22 (.tmp 27) (.tmp 29) 22, false, some (26, false)⟩,
  ⟨some 31, .pick (.tmp 26) (.const (.bool true)) (.tmp 30), false, none⟩]) <|
 .seq (.keep [0, 1, 31]) <|
 .cond (.tmp 31) (.seq (.ops [⟨some 4, .assign (.const (.int .u64 0)), false, none⟩,
  ⟨some 5, .assign (.const (.bool false)), false, none⟩]) <|
 .seq (.keep [4, 5]) <|
 .ret) <|
 .skip) <|
 .seq (.keep [0, 1]) <|
 .seq (.ops [⟨some 32, .move (.tmp 0), false, none⟩,
  ⟨some 33, .move (.tmp 1), false, none⟩,
  ⟨some 34, .binOp .add 22 (.tmp 32) (.tmp 33) 22, false, none⟩,
  ⟨some 4, .assign (.tmp 34), false, none⟩,
  ⟨some 5, .assign (.const (.bool true)), false, none⟩]) <|
 .seq (.keep [4, 5]) <|
 .ret
theorem c24 : Tryz.f24.body.map (fun c => ((compile Tryz.prog kp24 [] kp24 c).map (·.1), fits Tryz.f24.ntmps c)) = some (some s24, true) := by kernel_rfl
theorem r24 : Tryz.f24.results.toList = [.tmp 4, .tmp 5] := by kernel_rfl
-- (*marionette/mem.Space).lay
abbrev kp25 : List Nat := [8]
def s25 : SC :=
 .seq (.ops [⟨some 8, .assign (.const (.int .i64 0)), false, none⟩]) <|
 .seq (.keep [0, 1, 2, 3]) <|
 .seq (.ops [⟨some 11, .move (.tmp 0), false, none⟩,
  ⟨some 12, .nilCheck (.tmp 11), false, none⟩,
  ⟨some 13, .fieldAddr 73 (.tmp 12) 0, false, none⟩,
  ⟨some 14, .load 68 (.tmp 13), false, none⟩,
  ⟨some 15, .call ⟨.value (.func 41), #[(.tmp 14)], #[68]⟩, true, none⟩,
  ⟨some 9, .assign (.tmp 15), false, none⟩]) <|
 .seq (.keep [0, 1, 2, 3, 9]) <|
 .seq (.seq (.ops [⟨some 16, .move (.tmp 9), false, none⟩,
  ⟨some 17, .move (.tmp 1), false, none⟩,
  ⟨some 18, .move (.tmp 2), false, none⟩,
  ⟨some 19, .move (.tmp 3), false, none⟩,
  ⟨some 20, .call ⟨.value (.func 42), #[(.tmp 16), (.tmp 17), (.tmp 18), (.tmp 19)], #[68, 22, 22, 3]⟩, true, none⟩,
  ⟨some 10, .assign (.tmp 20), false, none⟩]) <|
 .seq (.keep [0, 1, 2, 9, 10]) <|
 .seq (.ops [⟨some 21, .move (.tmp 10), false, none⟩,
  ⟨some 22, .binOp .neq 53 (.tmp 21) (.const (.int .i64 0)) 53, false, none⟩]) <|
 .seq (.keep [0, 1, 2, 9, 10, 22]) <|
 .cond (.tmp 22) (.seq (.ops [⟨some 23, .move (.tmp 10), false, none⟩,
  ⟨some 8, .assign (.tmp 23), false, none⟩]) <|
 .seq (.keep [8]) <|
 .ret) <|
 .skip) <|
 .seq (.keep [0, 1, 2, 9]) <|
 .seq (.seq (.seq (.ops [⟨some 24, .move (.tmp 9), false, none⟩]) <|
 .seq (.ops [⟨some 26, .move (.tmp 0), false, none⟩]) <|
 .seq (.ops [⟨some 27, .nilCheck (.tmp 26), false, none⟩]) <|
 .seq (.ops [⟨some 28, .fieldAddr 73 (.tmp 27) 2, false, none⟩]) <|
 .amb (.seq (.ops [⟨some 25, .call ⟨.value (.func 43), #[(.tmp 24)], #[68]⟩, true, none⟩]) <|
 .seq (.ops [⟨some 29, .load 3 (.tmp 28), false, none⟩]) <|
 .seq (.ops [⟨some 30, .binOp .gtr 3 (.tmp 25) (.tmp 29) 3, false, none⟩]) <|
 .skip) (.seq (.ops [⟨some 29, .load 3 (.tmp 28), false, none⟩]) <|
 .seq (.ops [⟨some 25, .call ⟨.value (.func 43), #[(.tmp 24)], #[68]⟩, true, none⟩]) <|
 .seq (.ops [⟨some 30, .binOp .gtr 3 (.tmp 25) (.tmp 29) 3, false, none⟩]) <|
 .skip)) <|
 .seq (.keep [0, 1, 2, 9, 30]) <|
 .cond (.tmp 30) (.seq (.ops [⟨some 8, .assign (.const (.int .i64 12)), false, none⟩]) <|
 .seq (.keep [8]) <|
 .ret) <|
 .skip) <|
 .seq (.keep [0, 1, 2, 9]) <|
 .seq (.ops [⟨some 31, .move (.tmp 0), false, none⟩,
  ⟨some 32, .move (.tmp 9), false, none⟩,
  ⟨some 33, .nilCheck (.tmp 31), false, none⟩,
  ⟨some 34, .fieldAddr 73 (.tmp 33) 0, false, none⟩,
  ⟨none, .store 68 (.tmp 34) (.tmp 32), true, none⟩]) <|
 .seq (.keep [0, 1, 2]) <|
 .seq (.ops [⟨some 35, .move (.tmp 0), false, none⟩,
  ⟨some 36, .nilCheck (.tmp 35), false, none⟩,
  ⟨some 37, .fieldAddr 73 (.tmp 36) 1, false, none⟩,
  ⟨some 38, .load 70 (.tmp 37), false, none⟩,
  ⟨some 39, .move (.tmp 1), false, none⟩,
  ⟨some 40, .move (.tmp 2), false, none⟩,
  ⟨some 41, .call ⟨.value (.func 44), #[(.tmp 38), (.tmp 39), (.tmp 40)], #[70, 22, 22]⟩, true, none⟩]) <|
 .seq (.keep []) <|
 .seq (.ops [⟨some 8, .assign (.const (.int .i64 0)), false, none⟩]) <|
 .seq (.keep [8]) <|
 .ret
theorem c25 : Tryz.f25.body.map (fun c => ((compile Tryz.prog kp25 [] kp25 c).map (·.1), fits Tryz.f25.ntmps c)) = some (some s25, true) := by kernel_rfl
theorem r25 : Tryz.f25.results.toList = [.tmp 8] := by kernel_rfl
-- (*marionette/marionetteref06.Space).without
abbrev kp26 : List Nat := [6]
def s26 : SC :=
 .seq (.ops [⟨some 6, .assign (.const (.slice none 0 0)), false, none⟩]) <|
 .seq (.keep [0, 1, 2]) <|
 .seq (.ops [⟨some 7, .assign (.const (.slice none 0 0)), false, none⟩]) <|
 .seq (.keep [0, 1, 2, 7]) <|
 .seq (.seq (.ops [⟨some 8, .assign (.const (.int .i64 0)), false, none⟩]) <|
 .seq (.keep [0, 1, 2, 7, 8]) <|
 .block 0 <| .loop <| .seq (.seq (.seq (.ops [⟨some 10, .move (.tmp 8), false, none⟩,
  ⟨some 11, .move (.tmp 0), false, none⟩,
  ⟨some 12, .nilCheck (.tmp 11), false, none⟩,
  ⟨some 13, .fieldAddr 76 (.tmp 12) 0, false, none⟩,
  ⟨some 14, .load 74 (.tmp 13), false, none⟩,
  ⟨some 15, .call ⟨.builtin .len, #[(.tmp 14)], #[74]⟩, false, none⟩,
  ⟨some 16, .binOp .lss 3 (.tmp 10) (.tmp 15) 3, false, none⟩]) <|
 .seq (.keep [0, 1, 2, 7, 8, 16]) <|
 .cond (.tmp 16) (.skip) <|
 .exit 0) <|
 .seq (.keep [0, 1, 2, 7, 8]) <|
 .seq (.block 1 <| .seq (.ops [⟨some 19, .move (.tmp 0), false, none⟩,
  ⟨some 20, .nilCheck (.tmp 19), false, none⟩,
  ⟨some 21, .fieldAddr 76 (.tmp 20) 0, false, none⟩,
  ⟨some 22, .load 74 (.tmp 21), false, none⟩,
  ⟨some 23, .move (.tmp 8), false, none⟩,
  ⟨some 24, .indexAddr 74 (.tmp 22) (.tmp 23), false, none⟩,
  ⟨some 25, .fieldAddr 81 (.tmp 24) 0, false, none⟩,
  ⟨some 26, .load 22 (.tmp 25), false, none⟩,
  ⟨some 27, .binOp .mul 22 (.tmp 26) (.const (.int .u64 4096)) 22, false, none⟩,
  ⟨some 9, .assign (.tmp 27), false, none⟩]) <|
 .seq (.keep [0, 1, 2, 7, 8, 9]) <|
 .seq (.ops [⟨some 28, .move (.tmp 9), false, none⟩,
  ⟨some 29, .move (.tmp 1), false, none⟩,
  ⟨some 30, .binOp .lss 22 (.tmp 28) (.tmp 29) 22, false, none⟩,
  ⟨some 31, .move (.tmp 30), false, none⟩,
  ⟨some 32, .move (.tmp 9), false, some (31, false)⟩,
  ⟨some 33, .move (.tmp 2), false, some (31, false)⟩,
  ⟨some 34, .binOp .geq 22 (.tmp 32) (.tmp 33) 22, false, some (31, false)⟩,
  ⟨some 35, .pick (.tmp 31) (.const (.bool true)) (.tmp 34), false, none⟩]) <|
 .seq (.keep [0, 1, 2, 7, 8, 35]) <|
 .cond (.tmp 35) (.ops [⟨some 36, .move (.tmp 7), false, none⟩,
  ⟨some 37, .move (.tmp 0), false, none⟩,
  ⟨some 38, .nilCheck (.tmp 37), false, none⟩,
  ⟨some 39, .fieldAddr 76 (.tmp 38) 0, false, none⟩,
  ⟨some 40, .load 74 (.tmp 39), false, none⟩,
  ⟨some 41, .move (.tmp 8), false, none⟩,
  ⟨some 42, .indexAddr 74 (.tmp 40) (.tmp 41), false, none⟩,
  ⟨some 43, .load 81 (.tmp 42), false, none⟩,
  ⟨some 44, .buildSlice 74 1 #[(0, (.tmp 43))], true, none⟩,
  ⟨some 45, .call ⟨.builtin .append, #[(.tmp 36), (.tmp 44)], #[74, 74]⟩, true, none⟩,
  ⟨some 7, .assign (.tmp 45), false, none⟩]) <|
 .skip) <|
 .seq (.keep [0, 1, 2, 7, 8]) <|
 .ops [⟨some 17, .move (.tmp 8), false, none⟩,
  ⟨some 18, .binOp .add 3 (.tmp 17) (.const (.int .i64 1)) 3, false, none⟩,
  ⟨some 8, .assign (.tmp 18), false, none⟩]) <|
 .keep [0, 1, 2, 7, 8]) <|
 .seq (.keep [7]) <|
 .seq (.ops [⟨some 46, .move (.tmp 7), false, none⟩,
  ⟨some 6, .assign (.tmp 46), false, none⟩]) <|
 .seq (.keep [6]) <|
 .ret
theorem c26 : Tryz.f26.body.map (fun c => ((compile Tryz.prog kp26 [] kp26 c).map (·.1), fits Tryz.f26.ntmps c)) = some (some s26, true) := by kernel_rfl
theorem r26 : Tryz.f26.results.toList = [.tmp 6] := by kernel_rfl
-- marionette/marionetteref06.Regions
abbrev kp27 : List Nat := [2]
def s27 : SC :=
 .seq (.ops [⟨some 2, .assign (.const (.slice none 0 0)), false, none⟩]) <|
 .seq (.keep [0]) <|
 .seq (.ops [⟨some 3, .assign (.const (.slice none 0 0)), false, none⟩]) <|
 .seq (.keep [0, 3]) <|
 .seq (.seq (.ops [⟨some 4, .assign (.const (.int .i64 0)), false, none⟩]) <|
 .seq (.keep [0, 3, 4]) <|
 .block 0 <| .loop <| .seq (.seq (.seq (.ops [⟨some 7, .move (.tmp 4), false, none⟩,
  ⟨some 8, .move (.tmp 0), false, none⟩,
  ⟨some 9, .call ⟨.builtin .len, #[(.tmp 8)], #[74]⟩, false, none⟩,
  ⟨some 10, .binOp .lss 3 (.tmp 7) (.tmp 9) 3, false, none⟩]) <|
 .seq (.keep [0, 3, 4, 10]) <|
 .cond (.tmp 10) (.skip) <|
 .exit 0) <|
 .seq (.keep [0, 3, 4]) <|
 .seq (.block 1 <| .seq (.ops [⟨some 13, .move (.tmp 3), false, none⟩,
  ⟨some 14, .call ⟨.builtin .len, #[(.tmp 13)], #[82]⟩, false, none⟩,
  ⟨some 5, .assign (.tmp 14), false, none⟩]) <|
 .seq (.keep [0, 3, 4, 5]) <|
 .seq (.ops [⟨some 15, .move (.tmp 0), false, none⟩,
  ⟨some 16, .move (.tmp 4), false, none⟩,
  ⟨some 17, .indexAddr 74 (.tmp 15) (.tmp 16), false, none⟩,
  ⟨some 18, .fieldAddr 81 (.tmp 17) 0, false, none⟩,
  ⟨some 19, .load 22 (.tmp 18), false, none⟩,
  ⟨some 20, .binOp .mul 22 (.tmp 19) (.const (.int .u64 4096)) 22, false, none⟩,
  ⟨some 6, .assign (.tmp 20), false, none⟩]) <|
 .seq (.keep [0, 3, 4, 5, 6]) <|
 .seq (.seq (.ops [⟨some 21, .move (.tmp 5), false, none⟩]) <|
 .seq (.ops [⟨some 22, .binOp .gtr 3 (.tmp 21) (.const (.int .i64 0)) 3, false, none⟩]) <|
 .seq (.ops [⟨some 23, .move (.tmp 22), false, none⟩]) <|
 .seq (.ops [⟨some 24, .move (.tmp 3), false, some (23, true)⟩]) <|
 .seq (.ops [⟨some 25, .move (.tmp 5), false, some (23, true)⟩]) <|
 .seq (.ops [⟨some 26, .binOp .sub 3 (.tmp 25) (.const (.int .i64 1)) 3, false, some (23, true)⟩]) <|
 .seq (.ops [⟨some 27, .indexAddr 82 (.tmp 24) (.tmp 26), false, some (23, true)⟩]) <|
 .seq (.ops [⟨some 28, .fieldAddr 85 (.tmp 27) 1, false, some (23, true)⟩]) <|
 .seq (.ops [⟨some 29, .load 22 (.tmp 28), false, some (23, true)⟩]) <|
 .seq (.ops [⟨some 30, .move (.tmp 6), false, some (23, true)⟩]) <|
 .seq (.ops [⟨some 31, .binOp .eql 22 (.tmp 29) (.tmp 30) 22, false, some (23, true)⟩]) <|
 .seq (.ops [⟨some 32, .pick (.tmp 23) (.tmp 31) (.const (.bool false)), false, none⟩]) <|
 .seq (.ops [⟨some 33, .move (.tmp 32), false, none⟩]) <|
 .seq (.ops [⟨some 34, .move (.tmp 3), false, some (33, true)⟩]) <|
 .seq (.ops [⟨some 35, .move (.tmp 5), false, some (33, true)⟩]) <|
 .seq (.ops [⟨some 36, .binOp .sub 3 (.tmp 35) (.const (.int .i64 1)) 3, false, some (33, true)⟩]) <|
 .seq (.ops [⟨some 37, .indexAddr 82 (.tmp 34) (.tmp 36), false, some (33, true)⟩]) <|
 .seq (.ops [⟨some 38, .fieldAddr 85 (.tmp 37) 2, false, some (33, true)⟩]) <|
 .seq (.ops [⟨some 39, .load 3 (.tmp 38), false, some (33, true)⟩]) <|
 .seq (.ops [⟨some 40, .move (.tmp 0), false, some (33, true)⟩]) <|
 .seq (.ops [⟨some 41, .move (.tmp 4), false, some (33, true)⟩]) <|
 .seq (.ops [⟨some 42, .indexAddr 74 (.tmp 40) (.tmp 41), false, some (33, true)⟩]) <|
 .seq (.ops [⟨some 43, .fieldAddr 81 (.tmp 42) 1, false, some (33, true)⟩]) <|
 .seq (.ops [⟨some 44, .load 3 (.tmp 43), false, some (33, true)⟩]) <|
 .seq (.ops [⟨some 45, .binOp .eql 3 (.tmp 39) (.tmp 44) 3, false, some (33, true)⟩]) <|
 .seq (.ops [⟨some 46, .pick (.tmp 33) (.tmp 45) (.const (.bool false)), false, none⟩]) <|
 .skip) <|
 .seq (.keep [0, 3, 4, 5, 6, 46]) <|
 .cond (.tmp 46) (.ops [⟨some 47, .move (.tmp 3), false, none⟩,
  ⟨some 48, .move (.tmp 5), false, none⟩,
  ⟨some 49, .binOp .sub 3 (.tmp 48) (.const (.int .i64 1)) 3, false, none⟩,
  ⟨some 50, .move (.tmp 6), false, none⟩,
  ⟨some 51, .binOp .add 22 (.tmp 50) (.const (.int .u64 4096)) 22, false, none⟩,
  ⟨some 52, .indexAddr 82 (.tmp 47) (.tmp 49), false, none⟩,
  ⟨some 53, .fieldAddr 85 (.tmp 52) 1, false, none⟩,
  ⟨none, .store 22 (.tmp 53) (.tmp 51), true, none⟩]) <|
 .ops [⟨some 54, .move (.tmp 3), false, none⟩,
  ⟨some 55, .move (.tmp 6), false, none⟩,
  ⟨some 56, .move (.tmp 6), false, none⟩,
  ⟨some 57, .binOp .add 22 (.tmp 56) (.const (.int .u64 4096)) 22, false, none⟩,
  ⟨some 58, .move (.tmp 0), false, none⟩,
  ⟨some 59, .move (.tmp 4), false, none⟩,
  ⟨some 60, .indexAddr 74 (.tmp 58) (.tmp 59), false, none⟩,
  ⟨some 61, .fieldAddr 81 (.tmp 60) 1, false, none⟩,
  ⟨some 62, .load 3 (.tmp 61), false, none⟩,
  ⟨some 63, .build 85 #[(0, (.tmp 55)), (1, (.tmp 57)), (2, (.tmp 62))], false, none⟩,
  ⟨some 64, .buildSlice 82 1 #[(0, (.tmp 63))], true, none⟩,
  ⟨some 65, .call ⟨.builtin .append, #[(.tmp 54), (.tmp 64)], #[82, 82]⟩, true, none⟩,
  ⟨some 3, .assign (.tmp 65), false, none⟩]) <|
 .seq (.keep [0, 3, 4]) <|
 .ops [⟨some 11, .move (.tmp 4), false, none⟩,
  ⟨some 12, .binOp .add 3 (.tmp 11) (.const (.int .i64 1)) 3, false, none⟩,
  ⟨some 4, .assign (.tmp 12), false, none⟩]) <|
 .keep [0, 3, 4]) <|
 .seq (.keep [3]) <|
 .seq (.ops [⟨some 66, .move (.tmp 3), false, none⟩,
  ⟨some 2, .assign (.tmp 66), false, none⟩]) <|
 .seq (.keep [2]) <|
 .ret
theorem c27 : Tryz.f27.body.map (fun c => ((compile Tryz.prog kp27 [] kp27 c).map (·.1), fits Tryz.f27.ntmps c)) = some (some s27, true) := by kernel_rfl
theorem r27 : Tryz.f27.results.toList = [.tmp 2] := by kernel_rfl
-- (*marionette/region.List).At
abbrev kp28 : List Nat := [4, 5]
def s28 : SC :=
 .seq (.ops [⟨some 3, .box 22 (.tmp 1), true, none⟩,
  ⟨some 4, .alloc 85, true, none⟩,
  ⟨some 5, .assign (.const (.bool false)), false, none⟩]) <|
 .seq (.keep [0, 3, 4]) <|
 .seq (.seq (.ops [⟨some 7, .move (.tmp 0), false, none⟩,
  ⟨some 8, .binOp .eql 68 (.tmp 7) (.const (.pointer none)) 68, false, none⟩]) <|
 .seq (.keep [0, 3, 4, 8]) <|
 .cond (.tmp 8) (.seq (.ops [⟨some 9, .build 85 #[], false, none⟩,
  ⟨none, .store 85 (.tmp 4) (.tmp 9), true, none⟩,
  ⟨some 5, .assign (.const (.bool false)), false, none⟩]) <|
 .seq (.keep [4, 5]) <|
 .ret) <|
 .skip) <|
 .seq (.keep [0, 3, 4]) <|
 .seq (.ops [⟨some 10, .move (.tmp 0), false, none⟩,
  ⟨some 11, .nilCheck (.tmp 10), false, none⟩,
  ⟨some 12, .fieldAddr 102 (.tmp 11) 0, false, none⟩,
  ⟨some 13, .load 82 (.tmp 12), false, none⟩,
  ⟨some 14, .makeFunc (.func 46) #[] #[(.tmp 3)], false, none⟩,
  ⟨some 15, .call ⟨.value (.func 45), #[(.tmp 13), (.tmp 14)], #[82, 112]⟩, true, none⟩,
  ⟨some 6, .assign (.tmp 15), false, none⟩]) <|
 .seq (.keep [0, 4, 6]) <|
 .seq (.seq (.ops [⟨some 16, .move (.tmp 6), false, none⟩,
  ⟨some 17, .binOp .lss 3 (.tmp 16) (.const (.int .i64 0)) 3, false, none⟩]) <|
 .seq (.keep [0, 4, 6, 17]) <|
 .cond (.tmp 17) (.seq (.ops [⟨some 18, .build 85 #[], false, none⟩,
  ⟨none, .store 85 (.tmp 4) (.tmp 18), true, none⟩,
  ⟨some 5, .assign (.const (.bool false)), false, none⟩]) <|
 .seq (.keep [4, 5]) <|
 .ret) <|
 .skip) <|
 .seq (.keep [0, 4, 6]) <|
 .seq (.ops [⟨some 19, .move (.tmp 0), false, none⟩,
  ⟨some 20, .nilCheck (.tmp 19), false, none⟩,
  ⟨some 21, .fieldAddr 102 (.tmp 20) 0, false, none⟩,
  ⟨some 22, .load 82 (.tmp 21), false, none⟩,
  ⟨some 23, .move (.tmp 6), false, none⟩,
  ⟨some 24, .indexAddr 82 (.tmp 22) (.tmp 23), false, none⟩,
  ⟨some 25, .load 85 (.tmp 24), false, none⟩,
  ⟨none, .store 85 (.tmp 4) (.tmp 25), true, none⟩,
  ⟨some 5, .assign (.const (.bool true)), false, none⟩]) <|
 .seq (.keep [4, 5]) <|
 .ret
theorem c28 : Tryz.f28.body.map (fun c => ((compile Tryz.prog kp28 [] kp28 c).map (·.1), fits Tryz.f28.ntmps c)) = some (some s28, true) := by kernel_rfl
theorem r28 : Tryz.f28.results.toList = [.cell 4 85, .tmp 5] := by kernel_rfl
-- (*marionette/page.Store).Write
abbrev kp29 : List Nat := []
def s29 : SC :=
 .seq (.seq (.ops [⟨some 11, .move (.tmp 0), false, none⟩,
  ⟨some 12, .binOp .eql 70 (.tmp 11) (.const (.pointer none)) 70, false, none⟩,
  ⟨some 13, .move (.tmp 12), false, none⟩,
  ⟨some 14, .move (.tmp 2), false, some (13, false)⟩,
  ⟨some 15, .call ⟨.builtin .len, #[(.tmp 14)], #[48]⟩, false, some (13, false)⟩,
  ⟨some 16, .binOp .gtr 3 (.tmp 15) (.const (.int .i64 4194304)) 3, false, some (13, false)⟩,
  ⟨some 17, .pick (.tmp 13) (.const (.bool true)) (.tmp 16), false, none⟩]) <|
 .seq (.keep [0, 1, 2, 17]) <|
 .cond (.tmp 17) (.ret) <|
 .skip) <|
 .seq (.keep [0, 1, 2]) <|
 .block 0 <| .loop <| .seq (.seq (.seq (.ops [⟨some 18, .move (.tmp 2), false, none⟩,
  ⟨some 19, .call ⟨.builtin .len, #[(.tmp 18)], #[48]⟩, false, none⟩,
  ⟨some 20, .binOp .gtr 3 (.tmp 19) (.const (.int .i64 0)) 3, false, none⟩,
  ⟨some 21, .move (.tmp 20), false, none⟩,
  ⟨some 22, .move (.tmp 1), false, some (21, true)⟩,
  ⟨some 23, .binOp .lss 22 (.tmp 22) (.const (.int .u64 274877906944)) 22, false, some (21, true)⟩,
  ⟨some 24, .pick (.tmp 21) (.tmp 23) (.const (.bool false)), false, none⟩]) <|
 .seq (.keep [0, 1, 2, 24]) <|
 .cond (.tmp 24) (.skip) <|
 .exit 0) <|
 .seq (.keep [0, 1, 2]) <|
 .block 1 <| .seq (.ops [⟨some 26, .move (.tmp 1), false, none⟩,
  ⟨some 27, .move (.tmp 2), false, none⟩,
  ⟨some 28, .call ⟨.builtin .len, #[(.tmp 27)], #[48]⟩, false, none⟩,
  ⟨some 29, .call ⟨.value (.func 47), #[(.tmp 26), (.tmp 28)], #[22, 3]⟩, true, none⟩,
  ⟨some 25, .move (.tmp 29), false, none⟩,
  ⟨some 30, .extract (.tmp 25) 0, false, none⟩,
  ⟨some 31, .extract (.tmp 25) 1, false, none⟩,
  ⟨some 6, .assign (.tmp 30), false, none⟩,
  ⟨some 7, .assign (.tmp 31), false, none⟩]) <|
 .seq (.keep [0, 1, 2, 6, 7]) <|
 .seq (.ops [⟨some 32, .move (.tmp 1), false, none⟩,
  ⟨some 33, .binOp .quo 22 (.tmp 32) (.const (.int .u64 4096)) 22, false, none⟩,
  ⟨some 8, .assign (.tmp 33), false, none⟩]) <|
 .seq (.keep [0, 1, 2, 6, 7, 8]) <|
 .seq (.ops [⟨some 35, .move (.tmp 0), false, none⟩,
  ⟨some 36, .nilCheck (.tmp 35), false, none⟩,
  ⟨some 37, .fieldAddr 106 (.tmp 36) 0, false, none⟩,
  ⟨some 38, .load 103 (.tmp 37), false, none⟩,
  ⟨some 39, .move (.tmp 8), false, none⟩,
  ⟨some 40, .lookup 103 (.tmp 38) (.tmp 39) true, false, none⟩,
  ⟨some 34, .move (.tmp 40), false, none⟩,
  ⟨some 41, .extract (.tmp 34) 0, false, none⟩,
  ⟨some 42, .extract (.tmp 34) 1, false, none⟩,
  ⟨some 9, .assign (.tmp 41), false, none⟩,
  ⟨some 10, .assign (.tmp 42), false, none⟩]) <|
 .seq (.keep [0, 1, 2, 6, 7, 8, 9, 10]) <|
 .seq (.seq (.ops [⟨some 43, .move (.tmp 10), false, none⟩,
  ⟨some 44, .unOp .not 4 (.tmp 43), false, none⟩]) <|
 .seq (.keep [0, 1, 2, 6, 7, 8, 9, 44]) <|
 .cond (.tmp 44) (.seq (.ops [⟨some 45, .build 118 #[], false, none⟩,
  ⟨some 46, .box 118 (.tmp 45), true, none⟩,
  ⟨some 9, .assign (.tmp 46), false, none⟩]) <|
 .seq (.keep [0, 1, 2, 6, 7, 8, 9]) <|
 .ops [⟨some 47, .move (.tmp 0), false, none⟩,
  ⟨some 48, .nilCheck (.tmp 47), false, none⟩,
  ⟨some 49, .fieldAddr 106 (.tmp 48) 0, false, none⟩,
  ⟨some 50, .load 103 (.tmp 49), false, none⟩,
  ⟨some 51, .move (.tmp 8), false, none⟩,
  ⟨some 52, .move (.tmp 9), false, none⟩,
  ⟨none, .mapUpdate 103 (.tmp 50) (.tmp 51) (.tmp 52), true, none⟩]) <|
 .skip) <|
 .seq (.keep [0, 1, 2, 6, 7, 8, 9]) <|
 .seq (.seq (.ops [⟨some 53, .move (.tmp 9), false, none⟩]) <|
 .seq (.ops [⟨some 54, .nilCheck (.tmp 53), false, none⟩]) <|
 .seq (.ops [⟨some 55, .move (.tmp 6), false, none⟩]) <|
 .seq (.ops [⟨some 56, .slice 118 (.tmp 54) (some (.tmp 55)) none none, false, none⟩]) <|
 .seq (.ops [⟨some 57, .move (.tmp 2), false, none⟩]) <|
 .seq (.ops [⟨some 58, .move (.tmp 7), false, none⟩]) <|
 .seq (.ops [⟨some 59, .slice 48 (.tmp 57) none (some (.tmp 58)) none, false, none⟩]) <|
 .seq (.ops [⟨some 60, .call ⟨.builtin .copy, #[(.tmp 56), (.tmp 59)], #[48, 48]⟩, true, none⟩]) <|
 .skip) <|
 .seq (.keep [0, 1, 2, 7, 8]) <|
 .seq (.ops [⟨some 61, .move (.tmp 0), false, none⟩,
  ⟨some 62, .move (.tmp 8), false, none⟩,
  ⟨some 63, .call ⟨.value (.func 48), #[(.tmp 61), (.tmp 62)], #[70, 22]⟩, true, none⟩]) <|
 .seq (.keep [0, 1, 2, 7]) <|
 .seq (.ops [⟨some 64, .move (.tmp 2), false, none⟩,
  ⟨some 65, .move (.tmp 7), false, none⟩,
  ⟨some 66, .slice 48 (.tmp 64) (some (.tmp 65)) none none, false, none⟩,
  ⟨some 2, .assign (.tmp 66), false, none⟩]) <|
 .seq (.keep [0, 1, 2, 7]) <|
 .ops [⟨some 67, .move (.tmp 1), false, none⟩,
  ⟨some 68, .move (.tmp 7), false, none⟩,
  ⟨some 69, .convert 3 22 (.tmp 68), false, none⟩,
  ⟨some 70, .binOp .add 22 (.tmp 67) (.tmp 69) 22, false, none⟩,
  ⟨some 1, .assign (.tmp 70), false, none⟩]) <|
 .keep [0, 1, 2]
theorem c29 : Tryz.f29.body.map (fun c => ((compile Tryz.prog kp29 [] kp29 c).map (·.1), fits Tryz.f29.ntmps c)) = some (some s29, true) := by kernel_rfl
theorem r29 : Tryz.f29.results.toList = [] := by kernel_rfl
-- (*marionette/marionetteref06.Space).set
abbrev kp30 : List Nat := []
def s30 : SC :=
 .seq (.ops [⟨some 9, .move (.tmp 0), false, none⟩,
  ⟨some 10, .move (.tmp 1), false, none⟩,
  ⟨some 11, .binOp .quo 22 (.tmp 10) (.const (.int .u64 4096)) 22, false, none⟩,
  ⟨some 12, .call ⟨.value (.func 49), #[(.tmp 9), (.tmp 11)], #[51, 22]⟩, true, none⟩,
  ⟨some 8, .move (.tmp 12), false, none⟩,
  ⟨some 13, .extract (.tmp 8) 0, false, none⟩,
  ⟨some 14, .extract (.tmp 8) 1, false, none⟩,
  ⟨some 6, .assign (.tmp 13), false, none⟩,
  ⟨some 7, .assign (.tmp 14), false, none⟩]) <|
 .seq (.keep [0, 1, 2, 6, 7]) <|
 .seq (.ops [⟨some 15, .move (.tmp 7), false, none⟩]) <|
 .seq (.keep [0, 1, 2, 6, 15]) <|
 .cond (.tmp 15) (.ops [⟨some 16, .move (.tmp 0), false, none⟩,
  ⟨some 17, .nilCheck (.tmp 16), false, none⟩,
  ⟨some 18, .fieldAddr 76 (.tmp 17) 0, false, none⟩,
  ⟨some 19, .load 74 (.tmp 18), false, none⟩,
  ⟨some 20, .move (.tmp 6), false, none⟩,
  ⟨some 21, .indexAddr 74 (.tmp 19) (.tmp 20), false, none⟩,
  ⟨some 22, .fieldAddr 81 (.tmp 21) 2, false, none⟩,
  ⟨some 23, .load 48 (.tmp 22), false, none⟩,
  ⟨some 24, .move (.tmp 1), false, none⟩,
  ⟨some 25, .binOp .rem 22 (.tmp 24) (.const (.int .u64 4096)) 22, false, none⟩,
  ⟨some 26, .move (.tmp 2), false, none⟩,
  ⟨some 27, .indexAddr 48 (.tmp 23) (.tmp 25), false, none⟩,
  ⟨none, .store 5 (.tmp 27) (.tmp 26), true, none⟩]) <|
 .skip
theorem c30 : Tryz.f30.body.map (fun c => ((compile Tryz.prog kp30 [] kp30 c).map (·.1), fits Tryz.f30.ntmps c)) = some (some s30, true) := by kernel_rfl
theorem r30 : Tryz.f30.results.toList = [] := by kernel_rfl
-- marionette/cache.read
abbrev kp31 : List Nat := [4, 5]
def s31 : SC :=
 .seq (.ops [⟨some 4, .alloc 63, true, none⟩,
  ⟨some 5, .alloc 33, true, none⟩]) <|
 .seq (.keep [0, 1, 4, 5]) <|
 .seq (.ops [⟨some 11, .move (.tmp 0), false, none⟩,
  ⟨some 12, .move (.tmp 1), false, none⟩,
  ⟨some 13, .call ⟨.value (.func 50), #[(.tmp 11), (.tmp 12)], #[42, 22]⟩, true, none⟩,
  ⟨some 10, .move (.tmp 13), false, none⟩,
  ⟨some 14, .extract (.tmp 10) 0, false, none⟩,
  ⟨some 15, .extract (.tmp 10) 1, false, none⟩,
  ⟨some 7, .alloc 31, true, none⟩,
  ⟨some 6, .assign (.tmp 14), false, none⟩,
  ⟨none, .store 31 (.tmp 7) (.tmp 15), true, none⟩]) <|
 .seq (.keep [1, 4, 5, 6, 7]) <|
 .seq (.seq (.ops [⟨some 16, .fieldAddr 31 (.tmp 7) 0, false, none⟩,
  ⟨some 17, .load 3 (.tmp 16), false, none⟩,
  ⟨some 18, .binOp .neq 3 (.tmp 17) (.const (.int .i64 0)) 3, false, none⟩]) <|
 .seq (.keep [1, 4, 5, 6, 7, 18]) <|
 .cond (.tmp 18) (.seq (.seq (.ops [⟨some 19, .build 63 #[], false, none⟩]) <|
 .amb (.seq (.ops [⟨some 20, .load 31 (.tmp 7), false, none⟩]) <|
 .seq (.ops [⟨some 21, .build 33 #[(0, (.const (.int .i64 4))), (1, (.tmp 20))], false, none⟩]) <|
 .seq (.ops [⟨none, .store 63 (.tmp 4) (.tmp 19), true, none⟩]) <|
 .seq (.ops [⟨none, .store 33 (.tmp 5) (.tmp 21), true, none⟩]) <|
 .skip) (.seq (.ops [⟨none, .store 63 (.tmp 4) (.tmp 19), true, none⟩]) <|
 .seq (.ops [⟨some 20, .load 31 (.tmp 7), false, none⟩]) <|
 .seq (.ops [⟨some 21, .build 33 #[(0, (.const (.int .i64 4))), (1, (.tmp 20))], false, none⟩]) <|
 .seq (.ops [⟨none, .store 33 (.tmp 5) (.tmp 21), true, none⟩]) <|
 .skip)) <|
 .seq (.keep [4, 5]) <|
 .ret) <|
 .skip) <|
 .seq (.keep [1, 4, 5, 6]) <|
 .seq (.ops [⟨some 23, .move (.tmp 6), false, none⟩,
  ⟨some 24, .call ⟨.value (.func 51), #[(.tmp 23)], #[121]⟩, true, none⟩,
  ⟨some 22, .move (.tmp 24), false, none⟩,
  ⟨some 25, .extract (.tmp 22) 0, false, none⟩,
  ⟨some 26, .extract (.tmp 22) 1, false, none⟩,
  ⟨some 8, .alloc 63, true, none⟩,
  ⟨none, .store 63 (.tmp 8) (.tmp 25), true, none⟩,
  ⟨some 9, .assign (.tmp 26), false, none⟩]) <|
 .seq (.keep [1, 4, 5, 8, 9]) <|
 .seq (.seq (.ops [⟨some 27, .move (.tmp 9), false, none⟩,
  ⟨some 28, .unOp .not 4 (.tmp 27), false, none⟩]) <|
 .seq (.keep [1, 4, 5, 8, 28]) <|
 .cond (.tmp 28) (.seq (.ops [⟨some 29, .build 63 #[], false, none⟩,
  ⟨some 30, .move (.tmp 1), false, none⟩,
  ⟨some 31, .build 31 #[(0, (.const (.int .i64 3))), (1, (.tmp 30))], false, none⟩,
  ⟨some 32, .build 33 #[(0, (.const (.int .i64 3))), (1, (.tmp 31))], false, none⟩,
  ⟨none, .store 63 (.tmp 4) (.tmp 29), true, none⟩,
  ⟨none, .store 33 (.tmp 5) (.tmp 32), true, none⟩]) <|
 .seq (.keep [4, 5]) <|
 .ret) <|
 .skip) <|
 .seq (.keep [4, 5, 8]) <|
 .seq (.ops [⟨some 33, .load 63 (.tmp 8), false, none⟩,
  ⟨some 34, .build 33 #[], false, none⟩,
  ⟨none, .store 63 (.tmp 4) (.tmp 33), true, none⟩,
  ⟨none, .store 33 (.tmp 5) (.tmp 34), true, none⟩]) <|
 .seq (.keep [4, 5]) <|
 .ret
theorem c31 : Tryz.f31.body.map (fun c => ((compile Tryz.prog kp31 [] kp31 c).map (·.1), fits Tryz.f31.ntmps c)) = some (some s31, true) := by kernel_rfl
theorem r31 : Tryz.f31.results.toList = [.cell 4 63, .cell 5 33] := by kernel_rfl
-- marionette/hart.jump
abbrev kp34 : List Nat := [4, 5]
def s34 : SC :=
 .seq (.ops [⟨some 3, .box 63 (.tmp 1), true, none⟩,
  ⟨some 4, .assign (.const (.int .u64 0)), false, none⟩,
  ⟨some 5, .assign (.const (.bool false)), false, none⟩]) <|
 .seq (.keep [0, 3]) <|
 .seq (.seq (.ops [⟨some 10, .move (.tmp 0), false, none⟩]) <|
 .seq (.ops [⟨some 11, .nilCheck (.tmp 10), false, none⟩]) <|
 .seq (.ops [⟨some 12, .fieldAddr 27 (.tmp 11) 0, false, none⟩]) <|
 .seq (.ops [⟨some 13, .load 22 (.tmp 12), false, none⟩]) <|
 .seq (.ops [⟨some 14, .fieldAddr 63 (.tmp 3) 6, false, none⟩]) <|
 .seq (.ops [⟨some 15, .load 3 (.tmp 14), false, none⟩]) <|
 .seq (.ops [⟨some 16, .convert 3 22 (.tmp 15), false, none⟩]) <|
 .seq (.ops [⟨some 17, .binOp .add 22 (.tmp 13) (.tmp 16) 22, false, none⟩]) <|
 .seq (.ops [⟨some 6, .assign (.tmp 17), false, none⟩]) <|
 .skip) <|
 .seq (.keep [0, 3, 6]) <|
 .seq (.seq (.ops [⟨some 18, .fieldAddr 63 (.tmp 3) 0, false, none⟩,
  ⟨some 19, .load 3 (.tmp 18), false, none⟩]) <|
 .seq (.keep [0, 3, 6, 19]) <|
 .block 0 <| .seq (.ops [⟨some 21, .binOp .eql 3 (.tmp 19) (.const (.int .i64 3)) 3, false, none⟩,
  ⟨some 20, .assign (.tmp 21), false, none⟩]) <|
 .seq (.keep [0, 3, 6, 19, 20]) <|
 .cond (.tmp 20) (.seq (.seq (.ops [⟨some 22, .move (.tmp 0), false, none⟩]) <|
 .seq (.ops [⟨some 23, .fieldAddr 63 (.tmp 3) 1, false, none⟩]) <|
 .seq (.ops [⟨some 24, .load 3 (.tmp 23), false, none⟩]) <|
 .seq (.ops [⟨some 25, .move (.tmp 6), false, none⟩]) <|
 .seq (.ops [⟨some 26, .nilCheck (.tmp 22), false, none⟩]) <|
 .seq (.ops [⟨some 27, .fieldAddr 27 (.tmp 26) 1, false, none⟩]) <|
 .seq (.ops [⟨some 28, .indexAddr 23 (.tmp 27) (.tmp 24), false, none⟩]) <|
 .seq (.ops [⟨none, .store 22 (.tmp 28) (.tmp 25), true, none⟩]) <|
 .skip) <|
 .seq (.keep [0, 3]) <|
 .seq (.seq (.ops [⟨some 29, .move (.tmp 0), false, none⟩]) <|
 .seq (.ops [⟨some 30, .nilCheck (.tmp 29), false, none⟩]) <|
 .seq (.ops [⟨some 31, .fieldAddr 27 (.tmp 30) 0, false, none⟩]) <|
 .seq (.ops [⟨some 32, .load 22 (.tmp 31), false, none⟩]) <|
 .seq (.ops [⟨some 33, .fieldAddr 63 (.tmp 3) 4, false, none⟩]) <|
 .seq (.ops [⟨some 34, .load 3 (.tmp 33), false, none⟩]) <|
 .seq (.ops [⟨some 35, .convert 3 22 (.tmp 34), false, none⟩]) <|
 .seq (.ops [⟨some 36, .binOp .add 22 (.tmp 32) (.tmp 35) 22, false, none⟩]) <|
 .seq (.ops [⟨some 4, .assign (.tmp 36), false, none⟩]) <|
 .seq (.ops [⟨some 5, .assign (.const (.bool true)), false, none⟩]) <|
 .skip) <|
 .seq (.keep [4, 5]) <|
 .ret) <|
 .seq (.ops [⟨some 38, .binOp .eql 3 (.tmp 19) (.const (.int .i64 4)) 3, false, none⟩,
  ⟨some 37, .assign (.tmp 38), false, none⟩]) <|
 .seq (.keep [0, 3, 6, 37]) <|
 .cond (.tmp 37) (.seq (.seq (.ops [⟨some 39, .move (.tmp 0), false, none⟩]) <|
 .seq (.ops [⟨some 40, .fieldAddr 63 (.tmp 3) 2, false, none⟩]) <|
 .seq (.ops [⟨some 41, .load 3 (.tmp 40), false, none⟩]) <|
 .seq (.ops [⟨some 42, .nilCheck (.tmp 39), false, none⟩]) <|
 .seq (.ops [⟨some 43, .fieldAddr 27 (.tmp 42) 1, false, none⟩]) <|
 .seq (.ops [⟨some 44, .indexAddr 23 (.tmp 43) (.tmp 41), false, none⟩]) <|
 .seq (.ops [⟨some 45, .load 22 (.tmp 44), false, none⟩]) <|
 .seq (.ops [⟨some 46, .fieldAddr 63 (.tmp 3) 4, false, none⟩]) <|
 .seq (.ops [⟨some 47, .load 3 (.tmp 46), false, none⟩]) <|
 .seq (.ops [⟨some 48, .convert 3 22 (.tmp 47), false, none⟩]) <|
 .seq (.ops [⟨some 49, .binOp .add 22 (.tmp 45) (.tmp 48) 22, false, none⟩]) <|
 .seq (.ops [⟨some 50, .binOp .andNot 22 (.tmp 49) (.const (.int .u64 1)) 22, false, none⟩]) <|
 .seq (.ops [⟨some 7, .assign (.tmp 50), false, none⟩]) <|
 .skip) <|
 .seq (.keep [0, 3, 6, 7]) <|
 .seq (.seq (.ops [⟨some 51, .move (.tmp 0), false, none⟩]) <|
 .seq (.ops [⟨some 52, .fieldAddr 63 (.tmp 3) 1, false, none⟩]) <|
 .seq (.ops [⟨some 53, .load 3 (.tmp 52), false, none⟩]) <|
 .seq (.ops [⟨some 54, .move (.tmp 6), false, none⟩]) <|
 .seq (.ops [⟨some 55, .nilCheck (.tmp 51), false, none⟩]) <|
 .seq (.ops [⟨some 56, .fieldAddr 27 (.tmp 55) 1, false, none⟩]) <|
 .seq (.ops [⟨some 57, .indexAddr 23 (.tmp 56) (.tmp 53), false, none⟩]) <|
 .seq (.ops [⟨none, .store 22 (.tmp 57) (.tmp 54), true, none⟩]) <|
 .skip) <|
 .seq (.keep [7]) <|
 .seq (.ops [⟨some 58, .move (.tmp 7), false, none⟩,
  ⟨some 4, .assign (.tmp 58), false, none⟩,
  ⟨some 5, .assign (.const (.bool true)), false, none⟩]) <|
 .seq (.keep [4, 5]) <|
 .ret) <|
 .skip) <|
 .seq (.keep [0, 3, 6]) <|
 .seq (.seq (.ops [⟨some 60, .fieldAddr 63 (.tmp 3) 0, false, none⟩]) <|
 .seq (.ops [⟨some 61, .load 3 (.tmp 60), false, none⟩]) <|
 .seq (.ops [⟨some 62, .move (.tmp 0), false, none⟩]) <|
 .seq (.ops [⟨some 63, .fieldAddr 63 (.tmp 3) 2, false, none⟩]) <|
 .seq (.ops [⟨some 64, .load 3 (.tmp 63), false, none⟩]) <|
 .seq (.ops [⟨some 65, .nilCheck (.tmp 62), false, none⟩]) <|
 .seq (.ops [⟨some 66, .fieldAddr 27 (.tmp 65) 1, false, none⟩]) <|
 .seq (.ops [⟨some 67, .indexAddr 23 (.tmp 66) (.tmp 64), false, none⟩]) <|
 .seq (.ops [⟨some 68, .load 22 (.tmp 67), false, none⟩]) <|
 .seq (.ops [⟨some 69, .move (.tmp 0), false, none⟩]) <|
 .seq (.ops [⟨some 70, .fieldAddr 63 (.tmp 3) 3, false, none⟩]) <|
 .seq (.ops [⟨some 71, .load 3 (.tmp 70), false, none⟩]) <|
 .seq (.ops [⟨some 72, .nilCheck (.tmp 69), false, none⟩]) <|
 .seq (.ops [⟨some 73, .fieldAddr 27 (.tmp 72) 1, false, none⟩]) <|
 .seq (.ops [⟨some 74, .indexAddr 23 (.tmp 73) (.tmp 71), false, none⟩]) <|
 .seq (.ops [⟨some 75, .load 22 (.tmp 74), false, none⟩]) <|
 .seq (.ops [⟨some 76, .call ⟨.value (.func 53), #[(.tmp 61), (.tmp 68), (.tmp 75)], #[3, 22, 22]⟩, true, none⟩]) <|
 .seq (.ops [⟨some 59, .move (.tmp 76), false, none⟩]) <|
 .seq (.ops [⟨some 77, .extract (.tmp 59) 0, false, none⟩]) <|
 .seq (.ops [⟨some 78, .extract (.tmp 59) 1, false, none⟩]) <|
 .seq (.ops [⟨some 8, .assign (.tmp 77), false, none⟩]) <|
 .seq (.ops [⟨some 9, .assign (.tmp 78), false, none⟩]) <|
 .skip) <|
 .seq (.keep [0, 3, 6, 8, 9]) <|
 .seq (.seq (.ops [⟨some 79, .move (.tmp 8), false, none⟩]) <|
 .seq (.keep [0, 3, 6, 9, 79]) <|
 .cond (.tmp 79) (.seq (.seq (.ops [⟨some 80, .move (.tmp 0), false, none⟩]) <|
 .seq (.ops [⟨some 81, .nilCheck (.tmp 80), false, none⟩]) <|
 .seq (.ops [⟨some 82, .fieldAddr 27 (.tmp 81) 0, false, none⟩]) <|
 .seq (.ops [⟨some 83, .load 22 (.tmp 82), false, none⟩]) <|
 .seq (.ops [⟨some 84, .fieldAddr 63 (.tmp 3) 4, false, none⟩]) <|
 .seq (.ops [⟨some 85, .load 3 (.tmp 84), false, none⟩]) <|
 .seq (.ops [⟨some 86, .convert 3 22 (.tmp 85), false, none⟩]) <|
 .seq (.ops [⟨some 87, .binOp .add 22 (.tmp 83) (.tmp 86) 22, false, none⟩]) <|
 .seq (.ops [⟨some 4, .assign (.tmp 87), false, none⟩]) <|
 .seq (.ops [⟨some 5, .assign (.const (.bool true)), false, none⟩]) <|
 .skip) <|
 .seq (.keep [4, 5]) <|
 .ret) <|
 .skip) <|
 .seq (.keep [6, 9]) <|
 .seq (.ops [⟨some 88, .move (.tmp 6), false, none⟩,
  ⟨some 89, .move (.tmp 9), false, none⟩,
  ⟨some 4, .assign (.tmp 88), false, none⟩,
  ⟨some 5, .assign (.tmp 89), false, none⟩]) <|
 .seq (.keep [4, 5]) <|
 .ret
theorem c34 : Tryz.f34.body.map (fun c => ((compile Tryz.prog kp34 [] kp34 c).map (·.1), fits Tryz.f34.ntmps c)) = some (some s34, true) := by kernel_rfl
theorem r34 : Tryz.f34.results.toList = [.tmp 4, .tmp 5] := by kernel_rfl
-- marionette/hart.access
abbrev kp35 : List Nat := [2, 3]
def s35 : SC :=
 .seq (.ops [⟨some 2, .assign (.const (.int .i64 0)), false, none⟩,
  ⟨some 3, .assign (.const (.bool false)), false, none⟩]) <|
 .seq (.keep [0]) <|
 .seq (.seq (.ops [⟨some 4, .move (.tmp 0), false, none⟩]) <|
 .seq (.keep [4]) <|
 .block 0 <| .seq (.seq (.ops [⟨some 6, .binOp .eql 3 (.tmp 4) (.const (.int .i64 11)) 3, false, none⟩,
  ⟨some 5, .assign (.tmp 6), false, none⟩]) <|
 .seq (.keep [4, 5]) <|
 .cond (.tmp 5) (.skip) <|
 .ops [⟨some 7, .binOp .eql 3 (.tmp 4) (.const (.int .i64 18)) 3, false, none⟩,
  ⟨some 5, .assign (.tmp 7), false, none⟩]) <|
 .seq (.keep [4, 5]) <|
 .cond (.tmp 5) (.seq (.ops [⟨some 2, .assign (.const (.int .i64 1)), false, none⟩,
  ⟨some 3, .assign (.const (.bool true)), false, none⟩]) <|
 .seq (.keep [2, 3]) <|
 .ret) <|
 .seq (.seq (.ops [⟨some 9, .binOp .eql 3 (.tmp 4) (.const (.int .i64 12)) 3, false, none⟩,
  ⟨some 8, .assign (.tmp 9), false, none⟩]) <|
 .seq (.keep [4, 8]) <|
 .cond (.tmp 8) (.skip) <|
 .ops [⟨some 10, .binOp .eql 3 (.tmp 4) (.const (.int .i64 19)) 3, false, none⟩,
  ⟨some 8, .assign (.tmp 10), false, none⟩]) <|
 .seq (.keep [4, 8]) <|
 .cond (.tmp 8) (.seq (.ops [⟨some 2, .assign (.const (.int .i64 2)), false, none⟩,
  ⟨some 3, .assign (.const (.bool true)), false, none⟩]) <|
 .seq (.keep [2, 3]) <|
 .ret) <|
 .seq (.seq (.ops [⟨some 12, .binOp .eql 3 (.tmp 4) (.const (.int .i64 13)) 3, false, none⟩,
  ⟨some 11, .assign (.tmp 12), false, none⟩]) <|
 .seq (.keep [4, 11]) <|
 .cond (.tmp 11) (.skip) <|
 .ops [⟨some 13, .binOp .eql 3 (.tmp 4) (.const (.int .i64 20)) 3, false, none⟩,
  ⟨some 11, .assign (.tmp 13), false, none⟩]) <|
 .seq (.keep [4, 11]) <|
 .cond (.tmp 11) (.seq (.ops [⟨some 2, .assign (.const (.int .i64 4)), false, none⟩,
  ⟨some 3, .assign (.const (.bool true)), false, none⟩]) <|
 .seq (.keep [2, 3]) <|
 .ret) <|
 .seq (.seq (.ops [⟨some 15, .binOp .eql 3 (.tmp 4) (.const (.int .i64 14)) 3, false, none⟩,
  ⟨some 14, .assign (.tmp 15), false, none⟩]) <|
 .seq (.keep [4, 14]) <|
 .cond (.tmp 14) (.skip) <|
 .ops [⟨some 16, .binOp .eql 3 (.tmp 4) (.const (.int .i64 21)) 3, false, none⟩,
  ⟨some 14, .assign (.tmp 16), false, none⟩]) <|
 .seq (.keep [4, 14]) <|
 .cond (.tmp 14) (.seq (.ops [⟨some 2, .assign (.const (.int .i64 8)), false, none⟩,
  ⟨some 3, .assign (.const (.bool true)), false, none⟩]) <|
 .seq (.keep [2, 3]) <|
 .ret) <|
 .seq (.ops [⟨some 18, .binOp .eql 3 (.tmp 4) (.const (.int .i64 15)) 3, false, none⟩,
  ⟨some 17, .assign (.tmp 18), false, none⟩]) <|
 .seq (.keep [4, 17]) <|
 .cond (.tmp 17) (.seq (.ops [⟨some 2, .assign (.const (.int .i64 1)), false, none⟩,
  ⟨some 3, .assign (.const (.bool false)), false, none⟩]) <|
 .seq (.keep [2, 3]) <|
 .ret) <|
 .seq (.ops [⟨some 20, .binOp .eql 3 (.tmp 4) (.const (.int .i64 16)) 3, false, none⟩,
  ⟨some 19, .assign (.tmp 20), false, none⟩]) <|
 .seq (.keep [4, 19]) <|
 .cond (.tmp 19) (.seq (.ops [⟨some 2, .assign (.const (.int .i64 2)), false, none⟩,
  ⟨some 3, .assign (.const (.bool false)), false, none⟩]) <|
 .seq (.keep [2, 3]) <|
 .ret) <|
 .seq (.ops [⟨some 22, .binOp .eql 3 (.tmp 4) (.const (.int .i64 17)) 3, false, none⟩,
  ⟨some 21, .assign (.tmp 22), false, none⟩]) <|
 .seq (.keep [21]) <|
 .cond (.tmp 21) (.seq (.ops [⟨some 2, .assign (.const (.int .i64 4)), false, none⟩,
  ⟨some 3, .assign (.const (.bool false)), false, none⟩]) <|
 .seq (.keep [2, 3]) <|
 .ret) <|
 .skip) <|
 .seq (.keep []) <|
 .seq (.ops [⟨some 2, .assign (.const (.int .i64 0)), false, none⟩,
  ⟨some 3, .assign (.const (.bool false)), false, none⟩]) <|
 .seq (.keep [2, 3]) <|
 .ret
theorem c35 : Tryz.f35.body.map (fun c => ((compile Tryz.prog kp35 [] kp35 c).map (·.1), fits Tryz.f35.ntmps c)) = some (some s35, true) := by kernel_rfl
theorem r35 : Tryz.f35.results.toList = [.tmp 2, .tmp 3] := by kernel_rfl
-- (*marionette/hart.Hart).other
abbrev kp37 : List Nat := [6]
def s37 : SC :=
 .seq (.ops [⟨some 5, .box 63 (.tmp 2), true, none⟩,
  ⟨some 6, .alloc 33, true, none⟩]) <|
 .seq (.keep [0, 1, 5, 6]) <|
 .seq (.seq (.ops [⟨some 12, .fieldAddr 63 (.tmp 5) 0, false, none⟩,
  ⟨some 13, .load 3 (.tmp 12), false, none⟩]) <|
 .seq (.keep [0, 1, 5, 6, 13]) <|
 .block 0 <| .seq (.ops [⟨some 15, .binOp .eql 3 (.tmp 13) (.const (.int .i64 87)) 3, false, none⟩,
  ⟨some 14, .assign (.tmp 15), false, none⟩]) <|
 .seq (.keep [0, 1, 5, 6, 13, 14]) <|
 .cond (.tmp 14) (.seq (.ops [⟨some 16, .build 33 #[(0, (.const (.int .i64 1)))], false, none⟩,
  ⟨none, .store 33 (.tmp 6) (.tmp 16), true, none⟩]) <|
 .seq (.keep [6]) <|
 .ret) <|
 .seq (.ops [⟨some 18, .binOp .eql 3 (.tmp 13) (.const (.int .i64 88)) 3, false, none⟩,
  ⟨some 17, .assign (.tmp 18), false, none⟩]) <|
 .seq (.keep [0, 1, 5, 6, 13, 17]) <|
 .cond (.tmp 17) (.seq (.ops [⟨some 19, .build 33 #[(0, (.const (.int .i64 2)))], false, none⟩,
  ⟨none, .store 33 (.tmp 6) (.tmp 19), true, none⟩]) <|
 .seq (.keep [6]) <|
 .ret) <|
 .seq (.seq (.ops [⟨some 21, .binOp .eql 3 (.tmp 13) (.const (.int .i64 85)) 3, false, none⟩,
  ⟨some 20, .assign (.tmp 21), false, none⟩]) <|
 .seq (.keep [0, 1, 5, 6, 13, 20]) <|
 .cond (.tmp 20) (.skip) <|
 .ops [⟨some 22, .binOp .eql 3 (.tmp 13) (.const (.int .i64 86)) 3, false, none⟩,
  ⟨some 20, .assign (.tmp 22), false, none⟩]) <|
 .seq (.keep [0, 1, 5, 6, 13, 20]) <|
 .cond (.tmp 20) (.seq (.ops [⟨some 23, .build 33 #[], false, none⟩,
  ⟨none, .store 33 (.tmp 6) (.tmp 23), true, none⟩]) <|
 .seq (.keep [6]) <|
 .ret) <|
 .seq (.ops [⟨some 25, .binOp .eql 3 (.tmp 13) (.const (.int .i64 2)) 3, false, none⟩,
  ⟨some 24, .assign (.tmp 25), false, none⟩]) <|
 .seq (.keep [0, 1, 5, 6, 24]) <|
 .cond (.tmp 24) (.seq (.seq (.ops [⟨some 26, .move (.tmp 1), false, none⟩]) <|
 .seq (.ops [⟨some 27, .fieldAddr 63 (.tmp 5) 1, false, none⟩]) <|
 .seq (.ops [⟨some 28, .load 3 (.tmp 27), false, none⟩]) <|
 .seq (.ops [⟨some 29, .move (.tmp 1), false, none⟩]) <|
 .seq (.ops [⟨some 30, .nilCheck (.tmp 29), false, none⟩]) <|
 .seq (.ops [⟨some 31, .fieldAddr 27 (.tmp 30) 0, false, none⟩]) <|
 .seq (.ops [⟨some 32, .load 22 (.tmp 31), false, none⟩]) <|
 .seq (.ops [⟨some 33, .fieldAddr 63 (.tmp 5) 4, false, none⟩]) <|
 .seq (.ops [⟨some 34, .load 3 (.tmp 33), false, none⟩]) <|
 .seq (.ops [⟨some 35, .convert 3 22 (.tmp 34), false, none⟩]) <|
 .seq (.ops [⟨some 36, .binOp .add 22 (.tmp 32) (.tmp 35) 22, false, none⟩]) <|
 .seq (.ops [⟨some 37, .nilCheck (.tmp 26), false, none⟩]) <|
 .seq (.ops [⟨some 38, .fieldAddr 27 (.tmp 37) 1, false, none⟩]) <|
 .seq (.ops [⟨some 39, .indexAddr 23 (.tmp 38) (.tmp 28), false, none⟩]) <|
 .seq (.ops [⟨none, .store 22 (.tmp 39) (.tmp 36), true, none⟩]) <|
 .skip) <|
 .seq (.keep [6]) <|
 .seq (.ops [⟨some 40, .build 33 #[], false, none⟩,
  ⟨none, .store 33 (.tmp 6) (.tmp 40), true, none⟩]) <|
 .seq (.keep [6]) <|
 .ret) <|
 .skip) <|
 .seq (.keep [0, 1, 5, 6]) <|
 .seq (.seq (.seq (.ops [⟨some 42, .fieldAddr 63 (.tmp 5) 0, false, none⟩]) <|
 .seq (.ops [⟨some 44, .move (.tmp 1), false, none⟩]) <|
 .seq (.ops [⟨some 45, .fieldAddr 63 (.tmp 5) 2, false, none⟩]) <|
 .seq (.ops [⟨some 47, .nilCheck (.tmp 44), false, none⟩]) <|
 .seq (.ops [⟨some 48, .fieldAddr 27 (.tmp 47) 1, false, none⟩]) <|
 .seq (.ops [⟨some 51, .move (.tmp 1), false, none⟩]) <|
 .seq (.ops [⟨some 52, .load 63 (.tmp 5), false, none⟩]) <|
 .amb (.seq (.ops [⟨some 43, .load 3 (.tmp 42), false, none⟩]) <|
 .amb (.seq (.ops [⟨some 46, .load 3 (.tmp 45), false, none⟩]) <|
 .seq (.ops [⟨some 49, .indexAddr 23 (.tmp 48) (.tmp 46), false, none⟩]) <|
 .amb (.seq (.ops [⟨some 50, .load 22 (.tmp 49), false, none⟩]) <|
 .seq (.ops [⟨some 53, .call ⟨.value (.func 59), #[(.tmp 51), (.tmp 52)], #[67, 63]⟩, true, none⟩]) <|
 .seq (.ops [⟨some 54, .call ⟨.value (.func 58), #[(.tmp 43), (.tmp 50), (.tmp 53)], #[3, 22, 22]⟩, true, none⟩]) <|
 .seq (.ops [⟨some 41, .move (.tmp 54), false, none⟩]) <|
 .seq (.ops [⟨some 55, .extract (.tmp 41) 0, false, none⟩]) <|
 .seq (.ops [⟨some 56, .extract (.tmp 41) 1, false, none⟩]) <|
 .seq (.ops [⟨some 7, .assign (.tmp 55), false, none⟩]) <|
 .seq (.ops [⟨some 8, .assign (.tmp 56), false, none⟩]) <|
 .skip) (.seq (.ops [⟨some 53, .call ⟨.value (.func 59), #[(.tmp 51), (.tmp 52)], #[67, 63]⟩, true, none⟩]) <|
 .seq (.ops [⟨some 50, .load 22 (.tmp 49), false, none⟩]) <|
 .seq (.ops [⟨some 54, .call ⟨.value (.func 58), #[(.tmp 43), (.tmp 50), (.tmp 53)], #[3, 22, 22]⟩, true, none⟩]) <|
 .seq (.ops [⟨some 41, .move (.tmp 54), false, none⟩]) <|
 .seq (.ops [⟨some 55, .extract (.tmp 41) 0, false, none⟩]) <|
 .seq (.ops [⟨some 56, .extract (.tmp 41) 1, false, none⟩]) <|
 .seq (.ops [⟨some 7, .assign (.tmp 55), false, none⟩]) <|
 .seq (.ops [⟨some 8, .assign (.tmp 56), false, none⟩]) <|
 .skip)) (.seq (.ops [⟨some 53, .call ⟨.value (.func 59), #[(.tmp 51), (.tmp 52)], #[67, 63]⟩, true, none⟩]) <|
 .seq (.ops [⟨some 46, .load 3 (.tmp 45), false, none⟩]) <|
 .seq (.ops [⟨some 49, .indexAddr 23 (.tmp 48) (.tmp 46), false, none⟩]) <|
 .seq (.ops [⟨some 50, .load 22 (.tmp 49), false, none⟩]) <|
 .seq (.ops [⟨some 54, .call ⟨.value (.func 58), #[(.tmp 43), (.tmp 50), (.tmp 53)], #[3, 22, 22]⟩, true, none⟩]) <|
 .seq (.ops [⟨some 41, .move (.tmp 54), false, none⟩]) <|
 .seq (.ops [⟨some 55, .extract (.tmp 41) 0, false, none⟩]) <|
 .seq (.ops [⟨some 56, .extract (.tmp 41) 1, false, none⟩]) <|
 .seq (.ops [⟨some 7, .assign (.tmp 55), false, none⟩]) <|
 .seq (.ops [⟨some 8, .assign (.tmp 56), false, none⟩]) <|
 .skip)) (.amb (.seq (.ops [⟨some 46, .load 3 (.tmp 45), false, none⟩]) <|
 .seq (.ops [⟨some 49, .indexAddr 23 (.tmp 48) (.tmp 46), false, none⟩]) <|
 .amb (.seq (.ops [⟨some 50, .load 22 (.tmp 49), false, none⟩]) <|
 .seq (.ops [⟨some 53, .call ⟨.value (.func 59), #[(.tmp 51), (.tmp 52)], #[67, 63]⟩, true, none⟩]) <|
 .seq (.ops [⟨some 43, .load 3 (.tmp 42), false, none⟩]) <|
 .seq (.ops [⟨some 54, .call ⟨.value (.func 58), #[(.tmp 43), (.tmp 50), (.tmp 53)], #[3, 22, 22]⟩, true, none⟩]) <|
 .seq (.ops [⟨some 41, .move (.tmp 54), false, none⟩]) <|
 .seq (.ops [⟨some 55, .extract (.tmp 41) 0, false, none⟩]) <|
 .seq (.ops [⟨some 56, .extract (.tmp 41) 1, false, none⟩]) <|
 .seq (.ops [⟨some 7, .assign (.tmp 55), false, none⟩]) <|
 .seq (.ops [⟨some 8, .assign (.tmp 56), false, none⟩]) <|
 .skip) (.seq (.ops [⟨some 53, .call ⟨.value (.func 59), #[(.tmp 51), (.tmp 52)], #[67, 63]⟩, true, none⟩]) <|
 .seq (.ops [⟨some 43, .load 3 (.tmp 42), false, none⟩]) <|
 .seq (.ops [⟨some 50, .load 22 (.tmp 49), false, none⟩]) <|
 .seq (.ops [⟨some 54, .call ⟨.value (.func 58), #[(.tmp 43), (.tmp 50), (.tmp 53)], #[3, 22, 22]⟩, true, none⟩]) <|
 .seq (.ops [⟨some 41, .move (.tmp 54), false, none⟩]) <|
 .seq (.ops [⟨some 55, .extract (.tmp 41) 0, false, none⟩]) <|
 .seq (.ops [⟨some 56, .extract (.tmp 41) 1, false, none⟩]) <|
 .seq (.ops [⟨some 7, .assign (.tmp 55), false, none⟩]) <|
 .seq (.ops [⟨some 8, .assign (.tmp 56), false, none⟩]) <|
 .skip)) (.seq (.ops [⟨some 53, .call ⟨.value (.func 59), #[(.tmp 51), (.tmp 52)], #[67, 63]⟩, true, none⟩]) <|
 .seq (.ops [⟨some 43, .load 3 (.tmp 42), false, none⟩]) <|
 .seq (.ops [⟨some 46, .load 3 (.tmp 45), false, none⟩]) <|
 .seq (.ops [⟨some 49, .indexAddr 23 (.tmp 48) (.tmp 46), false, none⟩]) <|
 .seq (.ops [⟨some 50, .load 22 (.tmp 49), false, none⟩]) <|
 .seq (.ops [⟨some 54, .call ⟨.value (.func 58), #[(.tmp 43), (.tmp 50), (.tmp 53)], #[3, 22, 22]⟩, true, none⟩]) <|
 .seq (.ops [⟨some 41, .move (.tmp 54), false, none⟩]) <|
 .seq (.ops [⟨some 55, .extract (.tmp 41) 0, false, none⟩]) <|
 .seq (.ops [⟨some 56, .extract (.tmp 41) 1, false, none⟩]) <|
 .seq (.ops [⟨some 7, .assign (.tmp 55), false, none⟩]) <|
 .seq (.ops [⟨some 8, .assign (.tmp 56), false, none⟩]) <|
 .skip))) <|
 .seq (.keep [0, 1, 5, 6, 7, 8]) <|
 .seq (.ops [⟨some 57, .move (.tmp 8), false, none⟩]) <|
 .seq (.keep [0, 1, 5, 6, 7, 57]) <|
 .cond (.tmp 57) (.seq (.seq (.ops [⟨some 58, .move (.tmp 1), false, none⟩]) <|
 .seq (.ops [⟨some 59, .fieldAddr 63 (.tmp 5) 1, false, none⟩]) <|
 .seq (.ops [⟨some 60, .load 3 (.tmp 59), false, none⟩]) <|
 .seq (.ops [⟨some 61, .move (.tmp 7), false, none⟩]) <|
 .seq (.ops [⟨some 62, .nilCheck (.tmp 58), false, none⟩]) <|
 .seq (.ops [⟨some 63, .fieldAddr 27 (.tmp 62) 1, false, none⟩]) <|
 .seq (.ops [⟨some 64, .indexAddr 23 (.tmp 63) (.tmp 60), false, none⟩]) <|
 .seq (.ops [⟨none, .store 22 (.tmp 64) (.tmp 61), true, none⟩]) <|
 .skip) <|
 .seq (.keep [6]) <|
 .seq (.ops [⟨some 65, .build 33 #[], false, none⟩,
  ⟨none, .store 33 (.tmp 6) (.tmp 65), true, none⟩]) <|
 .seq (.keep [6]) <|
 .ret) <|
 .skip) <|
 .seq (.keep [0, 1, 5, 6]) <|
 .seq (.cond (.const .nilFunc) (.skip) <|
 .skip) <|
 .seq (.keep [1, 5, 6, 9, 10, 11]) <|
 .seq (.seq (.ops [⟨some 95, .move (.tmp 1), false, none⟩]) <|
 .seq (.ops [⟨some 96, .fieldAddr 63 (.tmp 5) 1, false, none⟩]) <|
 .seq (.ops [⟨some 97, .load 3 (.tmp 96), false, none⟩]) <|
 .seq (.ops [⟨some 98, .move (.tmp 1), false, none⟩]) <|
 .seq (.ops [⟨some 99, .move (.tmp 9), false, none⟩]) <|
 .seq (.ops [⟨some 101, .nilCheck (.tmp 95), false, none⟩]) <|
 .seq (.ops [⟨some 102, .fieldAddr 27 (.tmp 101) 1, false, none⟩]) <|
 .seq (.ops [⟨some 103, .indexAddr 23 (.tmp 102) (.tmp 97), false, none⟩]) <|
 .amb (.seq (.ops [⟨some 100, .load 25 (.tmp 10), false, none⟩]) <|
 .seq (.ops [⟨none, .store 22 (.tmp 103) (.tmp 99), true, none⟩]) <|
 .seq (.ops [⟨some 104, .nilCheck (.tmp 98), false, none⟩]) <|
 .seq (.ops [⟨some 105, .fieldAddr 27 (.tmp 104) 2, false, none⟩]) <|
 .seq (.ops [⟨none, .store 25 (.tmp 105) (.tmp 100), true, none⟩]) <|
 .skip) (.seq (.ops [⟨none, .store 22 (.tmp 103) (.tmp 99), true, none⟩]) <|
 .seq (.ops [⟨some 100, .load 25 (.tmp 10), false, none⟩]) <|
 .seq (.ops [⟨some 104, .nilCheck (.tmp 98), false, none⟩]) <|
 .seq (.ops [⟨some 105, .fieldAddr 27 (.tmp 104) 2, false, none⟩]) <|
 .seq (.ops [⟨none, .store 25 (.tmp 105) (.tmp 100), true, none⟩]) <|
 .skip)) <|
 .seq (.keep [6, 11]) <|
 .seq (.ops [⟨some 106, .load 33 (.tmp 11), false, none⟩,
  ⟨none, .store 33 (.tmp 6) (.tmp 106), true, none⟩]) <|
 .seq (.keep [6]) <|
 .ret
theorem c37 : Tryz.f37.body.map (fun c => ((compile Tryz.prog kp37 [] kp37 c).map (·.1), fits Tryz.f37.ntmps c)) = some (some s37, true) := by kernel_rfl
theorem r37 : Tryz.f37.results.toList = [.cell 6 33] := by kernel_rfl
-- (*marionette/region.List).Free
abbrev kp38 : List Nat := [6]
def s38 : SC :=
 .seq (.ops [⟨some 4, .box 22 (.tmp 1), true, none⟩,
  ⟨some 5, .box 22 (.tmp 2), true, none⟩,
  ⟨some 6, .assign (.const (.bool false)), false, none⟩]) <|
 .seq (.keep [0, 4, 5]) <|
 .seq (.ops [⟨some 7, .move (.tmp 0), false, none⟩,
  ⟨some 8, .binOp .neq 68 (.tmp 7) (.const (.pointer none)) 68, false, none⟩,
  ⟨some 9, .move (.tmp 8), false, none⟩,
  ⟨some 10, .load 22 (.tmp 4), false, some (9, true)⟩,
  ⟨some 11, .load 22 (.tmp 5), false, some (9, true)⟩,
  ⟨some 12, .call ⟨.value (.func 61), #[(.tmp 10), (.tmp 11)], #[22, 22]⟩, true, some (9, true)⟩,
  ⟨some 13, .pick (.tmp 9) (.tmp 12) (.const (.bool false)), false, none⟩,
  ⟨some 14, .move (.tmp 13), false, none⟩,
  ⟨some 15, .move (.tmp 0), false, some (14, true)⟩,
  ⟨some 16, .nilCheck (.tmp 15), false, some (14, true)⟩,
  ⟨some 17, .fieldAddr 102 (.tmp 16) 0, false, some (14, true)⟩,
  ⟨some 18, .load 82 (.tmp 17), false, some (14, true)⟩,
  ⟨some 19, .makeFunc (.func 63) #[] #[(.tmp 5), (.tmp 4)], false, some (14, true)⟩,
  ⟨some 20, .call ⟨.value (.func 62), #[(.tmp 18), (.tmp 19)], #[82, 112]⟩, true, some (14, true)⟩,
  ⟨some 21, .unOp .not 4 (.tmp 20), false, some (14, true)⟩,
  ⟨some 22, .pick (.tmp 14) (.tmp 21) (.const (.bool false)), false, none⟩,
  ⟨some 6, .assign (.tmp 22), false, none⟩]) <|
 .seq (.keep [6]) <|
 .ret
theorem c38 : Tryz.f38.body.map (fun c => ((compile Tryz.prog kp38 [] kp38 c).map (·.1), fits Tryz.f38.ntmps c)) = some (some s38, true) := by kernel_rfl
theorem r38 : Tryz.f38.results.toList = [.tmp 6] := by kernel_rfl
-- (*marionette/region.List).Room
abbrev kp39 : List Nat := [6, 7]
def s39 : SC :=
 .seq (.ops [⟨some 6, .assign (.const (.int .u64 0)), false, none⟩,
  ⟨some 7, .assign (.const (.bool false)), false, none⟩]) <|
 .seq (.keep [0, 1, 2]) <|
 .seq (.seq (.ops [⟨some 11, .move (.tmp 0), false, none⟩,
  ⟨some 12, .binOp .eql 68 (.tmp 11) (.const (.pointer none)) 68, false, none⟩,
  ⟨some 13, .move (.tmp 12), false, none⟩,
  ⟨some 14, .move (.tmp 1), false, some (13, false)⟩,
  ⟨some 15, .binOp .gtr 22 (.tmp 14) (.const (.int .u64 274877906944)) 22, false, some (13, false)⟩,
  ⟨some 16, .pick (.tmp 13) (.const (.bool true)) (.tmp 15), false, none⟩]) <|
 .seq (.keep [0, 1, 2, 16]) <|
 .cond (.tmp 16) (.seq (.ops [⟨some 6, .assign (.const (.int .u64 0)), false, none⟩,
  ⟨some 7, .assign (.const (.bool false)), false, none⟩]) <|
 .seq (.keep [6, 7]) <|
 .ret) <|
 .skip) <|
 .seq (.keep [0, 1, 2]) <|
 .seq (.ops [⟨some 17, .move (.tmp 1), false, none⟩,
  ⟨some 18, .binOp .add 22 (.tmp 17) (.const (.int .u64 4096)) 22, false, none⟩,
  ⟨some 19, .binOp .sub 22 (.tmp 18) (.const (.int .u64 1)) 22, false, none⟩,
  ⟨some 20, .binOp .quo 22 (.tmp 19) (.const (.int .u64 4096)) 22, false, none⟩,
  ⟨some 21, .call ⟨.builtin .max, #[(.tmp 20), (.const (.int .u64 1))], #[22, 22]⟩, false, none⟩,
  ⟨some 22, .binOp .mul 22 (.tmp 21) (.const (.int .u64 4096)) 22, false, none⟩,
  ⟨some 1, .assign (.tmp 22), false, none⟩]) <|
 .seq (.keep [0, 1, 2]) <|
 .seq (.ops [⟨some 23, .move (.tmp 2), false, none⟩,
  ⟨some 24, .call ⟨.builtin .min, #[(.tmp 23), (.const (.int .u64 274877906944))], #[22, 22]⟩, false, none⟩,
  ⟨some 25, .binOp .quo 22 (.tmp 24) (.const (.int .u64 4096)) 22, false, none⟩,
  ⟨some 26, .binOp .mul 22 (.tmp 25) (.const (.int .u64 4096)) 22, false, none⟩,
  ⟨some 8, .assign (.tmp 26), false, none⟩]) <|
 .seq (.keep [0, 1, 8]) <|
 .seq (.seq (.ops [⟨some 27, .move (.tmp 0), false, none⟩,
  ⟨some 28, .nilCheck (.tmp 27), false, none⟩,
  ⟨some 29, .fieldAddr 102 (.tmp 28) 0, false, none⟩,
  ⟨some 30, .load 82 (.tmp 29), false, none⟩,
  ⟨some 31, .call ⟨.builtin .len, #[(.tmp 30)], #[82]⟩, false, none⟩,
  ⟨some 9, .assign (.tmp 31), false, none⟩]) <|
 .seq (.keep [0, 1, 8, 9]) <|
 .block 0 <| .loop <| .seq (.seq (.seq (.ops [⟨some 32, .move (.tmp 9), false, none⟩,
  ⟨some 33, .binOp .geq 3 (.tmp 32) (.const (.int .i64 0)) 3, false, none⟩]) <|
 .seq (.keep [0, 1, 8, 9, 33]) <|
 .cond (.tmp 33) (.skip) <|
 .exit 0) <|
 .seq (.keep [0, 1, 8, 9]) <|
 .seq (.block 1 <| .seq (.ops [⟨some 10, .assign (.const (.int .u64 4096)), false, none⟩]) <|
 .seq (.keep [0, 1, 8, 9, 10]) <|
 .seq (.seq (.ops [⟨some 36, .move (.tmp 9), false, none⟩,
  ⟨some 37, .binOp .gtr 3 (.tmp 36) (.const (.int .i64 0)) 3, false, none⟩]) <|
 .seq (.keep [0, 1, 8, 9, 10, 37]) <|
 .cond (.tmp 37) (.ops [⟨some 38, .move (.tmp 10), false, none⟩,
  ⟨some 39, .move (.tmp 0), false, none⟩,
  ⟨some 40, .nilCheck (.tmp 39), false, none⟩,
  ⟨some 41, .fieldAddr 102 (.tmp 40) 0, false, none⟩,
  ⟨some 42, .load 82 (.tmp 41), false, none⟩,
  ⟨some 43, .move (.tmp 9), false, none⟩,
  ⟨some 44, .binOp .sub 3 (.tmp 43) (.const (.int .i64 1)) 3, false, none⟩,
  ⟨some 45, .indexAddr 82 (.tmp 42) (.tmp 44), false, none⟩,
  ⟨some 46, .fieldAddr 85 (.tmp 45) 1, false, none⟩,
  ⟨some 47, .load 22 (.tmp 46), false, none⟩,
  ⟨some 48, .call ⟨.builtin .max, #[(.tmp 38), (.tmp 47)], #[22, 22]⟩, false, none⟩,
  ⟨some 10, .assign (.tmp 48), false, none⟩]) <|
 .skip) <|
 .seq (.keep [0, 1, 8, 9, 10]) <|
 .seq (.seq (.ops [⟨some 49, .move (.tmp 8), false, none⟩,
  ⟨some 50, .move (.tmp 10), false, none⟩,
  ⟨some 51, .binOp .geq 22 (.tmp 49) (.tmp 50) 22, false, none⟩,
  ⟨some 52, .move (.tmp 51), false, none⟩,
  ⟨some 53, .move (.tmp 8), false, some (52, true)⟩,
  ⟨some 54, .move (.tmp 10), false, some (52, true)⟩,
  ⟨some 55, .binOp .sub 22 (.tmp 53) (.tmp 54) 22, false, some (52, true)⟩,
  ⟨some 56, .move (.tmp 1), false, some (52, true)⟩,
  ⟨some 57, .binOp .geq 22 (.tmp 55) (.tmp 56) 22, false, some (52, true)⟩,
  ⟨some 58, .pick (.tmp 52) (.tmp 57) (.const (.bool false)), false, none⟩]) <|
 .seq (.keep [0, 1, 8, 9, 58]) <|
 .cond (.tmp 58) (.seq (.ops [⟨some 59, .move (.tmp 8), false, none⟩,
  ⟨some 60, .move (.tmp 1), false, none⟩,
  ⟨some 61, .binOp .sub 22 (.tmp 59) (.tmp 60) 22, false, none⟩,
  ⟨some 6, .assign (.tmp 61), false, none⟩,
  ⟨some 7, .assign (.const (.bool true)), false, none⟩]) <|
 .seq (.keep [6, 7]) <|
 .ret) <|
 .skip) <|
 .seq (.keep [0, 1, 8, 9]) <|
 .seq (.ops [⟨some 62, .move (.tmp 9), false, none⟩,
  ⟨some 63, .binOp .gtr 3 (.tmp 62) (.const (.int .i64 0)) 3, false, none⟩]) <|
 .seq (.keep [0, 1, 8, 9, 63]) <|
 .cond (.tmp 63) (.ops [⟨some 64, .move (.tmp 8), false, none⟩,
  ⟨some 65, .move (.tmp 0), false, none⟩,
  ⟨some 66, .nilCheck (.tmp 65), false, none⟩,
  ⟨some 67, .fieldAddr 102 (.tmp 66) 0, false, none⟩,
  ⟨some 68, .load 82 (.tmp 67), false, none⟩,
  ⟨some 69, .move (.tmp 9), false, none⟩,
  ⟨some 70, .binOp .sub 3 (.tmp 69) (.const (.int .i64 1)) 3, false, none⟩,
  ⟨some 71, .indexAddr 82 (.tmp 68) (.tmp 70), false, none⟩,
  ⟨some 72, .fieldAddr 85 (.tmp 71) 0, false, none⟩,
  ⟨some 73, .load 22 (.tmp 72), false, none⟩,
  ⟨some 74, .call ⟨.builtin .min, #[(.tmp 64), (.tmp 73)], #[22, 22]⟩, false, none⟩,
  ⟨some 8, .assign (.tmp 74), false, none⟩]) <|
 .skip) <|
 .seq (.keep [0, 1, 8, 9]) <|
 .ops [⟨some 34, .move (.tmp 9), false, none⟩,
  ⟨some 35, .binOp .sub 3 (.tmp 34) (.const (.int .i64 1)) 3, false, none⟩,
  ⟨some 9, .assign (.tmp 35), false, none⟩]) <|
 .keep [0, 1, 8, 9]) <|
 .seq (.keep []) <|
 .seq (.ops [⟨some 6, .assign (.const (.int .u64 0)), false, none⟩,
  ⟨some 7, .assign (.const (.bool false)), false, none⟩]) <|
 .seq (.keep [6, 7]) <|
 .ret
theorem c39 : Tryz.f39.body.map (fun c => ((compile Tryz.prog kp39 [] kp39 c).map (·.1), fits Tryz.f39.ntmps c)) = some (some s39, true) := by kernel_rfl
theorem r39 : Tryz.f39.results.toList = [.tmp 6, .tmp 7] := by kernel_rfl
-- marionette/mem.up
abbrev kp40 : List Nat := [2, 3]
def s40 : SC :=
 .seq (.ops [⟨some 2, .assign (.const (.int .u64 0)), false, none⟩,
  ⟨some 3, .assign (.const (.bool false)), false, none⟩]) <|
 .seq (.keep [0]) <|
 .seq (.seq (.ops [⟨some 4, .move (.tmp 0), false, none⟩,
  ⟨some 5, .binOp .gtr 22 (.tmp 4) (.const (.int .u64 274877906944)) 22, false, none⟩]) <|
 .seq (.keep [0, 5]) <|
 .cond (.tmp 5) (.seq (.ops [⟨some 2, .assign (.const (.int .u64 0)), false, none⟩,
  ⟨some 3, .assign (.const (.bool false)), false, none⟩]) <|
 .seq (.keep [2, 3]) <|
 .ret) <|
 .skip) <|
 .seq (.keep [0]) <|
 .seq (.ops [⟨some 6, .move (.tmp 0), false, none⟩,
  ⟨some 7, .binOp .add 22 (.tmp 6) (.const (.int .u64 4096)) 22, false, none⟩,
  ⟨some 8, .binOp .sub 22 (.tmp 7) (.const (.int .u64 1)) 22, false, none⟩,
  ⟨some 9, .binOp .quo 22 (.tmp 8) (.const (.int .u64 4096)) 22, false, none⟩,
  ⟨some 10, .binOp .mul 22 (.tmp 9) (.const (.int .u64 4096)) 22, false, none⟩,
  ⟨some 2, .assign (.tmp 10), false, none⟩,
  ⟨some 3, .assign (.const (.bool true)), false, none⟩]) <|
 .seq (.keep [2, 3]) <|
 .ret
theorem c40 : Tryz.f40.body.map (fun c => ((compile Tryz.prog kp40 [] kp40 c).map (·.1), fits Tryz.f40.ntmps c)) = some (some s40, true) := by kernel_rfl
theorem r40 : Tryz.f40.results.toList = [.tmp 2, .tmp 3] := by kernel_rfl
-- (*marionette/region.List).Copy
abbrev kp41 : List Nat := [2]
def s41 : SC :=
 .seq (.ops [⟨some 2, .assign (.const (.pointer none)), false, none⟩]) <|
 .seq (.keep [0]) <|
 .seq (.seq (.ops [⟨some 3, .move (.tmp 0), false, none⟩,
  ⟨some 4, .binOp .eql 68 (.tmp 3) (.const (.pointer none)) 68, false, none⟩]) <|
 .seq (.keep [0, 4]) <|
 .cond (.tmp 4) (.seq (.ops [⟨some 2, .assign (.const (.pointer none)), false, none⟩]) <|
 .seq (.keep [2]) <|
 .ret) <|
 .skip) <|
 .seq (.keep [0]) <|
 .seq (.ops [⟨some 5, .move (.tmp 0), false, none⟩,
  ⟨some 6, .nilCheck (.tmp 5), false, none⟩,
  ⟨some 7, .fieldAddr 102 (.tmp 6) 0, false, none⟩,
  ⟨some 8, .load 82 (.tmp 7), false, none⟩,
  ⟨some 9, .call ⟨.value (.func 64), #[(.tmp 8)], #[82]⟩, true, none⟩,
  ⟨some 10, .build 102 #[(0, (.tmp 9))], false, none⟩,
  ⟨some 11, .box 102 (.tmp 10), true, none⟩,
  ⟨some 2, .assign (.tmp 11), false, none⟩]) <|
 .seq (.keep [2]) <|
 .ret
theorem c41 : Tryz.f41.body.map (fun c => ((compile Tryz.prog kp41 [] kp41 c).map (·.1), fits Tryz.f41.ntmps c)) = some (some s41, true) := by kernel_rfl
theorem r41 : Tryz.f41.results.toList = [.tmp 2] := by kernel_rfl
-- (*marionette/region.List).Map
abbrev kp42 : List Nat := [8]
def s42 : SC :=
 .seq (.ops [⟨some 8, .assign (.const (.int .i64 0)), false, none⟩]) <|
 .seq (.keep [0, 1, 2, 3]) <|
 .seq (.seq (.ops [⟨some 9, .move (.tmp 0), false, none⟩,
  ⟨some 10, .binOp .eql 68 (.tmp 9) (.const (.pointer none)) 68, false, none⟩,
  ⟨some 11, .move (.tmp 10), false, none⟩,
  ⟨some 12, .move (.tmp 1), false, some (11, false)⟩,
  ⟨some 13, .move (.tmp 2), false, some (11, false)⟩,
  ⟨some 14, .call ⟨.value (.func 61), #[(.tmp 12), (.tmp 13)], #[22, 22]⟩, true, some (11, false)⟩,
  ⟨some 15, .unOp .not 4 (.tmp 14), false, some (11, false)⟩,
  ⟨some 16, .pick (.tmp 11) (.const (.bool true)) (.tmp 15), false, none⟩,
  ⟨some 17, .move (.tmp 16), false, none⟩,
  ⟨some 18, .move (.tmp 3), false, some (17, false)⟩,
  ⟨some 19, .call ⟨.value (.func 65), #[(.tmp 18)], #[3]⟩, true, some (17, false)⟩,
  ⟨some 20, .unOp .not 4 (.tmp 19), false, some (17, false)⟩,
  ⟨some 21, .pick (.tmp 17) (.const (.bool true)) (.tmp 20), false, none⟩]) <|
 .seq (.keep [0, 1, 2, 3, 21]) <|
 .cond (.tmp 21) (.seq (.ops [⟨some 8, .assign (.const (.int .i64 22)), false, none⟩]) <|
 .seq (.keep [8]) <|
 .ret) <|
 .skip) <|
 .seq (.keep [0, 1, 2, 3]) <|
 .seq (.ops [⟨some 22, .move (.tmp 0), false, none⟩,
  ⟨some 23, .move (.tmp 0), false, none⟩,
  ⟨some 24, .nilCheck (.tmp 23), false, none⟩,
  ⟨some 25, .fieldAddr 102 (.tmp 24) 0, false, none⟩,
  ⟨some 26, .load 82 (.tmp 25), false, none⟩,
  ⟨some 27, .move (.tmp 1), false, none⟩,
  ⟨some 28, .move (.tmp 2), false, none⟩,
  ⟨some 29, .move (.tmp 3), false, none⟩,
  ⟨some 30, .build 85 #[(0, (.tmp 27)), (1, (.tmp 28)), (2, (.tmp 29))], false, none⟩,
  ⟨some 31, .call ⟨.value (.func 67), #[(.tmp 26), (.tmp 30)], #[82, 85]⟩, true, none⟩,
  ⟨some 32, .call ⟨.value (.func 66), #[(.tmp 22), (.tmp 31)], #[68, 82]⟩, true, none⟩,
  ⟨some 8, .assign (.tmp 32), false, none⟩]) <|
 .seq (.keep [8]) <|
 .ret
theorem c42 : Tryz.f42.body.map (fun c => ((compile Tryz.prog kp42 [] kp42 c).map (·.1), fits Tryz.f42.ntmps c)) = some (some s42, true) := by kernel_rfl
theorem r42 : Tryz.f42.results.toList = [.tmp 8] := by kernel_rfl
-- (*marionette/region.List).Pages
abbrev kp43 : List Nat := [2]
def s43 : SC :=
 .seq (.ops [⟨some 2, .assign (.const (.int .i64 0)), false, none⟩]) <|
 .seq (.keep [0]) <|
 .seq (.seq (.ops [⟨some 6, .move (.tmp 0), false, none⟩,
  ⟨some 7, .binOp .eql 68 (.tmp 6) (.const (.pointer none)) 68, false, none⟩]) <|
 .seq (.keep [0, 7]) <|
 .cond (.tmp 7) (.seq (.ops [⟨some 2, .assign (.const (.int .i64 0)), false, none⟩]) <|
 .seq (.keep [2]) <|
 .ret) <|
 .skip) <|
 .seq (.keep [0]) <|
 .seq (.ops [⟨some 3, .assign (.const (.int .u64 0)), false, none⟩]) <|
 .seq (.keep [0, 3]) <|
 .seq (.seq (.ops [⟨some 8, .move (.tmp 0), false, none⟩,
  ⟨some 9, .nilCheck (.tmp 8), false, none⟩,
  ⟨some 10, .fieldAddr 102 (.tmp 9) 0, false, none⟩,
  ⟨some 11, .load 82 (.tmp 10), false, none⟩,
  ⟨some 12, .call ⟨.builtin .len, #[(.tmp 11)], #[82]⟩, false, none⟩,
  ⟨some 13, .move (.const (.int .i64 0)), false, none⟩]) <|
 .seq (.keep [3, 11, 12, 13]) <|
 .block 0 <| .loop <| .seq (.seq (.ops [⟨some 14, .binOp .lss 3 (.tmp 13) (.tmp 12) 3, false, none⟩]) <|
 .seq (.keep [3, 11, 12, 13, 14]) <|
 .seq (.cond (.tmp 14) (.skip) <|
 .exit 0) <|
 .seq (.keep [3, 11, 12, 13]) <|
 .seq (.block 1 <| .seq (.ops [⟨some 15, .indexAddr 82 (.tmp 11) (.tmp 13), false, none⟩,
  ⟨some 16, .load 85 (.tmp 15), false, none⟩,
  ⟨some 5, .alloc 85, true, none⟩,
  ⟨none, .store 85 (.tmp 5) (.tmp 16), true, none⟩]) <|
 .seq (.keep [3, 5, 11, 12, 13]) <|
 .ops [⟨some 17, .move (.tmp 3), false, none⟩,
  ⟨some 18, .fieldAddr 85 (.tmp 5) 1, false, none⟩,
  ⟨some 19, .load 22 (.tmp 18), false, none⟩,
  ⟨some 20, .fieldAddr 85 (.tmp 5) 0, false, none⟩,
  ⟨some 21, .load 22 (.tmp 20), false, none⟩,
  ⟨some 22, .binOp .sub 22 (.tmp 19) (.tmp 21) 22, false, none⟩,
  ⟨some 23, .binOp .quo 22 (.tmp 22) (.const (.int .u64 4096)) 22, false, none⟩,
  ⟨some 24, .binOp .add 22 (.tmp 17) (.tmp 23) 22, false, none⟩,
  ⟨some 3, .assign (.tmp 24), false, none⟩]) <|
 .seq (.keep [3, 11, 12, 13]) <|
 .ops [⟨some 25, .binOp .add 3 (.tmp 13) (.const (.int .i64 1)) 3, false, none⟩,
  ⟨some 13, .move (.tmp 25), false, none⟩]) <|
 .keep [3, 11, 12, 13]) <|
 .seq (.keep [3]) <|
 .seq (.ops [⟨some 26, .move (.tmp 3), false, none⟩,
  ⟨some 27, .convert 22 3 (.tmp 26), false, none⟩,
  ⟨some 2, .assign (.tmp 27), false, none⟩]) <|
 .seq (.keep [2]) <|
 .ret
theorem c43 : Tryz.f43.body.map (fun c => ((compile Tryz.prog kp43 [] kp43 c).map (·.1), fits Tryz.f43.ntmps c)) = some (some s43, true) := by kernel_rfl
theorem r43 : Tryz.f43.results.toList = [.tmp 2] := by kernel_rfl
-- (*marionette/page.Store).Clear
abbrev kp44 : List Nat := []
def s44 : SC :=
 .seq (.ops [⟨some 11, .move (.tmp 2), false, none⟩,
  ⟨some 12, .call ⟨.builtin .min, #[(.tmp 11), (.const (.int .u64 274877906944))], #[22, 22]⟩, false, none⟩,
  ⟨some 2, .assign (.tmp 12), false, none⟩]) <|
 .seq (.keep [0, 1, 2]) <|
 .seq (.seq (.ops [⟨some 13, .move (.tmp 0), false, none⟩,
  ⟨some 14, .binOp .eql 70 (.tmp 13) (.const (.pointer none)) 70, false, none⟩,
  ⟨some 15, .move (.tmp 14), false, none⟩,
  ⟨some 16, .move (.tmp 2), false, some (15, false)⟩,
  ⟨some 17, .move (.tmp 1), false, some (15, false)⟩,
  ⟨some 18, .binOp .leq 22 (.tmp 16) (.tmp 17) 22, false, some (15, false)⟩,
  ⟨some 19, .pick (.tmp 15) (.const (.bool true)) (.tmp 18), false, none⟩]) <|
 .seq (.keep [0, 1, 2, 19]) <|
 .cond (.tmp 19) (.ret) <|
 .skip) <|
 .seq (.keep [0, 1, 2]) <|
 .seq (.ops [⟨some 20, .move (.tmp 0), false, none⟩,
  ⟨some 21, .move (.tmp 1), false, none⟩,
  ⟨some 22, .move (.tmp 2), false, none⟩,
  ⟨some 23, .call ⟨.value (.func 68), #[(.tmp 20), (.tmp 21), (.tmp 22)], #[70, 22, 22]⟩, true, none⟩]) <|
 .seq (.keep [0, 1, 2]) <|
 .seq (.ops [⟨some 24, .move (.tmp 0), false, none⟩,
  ⟨some 25, .nilCheck (.tmp 24), false, none⟩,
  ⟨some 26, .fieldAddr 106 (.tmp 25) 0, false, none⟩,
  ⟨some 27, .load 103 (.tmp 26), false, none⟩,
  ⟨some 28, .range 103 (.tmp 27), true, none⟩]) <|
 .seq (.keep [0, 1, 2, 28]) <|
 .block 0 <| .loop <| .seq (.seq (.ops [⟨some 29, .next (.tmp 28) false, true, none⟩,
  ⟨some 30, .extract (.tmp 29) 0, false, none⟩]) <|
 .seq (.keep [0, 1, 2, 28, 30]) <|
 .seq (.cond (.tmp 30) (.skip) <|
 .exit 0) <|
 .seq (.keep [0, 1, 2, 28]) <|
 .block 1 <| .seq (.ops [⟨some 31, .entry (.tmp 28), false, none⟩,
  ⟨some 32, .extract (.tmp 31) 0, false, none⟩,
  ⟨some 33, .extract (.tmp 31) 1, false, none⟩,
  ⟨some 6, .assign (.tmp 32), false, none⟩,
  ⟨some 7, .assign (.tmp 33), false, none⟩]) <|
 .seq (.keep [0, 1, 2, 6, 7, 28]) <|
 .seq (.ops [⟨some 34, .move (.tmp 6), false, none⟩,
  ⟨some 35, .binOp .mul 22 (.tmp 34) (.const (.int .u64 4096)) 22, false, none⟩,
  ⟨some 8, .assign (.tmp 35), false, none⟩]) <|
 .seq (.keep [0, 1, 2, 6, 7, 8, 28]) <|
 .seq (.seq (.ops [⟨some 36, .move (.tmp 8), false, none⟩,
  ⟨some 37, .move (.tmp 2), false, none⟩,
  ⟨some 38, .binOp .geq 22 (.tmp 36) (.tmp 37) 22, false, none⟩,
  ⟨some 39, .move (.tmp 38), false, none⟩,
  ⟨some 40, .move (.tmp 8), false, some (39, false)⟩,
  ⟨some 41, .binOp .add 22 (.tmp 40) (.const (.int .u64 4096)) 22, false, some (39, false)⟩,
  ⟨some 42, .move (.tmp 1), false, some (39, false)⟩,
  ⟨some 43, .binOp .leq 22 (.tmp 41) (.tmp 42) 22, false, some (39, false)⟩,
  ⟨some 44, .pick (.tmp 39) (.const (.bool true)) (.tmp 43), false, none⟩]) <|
 .seq (.keep [0, 1, 2, 6, 7, 8, 28, 44]) <|
 .cond (.tmp 44) (.exit 1) <|
 .skip) <|
 .seq (.keep [0, 1, 2, 6, 7, 8, 28]) <|
 .seq (.seq (.ops [⟨some 45, .move (.tmp 1), false, none⟩,
  ⟨some 46, .move (.tmp 8), false, none⟩,
  ⟨some 47, .binOp .leq 22 (.tmp 45) (.tmp 46) 22, false, none⟩,
  ⟨some 48, .move (.tmp 47), false, none⟩,
  ⟨some 49, .move (.tmp 2), false, some (48, true)⟩,
  ⟨some 50, .move (.tmp 8), false, some (48, true)⟩,
  ⟨some 51, .binOp .add 22 (.tmp 50) (.const (.int .u64 4096)) 22, false, some (48, true)⟩,
  ⟨some 52, .binOp .geq 22 (.tmp 49) (.tmp 51) 22, false, some (48, true)⟩,
  ⟨some 53, .pick (.tmp 48) (.tmp 52) (.const (.bool false)), false, none⟩]) <|
 .seq (.keep [0, 1, 2, 6, 7, 8, 28, 53]) <|
 .cond (.tmp 53) (.seq (.ops [⟨some 54, .move (.tmp 0), false, none⟩,
  ⟨some 55, .nilCheck (.tmp 54), false, none⟩,
  ⟨some 56, .fieldAddr 106 (.tmp 55) 0, false, none⟩,
  ⟨some 57, .load 103 (.tmp 56), false, none⟩,
  ⟨some 58, .move (.tmp 6), false, none⟩,
  ⟨none, .call ⟨.builtin .delete, #[(.tmp 57), (.tmp 58)], #[103, 22]⟩, true, none⟩]) <|
 .seq (.keep [0, 1, 2, 28]) <|
 .exit 1) <|
 .skip) <|
 .seq (.keep [0, 1, 2, 7, 8, 28]) <|
 .seq (.ops [⟨some 59, .move (.tmp 1), false, none⟩,
  ⟨some 60, .move (.tmp 8), false, none⟩,
  ⟨some 61, .call ⟨.builtin .max, #[(.tmp 59), (.tmp 60)], #[22, 22]⟩, false, none⟩,
  ⟨some 62, .move (.tmp 8), false, none⟩,
  ⟨some 63, .binOp .sub 22 (.tmp 61) (.tmp 62) 22, false, none⟩,
  ⟨some 64, .move (.tmp 2), false, none⟩,
  ⟨some 65, .move (.tmp 8), false, none⟩,
  ⟨some 66, .binOp .add 22 (.tmp 65) (.const (.int .u64 4096)) 22, false, none⟩,
  ⟨some 67, .call ⟨.builtin .min, #[(.tmp 64), (.tmp 66)], #[22, 22]⟩, false, none⟩,
  ⟨some 68, .move (.tmp 8), false, none⟩,
  ⟨some 69, .binOp .sub 22 (.tmp 67) (.tmp 68) 22, false, none⟩,
  ⟨some 9, .assign (.tmp 63), false, none⟩,
  ⟨some 10, .assign (.tmp 69), false, none⟩]) <|
 .seq (.keep [0, 1, 2, 7, 9, 10, 28]) <|
 .ops [⟨some 70, .move (.tmp 7), false, none⟩,
  ⟨some 71, .nilCheck (.tmp 70), false, none⟩,
  ⟨some 72, .move (.tmp 9), false, none⟩,
  ⟨some 73, .move (.tmp 10), false, none⟩,
  ⟨some 74, .slice 118 (.tmp 71) (some (.tmp 72)) (some (.tmp 73)) none, false, none⟩,
  ⟨none, .call ⟨.builtin .clear, #[(.tmp 74)], #[48]⟩, true, none⟩]) <|
 .keep [0, 1, 2, 28]
theorem c44 : Tryz.f44.body.map (fun c => ((compile Tryz.prog kp44 [] kp44 c).map (·.1), fits Tryz.f44.ntmps c)) = some (some s44, true) := by kernel_rfl
theorem r44 : Tryz.f44.results.toList = [] := by kernel_rfl
-- slices.IndexFunc[[]marionette/api.Region,marionette/api.Region]
abbrev kp45 : List Nat := [4]
def s45 : SC :=
 .seq (.ops [⟨some 4, .assign (.const (.int .i64 0)), false, none⟩]) <|
 .seq (.keep [0, 1]) <|
 .seq (.seq (.ops [⟨some 6, .move (.tmp 0), false, none⟩,
  ⟨some 7, .call ⟨.builtin .len, #[(.tmp 6)], #[82]⟩, false, none⟩,
  ⟨some 8, .move (.const (.int .i64 0)), false, none⟩]) <|
 .seq (.keep [0, 1, 7, 8]) <|
 .block 0 <| .loop <| .seq (.seq (.ops [⟨some 9, .binOp .lss 3 (.tmp 8) (.tmp 7) 3, false, none⟩]) <|
 .seq (.keep [0, 1, 7, 8, 9]) <|
 .seq (.cond (.tmp 9) (.skip) <|
 .exit 0) <|
 .seq (.keep [0, 1, 7, 8]) <|
 .seq (.block 1 <| .seq (.ops [⟨some 10, .move (.tmp 8), false, none⟩,
  ⟨some 5, .assign (.tmp 10), false, none⟩]) <|
 .seq (.keep [0, 1, 5, 7, 8]) <|
 .seq (.ops [⟨some 11, .move (.tmp 1), false, none⟩,
  ⟨some 12, .move (.tmp 0), false, none⟩,
  ⟨some 13, .move (.tmp 5), false, none⟩,
  ⟨some 14, .indexAddr 82 (.tmp 12) (.tmp 13), false, none⟩,
  ⟨some 15, .load 85 (.tmp 14), false, none⟩,
  ⟨some 16, .call ⟨.value (.tmp 11), #[(.tmp 15)], #[85]⟩, true, none⟩]) <|
 .seq (.keep [0, 1, 5, 7, 8, 16]) <|
 .cond (.tmp 16) (.seq (.ops [⟨some 17, .move (.tmp 5), false, none⟩,
  ⟨some 4, .assign (.tmp 17), false, none⟩]) <|
 .seq (.keep [4]) <|
 .ret) <|
 .skip) <|
 .seq (.keep [0, 1, 7, 8]) <|
 .ops [⟨some 18, .binOp .add 3 (.tmp 8) (.const (.int .i64 1)) 3, false, none⟩,
  ⟨some 8, .move (.tmp 18), false, none⟩]) <|
 .keep [0, 1, 7, 8]) <|
 .seq (.keep []) <|
 .seq (.ops [⟨some 4, .assign (.const (.int .i64 (-1))), false, none⟩]) <|
 .seq (.keep [4]) <|
 .ret
theorem c45 : Tryz.f45.body.map (fun c => ((compile Tryz.prog kp45 [] kp45 c).map (·.1), fits Tryz.f45.ntmps c)) = some (some s45, true) := by kernel_rfl
theorem r45 : Tryz.f45.results.toList = [.tmp 4] := by kernel_rfl
-- (*marionette/region.List).At$1
abbrev kp46 : List Nat := [3]
def s46 : SC :=
 .seq (.ops [⟨some 2, .box 85 (.tmp 0), true, none⟩,
  ⟨some 3, .assign (.const (.bool false)), false, none⟩]) <|
 .seq (.keep [1, 2]) <|
 .seq (.ops [⟨some 4, .load 22 (.tmp 1), false, none⟩,
  ⟨some 5, .fieldAddr 85 (.tmp 2) 0, false, none⟩,
  ⟨some 6, .load 22 (.tmp 5), false, none⟩,
  ⟨some 7, .binOp .geq 22 (.tmp 4) (.tmp 6) 22, false, none⟩,
  ⟨some 8, .move (.tmp 7), false, none⟩,
  ⟨some 9, .load 22 (.tmp 1), false, some (8, true)⟩,
  ⟨some 10, .fieldAddr 85 (.tmp 2) 1, false, some (8, true)⟩,
  ⟨some 11, .load 22 (.tmp 10), false, some (8, true)⟩,
  ⟨some 12, .binOp .lss 22 (.tmp 9) (.tmp 11) 22, false, some (8, true)⟩,
  ⟨some 13, .pick (.tmp 8) (.tmp 12) (.const (.bool false)), false, none⟩,
  ⟨some 3, .assign (.tmp 13), false, none⟩]) <|
 .seq (.keep [3]) <|
 .ret
theorem c46 : Tryz.f46.body.map (fun c => ((compile Tryz.prog kp46 [] kp46 c).map (·.1), fits Tryz.f46.ntmps c)) = some (some s46, true) := by kernel_rfl
theorem r46 : Tryz.f46.results.toList = [.tmp 3] := by kernel_rfl
-- marionette/page.part
abbrev kp47 : List Nat := [4, 5]
def s47 : SC :=
 .seq (.ops [⟨some 4, .assign (.const (.int .i64 0)), false, none⟩,
  ⟨some 5, .assign (.const (.int .i64 0)), false, none⟩]) <|
 .seq (.keep [0, 1]) <|
 .seq (.ops [⟨some 6, .move (.tmp 0), false, none⟩,
  ⟨some 7, .binOp .rem 22 (.tmp 6) (.const (.int .u64 4096)) 22, false, none⟩,
  ⟨some 8, .convert 22 3 (.tmp 7), false, none⟩,
  ⟨some 4, .assign (.tmp 8), false, none⟩]) <|
 .seq (.keep [1, 4]) <|
 .seq (.ops [⟨some 9, .move (.tmp 4), false, none⟩,
  ⟨some 10, .move (.tmp 1), false, none⟩,
  ⟨some 11, .move (.tmp 4), false, none⟩,
  ⟨some 12, .binOp .sub 3 (.const (.int .i64 4096)) (.tmp 11) 3, false, none⟩,
  ⟨some 13, .call ⟨.builtin .min, #[(.tmp 10), (.tmp 12)], #[3, 3]⟩, false, none⟩,
  ⟨some 4, .assign (.tmp 9), false, none⟩,
  ⟨some 5, .assign (.tmp 13), false, none⟩]) <|
 .seq (.keep [4, 5]) <|
 .ret
theorem c47 : Tryz.f47.body.map (fun c => ((compile Tryz.prog kp47 [] kp47 c).map (·.1), fits Tryz.f47.ntmps c)) = some (some s47, true) := by kernel_rfl
theorem r47 : Tryz.f47.results.toList = [.tmp 4, .tmp 5] := by kernel_rfl
-- (*marionette/page.Store).mark
abbrev kp48 : List Nat := []
def s48 : SC :=
 .seq (.ops [⟨some 4, .move (.tmp 0), false, none⟩,
  ⟨some 5, .nilCheck (.tmp 4), false, none⟩,
  ⟨some 6, .fieldAddr 106 (.tmp 5) 2, false, none⟩,
  ⟨some 7, .load 22 (.tmp 6), false, none⟩,
  ⟨some 8, .binOp .add 22 (.tmp 7) (.const (.int .u64 1)) 22, false, none⟩,
  ⟨some 9, .nilCheck (.tmp 4), false, none⟩,
  ⟨some 10, .fieldAddr 106 (.tmp 9) 2, false, none⟩,
  ⟨none, .store 22 (.tmp 10) (.tmp 8), true, none⟩]) <|
 .seq (.keep [0, 1]) <|
 .seq (.ops [⟨some 11, .move (.tmp 0), false, none⟩]) <|
 .seq (.ops [⟨some 12, .nilCheck (.tmp 11), false, none⟩]) <|
 .seq (.ops [⟨some 13, .fieldAddr 106 (.tmp 12) 1, false, none⟩]) <|
 .seq (.ops [⟨some 14, .load 104 (.tmp 13), false, none⟩]) <|
 .seq (.ops [⟨some 15, .move (.tmp 1), false, none⟩]) <|
 .seq (.ops [⟨some 16, .move (.tmp 0), false, none⟩]) <|
 .seq (.ops [⟨some 17, .nilCheck (.tmp 16), false, none⟩]) <|
 .seq (.ops [⟨some 18, .fieldAddr 106 (.tmp 17) 2, false, none⟩]) <|
 .seq (.ops [⟨some 19, .load 22 (.tmp 18), false, none⟩]) <|
 .seq (.ops [⟨none, .mapUpdate 104 (.tmp 14) (.tmp 15) (.tmp 19), true, none⟩]) <|
 .skip
theorem c48 : Tryz.f48.body.map (fun c => ((compile Tryz.prog kp48 [] kp48 c).map (·.1), fits Tryz.f48.ntmps c)) = some (some s48, true) := by kernel_rfl
theorem r48 : Tryz.f48.results.toList = [] := by kernel_rfl
-- (*marionette/marionetteref06.Space).at
abbrev kp49 : List Nat := [4, 5]
def s49 : SC :=
 .seq (.ops [⟨some 4, .assign (.const (.int .i64 0)), false, none⟩,
  ⟨some 5, .assign (.const (.bool false)), false, none⟩]) <|
 .seq (.keep [0, 1]) <|
 .seq (.ops [⟨some 6, .assign (.const (.int .i64 0)), false, none⟩]) <|
 .seq (.keep [0, 1, 6]) <|
 .seq (.ops [⟨some 9, .move (.tmp 0), false, none⟩,
  ⟨some 10, .nilCheck (.tmp 9), false, none⟩,
  ⟨some 11, .fieldAddr 76 (.tmp 10) 0, false, none⟩,
  ⟨some 12, .load 74 (.tmp 11), false, none⟩,
  ⟨some 13, .call ⟨.builtin .len, #[(.tmp 12)], #[74]⟩, false, none⟩,
  ⟨some 7, .assign (.tmp 13), false, none⟩]) <|
 .seq (.keep [0, 1, 6, 7]) <|
 .seq (.block 0 <| .loop <| .seq (.seq (.seq (.ops [⟨some 14, .move (.tmp 6), false, none⟩,
  ⟨some 15, .move (.tmp 7), false, none⟩,
  ⟨some 16, .binOp .lss 3 (.tmp 14) (.tmp 15) 3, false, none⟩]) <|
 .seq (.keep [0, 1, 6, 7, 16]) <|
 .cond (.tmp 16) (.skip) <|
 .exit 0) <|
 .seq (.keep [0, 1, 6, 7]) <|
 .block 1 <| .seq (.ops [⟨some 17, .move (.tmp 6), false, none⟩,
  ⟨some 18, .move (.tmp 7), false, none⟩,
  ⟨some 19, .binOp .add 3 (.tmp 17) (.tmp 18) 3, false, none⟩,
  ⟨some 20, .binOp .quo 3 (.tmp 19) (.const (.int .i64 2)) 3, false, none⟩,
  ⟨some 8, .assign (.tmp 20), false, none⟩]) <|
 .seq (.keep [0, 1, 6, 7, 8]) <|
 .seq (.ops [⟨some 21, .move (.tmp 0), false, none⟩,
  ⟨some 22, .nilCheck (.tmp 21), false, none⟩,
  ⟨some 23, .fieldAddr 76 (.tmp 22) 0, false, none⟩,
  ⟨some 24, .load 74 (.tmp 23), false, none⟩,
  ⟨some 25, .move (.tmp 8), false, none⟩,
  ⟨some 26, .indexAddr 74 (.tmp 24) (.tmp 25), false, none⟩,
  ⟨some 27, .fieldAddr 81 (.tmp 26) 0, false, none⟩,
  ⟨some 28, .load 22 (.tmp 27), false, none⟩,
  ⟨some 29, .move (.tmp 1), false, none⟩,
  ⟨some 30, .binOp .lss 22 (.tmp 28) (.tmp 29) 22, false, none⟩]) <|
 .seq (.keep [0, 1, 6, 7, 8, 30]) <|
 .cond (.tmp 30) (.ops [⟨some 31, .move (.tmp 8), false, none⟩,
  ⟨some 32, .binOp .add 3 (.tmp 31) (.const (.int .i64 1)) 3, false, none⟩,
  ⟨some 6, .assign (.tmp 32), false, none⟩]) <|
 .ops [⟨some 33, .move (.tmp 8), false, none⟩,
  ⟨some 7, .assign (.tmp 33), false, none⟩]) <|
 .keep [0, 1, 6, 7]) <|
 .seq (.keep [0, 1, 6]) <|
 .seq (.seq (.ops [⟨some 34, .move (.tmp 6), false, none⟩]) <|
 .seq (.ops [⟨some 35, .move (.tmp 6), false, none⟩]) <|
 .seq (.ops [⟨some 36, .move (.tmp 0), false, none⟩]) <|
 .seq (.ops [⟨some 37, .nilCheck (.tmp 36), false, none⟩]) <|
 .seq (.ops [⟨some 38, .fieldAddr 76 (.tmp 37) 0, false, none⟩]) <|
 .seq (.ops [⟨some 39, .load 74 (.tmp 38), false, none⟩]) <|
 .seq (.ops [⟨some 40, .call ⟨.builtin .len, #[(.tmp 39)], #[74]⟩, false, none⟩]) <|
 .seq (.ops [⟨some 41, .binOp .lss 3 (.tmp 35) (.tmp 40) 3, false, none⟩]) <|
 .seq (.ops [⟨some 42, .move (.tmp 41), false, none⟩]) <|
 .seq (.ops [⟨some 43, .move (.tmp 0), false, some (42, true)⟩]) <|
 .seq (.ops [⟨some 44, .nilCheck (.tmp 43), false, some (42, true)⟩]) <|
 .seq (.ops [⟨some 45, .fieldAddr 76 (.tmp 44) 0, false, some (42, true)⟩]) <|
 .seq (.ops [⟨some 46, .load 74 (.tmp 45), false, some (42, true)⟩]) <|
 .seq (.ops [⟨some 47, .move (.tmp 6), false, some (42, true)⟩]) <|
 .seq (.ops [⟨some 48, .indexAddr 74 (.tmp 46) (.tmp 47), false, some (42, true)⟩]) <|
 .seq (.ops [⟨some 49, .fieldAddr 81 (.tmp 48) 0, false, some (42, true)⟩]) <|
 .seq (.ops [⟨some 50, .load 22 (.tmp 49), false, some (42, true)⟩]) <|
 .seq (.ops [⟨some 51, .move (.tmp 1), false, some (42, true)⟩]) <|
 .seq (.ops [⟨some 52, .binOp .eql 22 (.tmp 50) (.tmp 51) 22, false, some (42, true)⟩]) <|
 .seq (.ops [⟨some 53, .pick (.tmp 42) (.tmp 52) (.const (.bool false)), false, none⟩]) <|
 .seq (.ops [⟨some 4, .assign (.tmp 34), false, none⟩]) <|
 .seq (.ops [⟨some 5, .assign (.tmp 53), false, none⟩]) <|
 .skip) <|
 .seq (.keep [4, 5]) <|
 .ret
theorem c49 : Tryz.f49.body.map (fun c => ((compile Tryz.prog kp49 [] kp49 c).map (·.1), fits Tryz.f49.ntmps c)) = some (some s49, true) := by kernel_rfl
theorem r49 : Tryz.f49.results.toList = [.tmp 4, .tmp 5] := by kernel_rfl
-- (*marionette/mem.Space).Fetch
abbrev kp50 : List Nat := [4, 5]
def s50 : SC :=
 .seq (.ops [⟨some 4, .assign (.const (.int .u32 0)), false, none⟩,
  ⟨some 5, .alloc 31, true, none⟩]) <|
 .seq (.keep [0, 1, 5]) <|
 .seq (.seq (.ops [⟨some 9, .move (.tmp 0), false, none⟩,
  ⟨some 10, .binOp .eql 42 (.tmp 9) (.const (.pointer none)) 42, false, none⟩,
  ⟨some 11, .move (.tmp 10), false, none⟩,
  ⟨some 12, .move (.tmp 1), false, some (11, false)⟩,
  ⟨some 13, .binOp .rem 22 (.tmp 12) (.const (.int .u64 2)) 22, false, some (11, false)⟩,
  ⟨some 14, .binOp .neq 22 (.tmp 13) (.const (.int .u64 0)) 22, false, some (11, false)⟩,
  ⟨some 15, .pick (.tmp 11) (.const (.bool true)) (.tmp 14), false, none⟩]) <|
 .seq (.keep [0, 1, 5, 15]) <|
 .cond (.tmp 15) (.seq (.ops [⟨some 16, .move (.tmp 1), false, none⟩,
  ⟨some 17, .build 31 #[(0, (.const (.int .i64 3))), (1, (.tmp 16))], false, none⟩,
  ⟨some 4, .assign (.const (.int .u32 0)), false, none⟩,
  ⟨none, .store 31 (.tmp 5) (.tmp 17), true, none⟩]) <|
 .seq (.keep [4, 5]) <|
 .ret) <|
 .skip) <|
 .seq (.keep [0, 1, 5]) <|
 .seq (.ops [⟨some 19, .move (.tmp 0), false, none⟩,
  ⟨some 20, .move (.tmp 1), false, none⟩,
  ⟨some 21, .call ⟨.value (.func 69), #[(.tmp 19), (.tmp 20)], #[42, 22]⟩, true, none⟩,
  ⟨some 18, .move (.tmp 21), false, none⟩,
  ⟨some 22, .extract (.tmp 18) 0, false, none⟩,
  ⟨some 23, .extract (.tmp 18) 1, false, none⟩,
  ⟨some 7, .alloc 31, true, none⟩,
  ⟨some 6, .assign (.tmp 22), false, none⟩,
  ⟨none, .store 31 (.tmp 7) (.tmp 23), true, none⟩]) <|
 .seq (.keep [0, 1, 5, 6, 7]) <|
 .seq (.seq (.ops [⟨some 24, .fieldAddr 31 (.tmp 7) 0, false, none⟩,
  ⟨some 25, .load 3 (.tmp 24), false, none⟩,
  ⟨some 26, .binOp .neq 3 (.tmp 25) (.const (.int .i64 0)) 3, false, none⟩,
  ⟨some 27, .move (.tmp 26), false, none⟩,
  ⟨some 28, .move (.tmp 6), false, some (27, false)⟩,
  ⟨some 29, .binOp .and 121 (.tmp 28) (.const (.int .u32 3)) 121, false, some (27, false)⟩,
  ⟨some 30, .binOp .neq 121 (.tmp 29) (.const (.int .u32 3)) 121, false, some (27, false)⟩,
  ⟨some 31, .pick (.tmp 27) (.const (.bool true)) (.tmp 30), false, none⟩]) <|
 .seq (.keep [0, 1, 5, 6, 7, 31]) <|
 .cond (.tmp 31) (.seq (.seq (.ops [⟨some 32, .move (.tmp 6), false, none⟩]) <|
 .seq (.ops [⟨some 33, .load 31 (.tmp 7), false, none⟩]) <|
 .seq (.ops [⟨some 4, .assign (.tmp 32), false, none⟩]) <|
 .seq (.ops [⟨none, .store 31 (.tmp 5) (.tmp 33), true, none⟩]) <|
 .skip) <|
 .seq (.keep [4, 5]) <|
 .ret) <|
 .skip) <|
 .seq (.keep [0, 1, 5, 6, 7]) <|
 .seq (.ops [⟨some 35, .move (.tmp 0), false, none⟩,
  ⟨some 36, .move (.tmp 1), false, none⟩,
  ⟨some 37, .binOp .add 22 (.tmp 36) (.const (.int .u64 2)) 22, false, none⟩,
  ⟨some 38, .call ⟨.value (.func 69), #[(.tmp 35), (.tmp 37)], #[42, 22]⟩, true, none⟩,
  ⟨some 34, .move (.tmp 38), false, none⟩,
  ⟨some 39, .extract (.tmp 34) 0, false, none⟩,
  ⟨some 40, .extract (.tmp 34) 1, false, none⟩,
  ⟨some 8, .assign (.tmp 39), false, none⟩,
  ⟨none, .store 31 (.tmp 7) (.tmp 40), true, none⟩]) <|
 .seq (.keep [5, 6, 7, 8]) <|
 .seq (.seq (.ops [⟨some 41, .fieldAddr 31 (.tmp 7) 0, false, none⟩,
  ⟨some 42, .load 3 (.tmp 41), false, none⟩,
  ⟨some 43, .binOp .neq 3 (.tmp 42) (.const (.int .i64 0)) 3, false, none⟩]) <|
 .seq (.keep [5, 6, 7, 8, 43]) <|
 .cond (.tmp 43) (.seq (.seq (.ops [⟨some 44, .load 31 (.tmp 7), false, none⟩]) <|
 .seq (.ops [⟨some 4, .assign (.const (.int .u32 0)), false, none⟩]) <|
 .seq (.ops [⟨none, .store 31 (.tmp 5) (.tmp 44), true, none⟩]) <|
 .skip) <|
 .seq (.keep [4, 5]) <|
 .ret) <|
 .skip) <|
 .seq (.keep [5, 6, 8]) <|
 .seq (.ops [⟨some 45, .move (.tmp 8), false, none⟩,
  ⟨some 46, .binOp .shl 121 (.tmp 45) (.const (.int .u64 16)) 143, false, none⟩,
  ⟨some 47, .move (.tmp 6), false, none⟩,
  ⟨some 48, .binOp .or 121 (.tmp 46) (.tmp 47) 121, false, none⟩,
  ⟨some 49, .build 31 #[], false, none⟩,
  ⟨some 4, .assign (.tmp 48), false, none⟩,
  ⟨none, .store 31 (.tmp 5) (.tmp 49), true, none⟩]) <|
 .seq (.keep [4, 5]) <|
 .ret
theorem c50 : Tryz.f50.body.map (fun c => ((compile Tryz.prog kp50 [] kp50 c).map (·.1), fits Tryz.f50.ntmps c)) = some (some s50, true) := by kernel_rfl
theorem r50 : Tryz.f50.results.toList = [.tmp 4, .cell 5 31] := by kernel_rfl
-- marionette/cache.decode
abbrev kp51 : List Nat := [2, 3]
def s51 : SC :=
 .seq (.ops [⟨some 2, .alloc 63, true, none⟩,
  ⟨some 3, .assign (.const (.bool false)), false, none⟩]) <|
 .seq (.keep [0, 2]) <|
 .seq (.seq (.ops [⟨some 4, .move (.tmp 0), false, none⟩,
  ⟨some 5, .convert 121 145 (.tmp 4), false, none⟩,
  ⟨some 6, .call ⟨.value (.func 70), #[(.tmp 5)], #[145]⟩, true, none⟩]) <|
 .seq (.keep [0, 2, 6]) <|
 .cond (.tmp 6) (.seq (.ops [⟨some 7, .move (.tmp 0), false, none⟩,
  ⟨some 8, .convert 121 145 (.tmp 7), false, none⟩,
  ⟨some 9, .call ⟨.value (.func 71), #[(.tmp 8)], #[145]⟩, true, none⟩,
  ⟨some 10, .extract (.tmp 9) 0, false, none⟩,
  ⟨some 11, .extract (.tmp 9) 1, false, none⟩,
  ⟨none, .store 63 (.tmp 2) (.tmp 10), true, none⟩,
  ⟨some 3, .assign (.tmp 11), false, none⟩]) <|
 .seq (.keep [2, 3]) <|
 .ret) <|
 .skip) <|
 .seq (.keep [0, 2]) <|
 .seq (.ops [⟨some 12, .move (.tmp 0), false, none⟩,
  ⟨some 13, .call ⟨.value (.func 72), #[(.tmp 12)], #[121]⟩, true, none⟩,
  ⟨some 14, .extract (.tmp 13) 0, false, none⟩,
  ⟨some 15, .extract (.tmp 13) 1, false, none⟩,
  ⟨none, .store 63 (.tmp 2) (.tmp 14), true, none⟩,
  ⟨some 3, .assign (.tmp 15), false, none⟩]) <|
 .seq (.keep [2, 3]) <|
 .ret
theorem c51 : Tryz.f51.body.map (fun c => ((compile Tryz.prog kp51 [] kp51 c).map (·.1), fits Tryz.f51.ntmps c)) = some (some s51, true) := by kernel_rfl
theorem r51 : Tryz.f51.results.toList = [.cell 2 63, .tmp 3] := by kernel_rfl
-- marionette/alu.Taken
abbrev kp53 : List Nat := [6, 7]
def s53 : SC :=
 .seq (.ops [⟨some 6, .assign (.const (.bool false)), false, none⟩,
  ⟨some 7, .assign (.const (.bool false)), false, none⟩]) <|
 .seq (.keep [0, 1, 2]) <|
 .seq (.seq (.ops [⟨some 8, .move (.tmp 0), false, none⟩]) <|
 .seq (.keep [1, 2, 8]) <|
 .block 0 <| .seq (.ops [⟨some 10, .binOp .eql 3 (.tmp 8) (.const (.int .i64 5)) 3, false, none⟩,
  ⟨some 9, .assign (.tmp 10), false, none⟩]) <|
 .seq (.keep [1, 2, 8, 9]) <|
 .cond (.tmp 9) (.seq (.ops [⟨some 11, .move (.tmp 1), false, none⟩,
  ⟨some 12, .move (.tmp 2), false, none⟩,
  ⟨some 13, .binOp .eql 22 (.tmp 11) (.tmp 12) 22, false, none⟩,
  ⟨some 6, .assign (.tmp 13), false, none⟩,
  ⟨some 7, .assign (.const (.bool true)), false, none⟩]) <|
 .seq (.keep [6, 7]) <|
 .ret) <|
 .seq (.ops [⟨some 15, .binOp .eql 3 (.tmp 8) (.const (.int .i64 6)) 3, false, none⟩,
  ⟨some 14, .assign (.tmp 15), false, none⟩]) <|
 .seq (.keep [1, 2, 8, 14]) <|
 .cond (.tmp 14) (.seq (.ops [⟨some 16, .move (.tmp 1), false, none⟩,
  ⟨some 17, .move (.tmp 2), false, none⟩,
  ⟨some 18, .binOp .neq 22 (.tmp 16) (.tmp 17) 22, false, none⟩,
  ⟨some 6, .assign (.tmp 18), false, none⟩,
  ⟨some 7, .assign (.const (.bool true)), false, none⟩]) <|
 .seq (.keep [6, 7]) <|
 .ret) <|
 .seq (.ops [⟨some 20, .binOp .eql 3 (.tmp 8) (.const (.int .i64 7)) 3, false, none⟩,
  ⟨some 19, .assign (.tmp 20), false, none⟩]) <|
 .seq (.keep [1, 2, 8, 19]) <|
 .cond (.tmp 19) (.seq (.ops [⟨some 21, .move (.tmp 1), false, none⟩,
  ⟨some 22, .move (.tmp 2), false, none⟩,
  ⟨some 23, .call ⟨.value (.func 74), #[(.tmp 21), (.tmp 22)], #[22, 22]⟩, true, none⟩,
  ⟨some 6, .assign (.tmp 23), false, none⟩,
  ⟨some 7, .assign (.const (.bool true)), false, none⟩]) <|
 .seq (.keep [6, 7]) <|
 .ret) <|
 .seq (.ops [⟨some 25, .binOp .eql 3 (.tmp 8) (.const (.int .i64 8)) 3, false, none⟩,
  ⟨some 24, .assign (.tmp 25), false, none⟩]) <|
 .seq (.keep [1, 2, 8, 24]) <|
 .cond (.tmp 24) (.seq (.ops [⟨some 26, .move (.tmp 1), false, none⟩,
  ⟨some 27, .move (.tmp 2), false, none⟩,
  ⟨some 28, .call ⟨.value (.func 74), #[(.tmp 26), (.tmp 27)], #[22, 22]⟩, true, none⟩,
  ⟨some 29, .unOp .not 4 (.tmp 28), false, none⟩,
  ⟨some 6, .assign (.tmp 29), false, none⟩,
  ⟨some 7, .assign (.const (.bool true)), false, none⟩]) <|
 .seq (.keep [6, 7]) <|
 .ret) <|
 .seq (.ops [⟨some 31, .binOp .eql 3 (.tmp 8) (.const (.int .i64 9)) 3, false, none⟩,
  ⟨some 30, .assign (.tmp 31), false, none⟩]) <|
 .seq (.keep [1, 2, 8, 30]) <|
 .cond (.tmp 30) (.seq (.ops [⟨some 32, .move (.tmp 1), false, none⟩,
  ⟨some 33, .move (.tmp 2), false, none⟩,
  ⟨some 34, .binOp .lss 22 (.tmp 32) (.tmp 33) 22, false, none⟩,
  ⟨some 6, .assign (.tmp 34), false, none⟩,
  ⟨some 7, .assign (.const (.bool true)), false, none⟩]) <|
 .seq (.keep [6, 7]) <|
 .ret) <|
 .seq (.ops [⟨some 36, .binOp .eql 3 (.tmp 8) (.const (.int .i64 10)) 3, false, none⟩,
  ⟨some 35, .assign (.tmp 36), false, none⟩]) <|
 .seq (.keep [1, 2, 35]) <|
 .cond (.tmp 35) (.seq (.ops [⟨some 37, .move (.tmp 1), false, none⟩,
  ⟨some 38, .move (.tmp 2), false, none⟩,
  ⟨some 39, .binOp .geq 22 (.tmp 37) (.tmp 38) 22, false, none⟩,
  ⟨some 6, .assign (.tmp 39), false, none⟩,
  ⟨some 7, .assign (.const (.bool true)), false, none⟩]) <|
 .seq (.keep [6, 7]) <|
 .ret) <|
 .skip) <|
 .seq (.keep []) <|
 .seq (.ops [⟨some 6, .assign (.const (.bool false)), false, none⟩,
  ⟨some 7, .assign (.const (.bool false)), false, none⟩]) <|
 .seq (.keep [6, 7]) <|
 .ret
theorem c53 : Tryz.f53.body.map (fun c => ((compile Tryz.prog kp53 [] kp53 c).map (·.1), fits Tryz.f53.ntmps c)) = some (some s53, true) := by kernel_rfl
theorem r53 : Tryz.f53.results.toList = [.tmp 6, .tmp 7] := by kernel_rfl
-- (*marionette/mem.Space).Store
abbrev kp55 : List Nat := [8]
def s55 : SC :=
 .seq (.ops [⟨some 8, .alloc 31, true, none⟩]) <|
 .seq (.keep [0, 1, 2, 3, 8]) <|
 .seq (.seq (.ops [⟨some 10, .move (.tmp 0), false, none⟩,
  ⟨some 11, .move (.tmp 1), false, none⟩,
  ⟨some 12, .move (.tmp 2), false, none⟩,
  ⟨some 13, .call ⟨.value (.func 75), #[(.tmp 10), (.tmp 11), (.tmp 12)], #[42, 22, 3]⟩, true, none⟩,
  ⟨some 9, .alloc 31, true, none⟩,
  ⟨none, .store 31 (.tmp 9) (.tmp 13), true, none⟩]) <|
 .seq (.keep [0, 1, 2, 3, 8, 9]) <|
 .seq (.ops [⟨some 14, .fieldAddr 31 (.tmp 9) 0, false, none⟩,
  ⟨some 15, .load 3 (.tmp 14), false, none⟩,
  ⟨some 16, .binOp .neq 3 (.tmp 15) (.const (.int .i64 0)) 3, false, none⟩]) <|
 .seq (.keep [0, 1, 2, 3, 8, 9, 16]) <|
 .cond (.tmp 16) (.seq (.ops [⟨some 17, .load 31 (.tmp 9), false, none⟩,
  ⟨none, .store 31 (.tmp 8) (.tmp 17), true, none⟩]) <|
 .seq (.keep [8]) <|
 .ret) <|
 .skip) <|
 .seq (.keep [0, 1, 2, 3, 8]) <|
 .seq (.seq (.ops [⟨some 18, .move (.tmp 0), false, none⟩]) <|
 .seq (.ops [⟨some 19, .nilCheck (.tmp 18), false, none⟩]) <|
 .seq (.ops [⟨some 20, .fieldAddr 73 (.tmp 19) 1, false, none⟩]) <|
 .seq (.ops [⟨some 22, .move (.tmp 1), false, none⟩]) <|
 .seq (.ops [⟨some 23, .move (.tmp 3), false, none⟩]) <|
 .seq (.ops [⟨some 24, .move (.tmp 2), false, none⟩]) <|
 .amb (.seq (.ops [⟨some 21, .load 70 (.tmp 20), false, none⟩]) <|
 .seq (.ops [⟨some 25, .call ⟨.value (.func 76), #[(.const (.slice none 0 0)), (.tmp 23), (.tmp 24)], #[48, 22, 3]⟩, true, none⟩]) <|
 .seq (.ops [⟨some 26, .call ⟨.value (.func 29), #[(.tmp 21), (.tmp 22), (.tmp 25)], #[70, 22, 48]⟩, true, none⟩]) <|
 .skip) (.seq (.ops [⟨some 25, .call ⟨.value (.func 76), #[(.const (.slice none 0 0)), (.tmp 23), (.tmp 24)], #[48, 22, 3]⟩, true, none⟩]) <|
 .seq (.ops [⟨some 21, .load 70 (.tmp 20), false, none⟩]) <|
 .seq (.ops [⟨some 26, .call ⟨.value (.func 29), #[(.tmp 21), (.tmp 22), (.tmp 25)], #[70, 22, 48]⟩, true, none⟩]) <|
 .skip)) <|
 .seq (.keep [8]) <|
 .seq (.ops [⟨some 27, .build 31 #[], false, none⟩,
  ⟨none, .store 31 (.tmp 8) (.tmp 27), true, none⟩]) <|
 .seq (.keep [8]) <|
 .ret
theorem c55 : Tryz.f55.body.map (fun c => ((compile Tryz.prog kp55 [] kp55 c).map (·.1), fits Tryz.f55.ntmps c)) = some (some s55, true) := by kernel_rfl
theorem r55 : Tryz.f55.results.toList = [.cell 8 31] := by kernel_rfl
-- (*marionette/mem.Space).Load
abbrev kp56 : List Nat := [6, 7]
def s56 : SC :=
 .seq (.ops [⟨some 6, .assign (.const (.int .u64 0)), false, none⟩,
  ⟨some 7, .alloc 31, true, none⟩]) <|
 .seq (.keep [0, 1, 2, 7]) <|
 .seq (.seq (.ops [⟨some 10, .move (.tmp 0), false, none⟩,
  ⟨some 11, .binOp .eql 42 (.tmp 10) (.const (.pointer none)) 42, false, none⟩,
  ⟨some 12, .move (.tmp 11), false, none⟩,
  ⟨some 13, .move (.tmp 2), false, some (12, false)⟩,
  ⟨some 14, .call ⟨.value (.func 77), #[(.tmp 13)], #[3]⟩, true, some (12, false)⟩,
  ⟨some 15, .unOp .not 4 (.tmp 14), false, some (12, false)⟩,
  ⟨some 16, .pick (.tmp 12) (.const (.bool true)) (.tmp 15), false, none⟩]) <|
 .seq (.keep [0, 1, 2, 7, 16]) <|
 .cond (.tmp 16) (.seq (.ops [⟨some 17, .move (.tmp 1), false, none⟩,
  ⟨some 18, .build 31 #[(0, (.const (.int .i64 1))), (1, (.tmp 17))], false, none⟩,
  ⟨some 6, .assign (.const (.int .u64 0)), false, none⟩,
  ⟨none, .store 31 (.tmp 7) (.tmp 18), true, none⟩]) <|
 .seq (.keep [6, 7]) <|
 .ret) <|
 .skip) <|
 .seq (.keep [0, 1, 2, 7]) <|
 .seq (.seq (.ops [⟨some 20, .move (.tmp 0), false, none⟩,
  ⟨some 21, .move (.tmp 1), false, none⟩,
  ⟨some 22, .move (.tmp 2), false, none⟩,
  ⟨some 23, .call ⟨.value (.func 78), #[(.tmp 20), (.tmp 21), (.tmp 22), (.const (.int .i64 1))], #[42, 22, 3, 3]⟩, true, none⟩,
  ⟨some 19, .move (.tmp 23), false, none⟩,
  ⟨some 24, .extract (.tmp 19) 0, false, none⟩,
  ⟨some 25, .extract (.tmp 19) 1, false, none⟩,
  ⟨some 8, .assign (.tmp 24), false, none⟩,
  ⟨some 9, .assign (.tmp 25), false, none⟩]) <|
 .seq (.keep [0, 1, 2, 7, 8, 9]) <|
 .seq (.ops [⟨some 26, .move (.tmp 9), false, none⟩]) <|
 .seq (.keep [0, 1, 2, 7, 8, 26]) <|
 .cond (.tmp 26) (.seq (.ops [⟨some 27, .move (.tmp 8), false, none⟩,
  ⟨some 28, .build 31 #[(0, (.const (.int .i64 1))), (1, (.tmp 27))], false, none⟩,
  ⟨some 6, .assign (.const (.int .u64 0)), false, none⟩,
  ⟨none, .store 31 (.tmp 7) (.tmp 28), true, none⟩]) <|
 .seq (.keep [6, 7]) <|
 .ret) <|
 .skip) <|
 .seq (.keep [0, 1, 2, 7]) <|
 .seq (.ops [⟨some 29, .move (.tmp 0), false, none⟩,
  ⟨some 30, .nilCheck (.tmp 29), false, none⟩,
  ⟨some 31, .fieldAddr 73 (.tmp 30) 1, false, none⟩,
  ⟨some 32, .load 70 (.tmp 31), false, none⟩,
  ⟨some 33, .move (.tmp 1), false, none⟩,
  ⟨some 34, .move (.tmp 2), false, none⟩,
  ⟨some 35, .call ⟨.value (.func 80), #[(.tmp 32), (.tmp 33), (.tmp 34)], #[70, 22, 3]⟩, true, none⟩,
  ⟨some 36, .move (.tmp 2), false, none⟩,
  ⟨some 37, .call ⟨.value (.func 79), #[(.tmp 35), (.tmp 36)], #[48, 3]⟩, true, none⟩,
  ⟨some 38, .build 31 #[], false, none⟩,
  ⟨some 6, .assign (.tmp 37), false, none⟩,
  ⟨none, .store 31 (.tmp 7) (.tmp 38), true, none⟩]) <|
 .seq (.keep [6, 7]) <|
 .ret
theorem c56 : Tryz.f56.body.map (fun c => ((compile Tryz.prog kp56 [] kp56 c).map (·.1), fits Tryz.f56.ntmps c)) = some (some s56, true) := by kernel_rfl
theorem r56 : Tryz.f56.results.toList = [.tmp 6, .cell 7 31] := by kernel_rfl
-- marionette/word.Sext
abbrev kp57 : List Nat := [4]
def s57 : SC :=
 .seq (.ops [⟨some 4, .assign (.const (.int .u64 0)), false, none⟩]) <|
 .seq (.keep [0, 1]) <|
 .seq (.seq (.ops [⟨some 5, .move (.tmp 1), false, none⟩,
  ⟨some 6, .binOp .lss 3 (.tmp 5) (.const (.int .i64 1)) 3, false, none⟩,
  ⟨some 7, .move (.tmp 6), false, none⟩,
  ⟨some 8, .move (.tmp 1), false, some (7, false)⟩,
  ⟨some 9, .binOp .gtr 3 (.tmp 8) (.const (.int .i64 64)) 3, false, some (7, false)⟩,
  ⟨some 10, .pick (.tmp 7) (.const (.bool true)) (.tmp 9), false, none⟩]) <|
 .seq (.keep [0, 1, 10]) <|
 .cond (.tmp 10) (.seq (.ops [⟨some 11, .move (.tmp 0), false, none⟩,
  ⟨some 4, .assign (.tmp 11), false, none⟩]) <|
 .seq (.keep [4]) <|
 .ret) <|
 .skip) <|
 .seq (.keep [0, 1]) <|
 .seq (.ops [⟨some 12, .move (.tmp 0), false, none⟩,
  ⟨some 13, .move (.tmp 1), false, none⟩,
  ⟨some 14, .binOp .sub 3 (.const (.int .i64 64)) (.tmp 13) 3, false, none⟩,
  ⟨some 15, .binOp .shl 22 (.tmp 12) (.tmp 14) 3, false, none⟩,
  ⟨some 16, .convert 22 2 (.tmp 15), false, none⟩,
  ⟨some 17, .move (.tmp 1), false, none⟩,
  ⟨some 18, .binOp .sub 3 (.const (.int .i64 64)) (.tmp 17) 3, false, none⟩,
  ⟨some 19, .binOp .shr 2 (.tmp 16) (.tmp 18) 3, false, none⟩,
  ⟨some 20, .convert 2 22 (.tmp 19), false, none⟩,
  ⟨some 4, .assign (.tmp 20), false, none⟩]) <|
 .seq (.keep [4]) <|
 .ret
theorem c57 : Tryz.f57.body.map (fun c => ((compile Tryz.prog kp57 [] kp57 c).map (·.1), fits Tryz.f57.ntmps c)) = some (some s57, true) := by kernel_rfl
theorem r57 : Tryz.f57.results.toList = [.tmp 4] := by kernel_rfl
end Go.SX.G
