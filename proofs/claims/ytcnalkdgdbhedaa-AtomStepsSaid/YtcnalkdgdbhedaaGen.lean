/- The compiled texts of the functions that are walked here, each checked against the loaded program; facts on its types. Printed by a program of this session. -/
import Derived.Test.YtcnalkdgdbhedaaSxSimp
import Derived.Test.YtcnalkdgdbhedaaProg
set_option linter.unusedVariables false
namespace Go.SX.G
open Go Go.SX Go.Proofs
theorem mixed : Try.prog.follows .mixedOrders = true := by kernel_rfl
theorem ar117 : arE Try.prog 117 = some (4096, 5, 1) := by kernel_rfl
theorem by129 : byP Try.prog 129 = some 40 := by kernel_rfl
theorem by3 : byP Try.prog 3 = some 8 := by kernel_rfl
theorem by5 : byP Try.prog 5 = some 1 := by kernel_rfl
theorem by71 : byP Try.prog 71 = some 24 := by kernel_rfl
theorem by95 : byP Try.prog 95 = some 24 := by kernel_rfl
theorem fd41_0 : fdO Try.prog 41 0 = some (0, none) := by kernel_rfl
theorem fo107_0 : foff Try.prog 107 0 = some 0 := by kernel_rfl
theorem fo111_0 : foff Try.prog 111 0 = some 0 := by kernel_rfl
theorem fo111_1 : foff Try.prog 111 1 = some 1 := by kernel_rfl
theorem fo111_2 : foff Try.prog 111 2 = some 2 := by kernel_rfl
theorem fo111_3 : foff Try.prog 111 3 = some 3 := by kernel_rfl
theorem fo126_0 : foff Try.prog 126 0 = some 0 := by kernel_rfl
theorem fo126_1 : foff Try.prog 126 1 = some 1 := by kernel_rfl
theorem fo129_0 : foff Try.prog 129 0 = some 0 := by kernel_rfl
theorem fo129_1 : foff Try.prog 129 1 = some 1 := by kernel_rfl
theorem fo129_2 : foff Try.prog 129 2 = some 2 := by kernel_rfl
theorem fo41_0 : foff Try.prog 41 0 = some 0 := by kernel_rfl
theorem fo64_0 : foff Try.prog 64 0 = some 0 := by kernel_rfl
theorem fo71_0 : foff Try.prog 71 0 = some 0 := by kernel_rfl
theorem fo71_1 : foff Try.prog 71 1 = some 1 := by kernel_rfl
theorem fo71_2 : foff Try.prog 71 2 = some 2 := by kernel_rfl
theorem fo77_2 : foff Try.prog 77 2 = some 33 := by kernel_rfl
theorem fo77_3 : foff Try.prog 77 3 = some 34 := by kernel_rfl
theorem fo77_4 : foff Try.prog 77 4 = some 35 := by kernel_rfl
theorem fo87_0 : foff Try.prog 87 0 = some 0 := by kernel_rfl
theorem fo87_1 : foff Try.prog 87 1 = some 1 := by kernel_rfl
theorem fo87_2 : foff Try.prog 87 2 = some 2 := by kernel_rfl
theorem fo87_3 : foff Try.prog 87 3 = some 3 := by kernel_rfl
theorem fo87_4 : foff Try.prog 87 4 = some 4 := by kernel_rfl
theorem fo95_0 : foff Try.prog 95 0 = some 0 := by kernel_rfl
theorem fo95_1 : foff Try.prog 95 1 = some 1 := by kernel_rfl
theorem fo95_2 : foff Try.prog 95 2 = some 2 := by kernel_rfl
theorem pl107_0 : place Try.prog 107 0 = some (0, 1) := by kernel_rfl
theorem pl111_0 : place Try.prog 111 0 = some (0, 1) := by kernel_rfl
theorem pl111_1 : place Try.prog 111 1 = some (1, 1) := by kernel_rfl
theorem pl126_1 : place Try.prog 126 1 = some (1, 1) := by kernel_rfl
theorem pl129_0 : place Try.prog 129 0 = some (0, 1) := by kernel_rfl
theorem pl129_1 : place Try.prog 129 1 = some (1, 1) := by kernel_rfl
theorem pl129_2 : place Try.prog 129 2 = some (2, 1) := by kernel_rfl
theorem pl41_0 : place Try.prog 41 0 = some (0, 1) := by kernel_rfl
theorem pl41_1 : place Try.prog 41 1 = some (1, 1) := by kernel_rfl
theorem pl62_0 : place Try.prog 62 0 = some (0, 1) := by kernel_rfl
theorem pl62_1 : place Try.prog 62 1 = some (1, 1) := by kernel_rfl
theorem pl64_0 : place Try.prog 64 0 = some (0, 1) := by kernel_rfl
theorem pl64_1 : place Try.prog 64 1 = some (1, 2) := by kernel_rfl
theorem pl77_4 : place Try.prog 77 4 = some (35, 1) := by kernel_rfl
theorem pl87_0 : place Try.prog 87 0 = some (0, 1) := by kernel_rfl
theorem pl87_1 : place Try.prog 87 1 = some (1, 1) := by kernel_rfl
theorem pl87_2 : place Try.prog 87 2 = some (2, 1) := by kernel_rfl
theorem pl95_0 : place Try.prog 95 0 = some (0, 1) := by kernel_rfl
theorem pl95_1 : place Try.prog 95 1 = some (1, 1) := by kernel_rfl
theorem pl95_2 : place Try.prog 95 2 = some (2, 1) := by kernel_rfl
theorem sd107 : sized Try.prog 107 = true := by kernel_rfl
theorem sd111 : sized Try.prog 111 = true := by kernel_rfl
theorem sd117 : sized Try.prog 117 = true := by kernel_rfl
theorem sd126 : sized Try.prog 126 = true := by kernel_rfl
theorem sd129 : sized Try.prog 129 = true := by kernel_rfl
theorem sd41 : sized Try.prog 41 = true := by kernel_rfl
theorem sd62 : sized Try.prog 62 = true := by kernel_rfl
theorem sd64 : sized Try.prog 64 = true := by kernel_rfl
theorem sd77 : sized Try.prog 77 = true := by kernel_rfl
theorem sd87 : sized Try.prog 87 = true := by kernel_rfl
theorem sd95 : sized Try.prog 95 = true := by kernel_rfl
theorem sh105 : shP Try.prog 105 = some .one := by kernel_rfl
theorem sh108 : shP Try.prog 108 = some .one := by kernel_rfl
theorem sh109 : shP Try.prog 109 = some .one := by kernel_rfl
theorem sh124 : shP Try.prog 124 = some .one := by kernel_rfl
theorem sh129 : shP Try.prog 129 = some (.agg 3) := by kernel_rfl
theorem sh22 : shP Try.prog 22 = some .one := by kernel_rfl
theorem sh3 : shP Try.prog 3 = some .one := by kernel_rfl
theorem sh41 : shP Try.prog 41 = some (.agg 2) := by kernel_rfl
theorem sh5 : shP Try.prog 5 = some .one := by kernel_rfl
theorem sh50 : shP Try.prog 50 = some .one := by kernel_rfl
theorem sh62 : shP Try.prog 62 = some (.agg 2) := by kernel_rfl
theorem sh64 : shP Try.prog 64 = some (.agg 3) := by kernel_rfl
theorem sh71 : shP Try.prog 71 = some (.agg 3) := by kernel_rfl
theorem sh75 : shP Try.prog 75 = some .one := by kernel_rfl
theorem sh82 : shP Try.prog 82 = some .one := by kernel_rfl
theorem sh84 : shP Try.prog 84 = some .one := by kernel_rfl
theorem sh95 : shP Try.prog 95 = some (.agg 3) := by kernel_rfl
theorem sl105 : slE Try.prog 105 = some (95, 3) := by kernel_rfl
theorem sl124 : slE Try.prog 124 = some (129, 3) := by kernel_rfl
theorem sl28 : slE Try.prog 28 = some (3, 1) := by kernel_rfl
theorem sl50 : slE Try.prog 50 = some (5, 1) := by kernel_rfl
theorem sl69 : slE Try.prog 69 = some (71, 3) := by kernel_rfl
theorem sz105 : szP Try.prog 105 = some 1 := by kernel_rfl
theorem sz124 : szP Try.prog 124 = some 1 := by kernel_rfl
theorem sz129 : szP Try.prog 129 = some 3 := by kernel_rfl
theorem sz22 : szP Try.prog 22 = some 1 := by kernel_rfl
theorem sz3 : szP Try.prog 3 = some 1 := by kernel_rfl
theorem sz41 : szP Try.prog 41 = some 2 := by kernel_rfl
theorem sz5 : szP Try.prog 5 = some 1 := by kernel_rfl
theorem sz62 : szP Try.prog 62 = some 2 := by kernel_rfl
theorem sz64 : szP Try.prog 64 = some 3 := by kernel_rfl
theorem sz71 : szP Try.prog 71 = some 3 := by kernel_rfl
theorem sz82 : szP Try.prog 82 = some 1 := by kernel_rfl
theorem sz95 : szP Try.prog 95 = some 3 := by kernel_rfl
theorem zc107 : zc Try.prog 107 = some [(.slice none 0 0)] := by kernel_rfl
theorem zc111 : zc Try.prog 111 = some [(.map none), (.map none), (.int .u64 0), (.int .u64 0)] := by kernel_rfl
theorem zc117 : zc Try.prog 117 = some (repV 4096 (.int .u8 0)) := by kernel_rfl
theorem zc126 : zc Try.prog 126 = some [(.slice none 0 0), (.int .i64 0), (.int .u64 0), (.int .u64 0)] := by kernel_rfl
theorem zc129 : zc Try.prog 129 = some [(.int .u64 0), (.int .i64 0), (.slice none 0 0)] := by kernel_rfl
theorem zc41 : zc Try.prog 41 = some [(.int .i64 0), (.int .u64 0)] := by kernel_rfl
theorem zc62 : zc Try.prog 62 = some [(.int .u64 0), (.int .i64 0)] := by kernel_rfl
theorem zc64 : zc Try.prog 64 = some [(.int .i64 0), (.int .i64 0), (.int .u64 0)] := by kernel_rfl
theorem zc71 : zc Try.prog 71 = some [(.int .i64 0), (.int .u64 0), (.int .u64 0)] := by kernel_rfl
theorem zc77 : zc Try.prog 77 = some [(.int .u64 0), (.int .u64 0), (.int .u64 0), (.int .u64 0), (.int .u64 0), (.int .u64 0), (.int .u64 0), (.int .u64 0), (.int .u64 0), (.int .u64 0), (.int .u64 0), (.int .u64 0), (.int .u64 0), (.int .u64 0), (.int .u64 0), (.int .u64 0), (.int .u64 0), (.int .u64 0), (.int .u64 0), (.int .u64 0), (.int .u64 0), (.int .u64 0), (.int .u64 0), (.int .u64 0), (.int .u64 0), (.int .u64 0), (.int .u64 0), (.int .u64 0), (.int .u64 0), (.int .u64 0), (.int .u64 0), (.int .u64 0), (.int .u64 0), (.int .u64 0), (.int .i64 0), (.pointer none)] := by kernel_rfl
theorem zc87 : zc Try.prog 87 = some [(.pointer none), (.pointer none), (.int .i64 0), (.int .u64 0), (.int .u64 0)] := by kernel_rfl
theorem zc95 : zc Try.prog 95 = some [(.int .u64 0), (.int .u64 0), (.int .i64 0)] := by kernel_rfl
theorem ze114 : zeroP Try.prog 114 = some (.pointer none) := by kernel_rfl
theorem ze129 : zeroP Try.prog 129 = some (.agg #[(.int .u64 0), (.int .i64 0), (.slice none 0 0)]) := by kernel_rfl
theorem ze3 : zeroP Try.prog 3 = some (.int .i64 0) := by kernel_rfl
theorem ze5 : zeroP Try.prog 5 = some (.int .u8 0) := by kernel_rfl
theorem ze71 : zeroP Try.prog 71 = some (.agg #[(.int .i64 0), (.int .u64 0), (.int .u64 0)]) := by kernel_rfl
theorem ze95 : zeroP Try.prog 95 = some (.agg #[(.int .u64 0), (.int .u64 0), (.int .i64 0)]) := by kernel_rfl
-- marionette/marionettelaw09.AtomDoes
abbrev kp3 : List Nat := [6]
def s3 : SC :=
 .seq (.ops [⟨some 6, .assign (.const (.bool false)), false, none⟩]) <|
 .seq (.keep [0, 1, 2]) <|
 .seq (.ops [⟨some 12, .move (.tmp 0), false, none⟩,
  ⟨some 13, .move (.tmp 1), false, none⟩,
  ⟨some 14, .move (.tmp 2), false, none⟩,
  ⟨some 15, .call ⟨.value (.func 11), #[(.tmp 12), (.tmp 13), (.tmp 14)], #[3, 22, 22]⟩, true, none⟩,
  ⟨some 11, .move (.tmp 15), false, none⟩,
  ⟨some 16, .extract (.tmp 11) 0, false, none⟩,
  ⟨some 17, .extract (.tmp 11) 1, false, none⟩,
  ⟨some 7, .assign (.tmp 16), false, none⟩,
  ⟨some 8, .assign (.tmp 17), false, none⟩]) <|
 .seq (.keep [0, 1, 2, 7, 8]) <|
 .seq (.ops [⟨some 19, .move (.tmp 0), false, none⟩,
  ⟨some 20, .move (.tmp 1), false, none⟩,
  ⟨some 21, .move (.tmp 2), false, none⟩,
  ⟨some 22, .call ⟨.value (.func 12), #[(.tmp 19), (.tmp 20), (.tmp 21)], #[3, 22, 22]⟩, true, none⟩,
  ⟨some 18, .move (.tmp 22), false, none⟩,
  ⟨some 23, .extract (.tmp 18) 0, false, none⟩,
  ⟨some 24, .extract (.tmp 18) 1, false, none⟩,
  ⟨some 9, .assign (.tmp 23), false, none⟩,
  ⟨some 10, .assign (.tmp 24), false, none⟩]) <|
 .seq (.keep [0, 7, 8, 9, 10]) <|
 .seq (.ops [⟨some 25, .call ⟨.value (.func 13), #[], #[]⟩, true, none⟩,
  ⟨some 26, .move (.tmp 25), false, none⟩,
  ⟨some 27, .move (.tmp 7), false, some (26, true)⟩,
  ⟨some 28, .move (.tmp 9), false, some (26, true)⟩,
  ⟨some 29, .binOp .eql 22 (.tmp 27) (.tmp 28) 22, false, some (26, true)⟩,
  ⟨some 30, .pick (.tmp 26) (.tmp 29) (.const (.bool false)), false, none⟩,
  ⟨some 31, .move (.tmp 30), false, none⟩,
  ⟨some 32, .move (.tmp 8), false, some (31, true)⟩,
  ⟨some 33, .move (.tmp 10), false, some (31, true)⟩,
  ⟨some 34, .binOp .eql 4 (.tmp 32) (.tmp 33) 4, false, some (31, true)⟩,
  ⟨some 35, .pick (.tmp 31) (.tmp 34) (.const (.bool false)), false, none⟩,
  ⟨some 36, .move (.tmp 35), false, none⟩,
  ⟨some 37, .move (.tmp 0), false, some (36, true)⟩,
  ⟨some 38, .call ⟨.value (.func 14), #[(.tmp 37)], #[3]⟩, true, some (36, true)⟩,
  ⟨some 39, .move (.tmp 0), false, some (36, true)⟩,
  ⟨some 40, .call ⟨.value (.func 15), #[(.tmp 39)], #[3]⟩, true, some (36, true)⟩,
  ⟨some 41, .binOp .eql 3 (.tmp 38) (.tmp 40) 3, false, some (36, true)⟩,
  ⟨some 42, .pick (.tmp 36) (.tmp 41) (.const (.bool false)), false, none⟩,
  ⟨some 6, .assign (.tmp 42), false, none⟩]) <|
 .seq (.keep [6]) <|
 .ret
theorem c3 : Try.f3.body.map (fun c => ((compile Try.prog kp3 [] kp3 c).map (·.1), fits Try.f3.ntmps c)) = some (some s3, true) := by kernel_rfl
theorem r3 : Try.f3.results.toList = [.tmp 6] := by kernel_rfl
-- marionette/marionettelaw08.MemBytes
abbrev kp6 : List Nat := [6]
def s6 : SC :=
 .seq (.ops [⟨some 6, .assign (.const (.bool false)), false, none⟩]) <|
 .seq (.keep [0, 1, 2]) <|
 .seq (.ops [⟨some 19, .call ⟨.value (.func 16), #[(.const (.int .i64 4))], #[3]⟩, true, none⟩,
  ⟨some 7, .assign (.tmp 19), false, none⟩]) <|
 .seq (.keep [0, 1, 2, 7]) <|
 .seq (.ops [⟨some 20, .move (.tmp 7), false, none⟩,
  ⟨some 21, .call ⟨.value (.func 18), #[(.tmp 20), (.const (.int .u64 4096)), (.const (.int .u64 12288)), (.const (.int .i64 3)), (.const (.bool true))], #[31, 22, 22, 3, 4]⟩, true, none⟩]) <|
 .seq (.keep [0, 1, 2, 7]) <|
 .seq (.ops [⟨some 22, .move (.tmp 0), false, none⟩,
  ⟨some 23, .binOp .rem 33 (.tmp 22) (.const (.int .u16 12000)) 33, false, none⟩,
  ⟨some 24, .convert 33 22 (.tmp 23), false, none⟩,
  ⟨some 25, .binOp .add 22 (.const (.int .u64 4096)) (.tmp 24) 22, false, none⟩,
  ⟨some 26, .binOp .add 22 (.tmp 25) (.const (.int .u64 8)) 22, false, none⟩,
  ⟨some 8, .assign (.tmp 26), false, none⟩]) <|
 .seq (.keep [1, 2, 7, 8]) <|
 .seq (.ops [⟨some 27, .buildSlice 28 4 #[(0, (.const (.int .i64 1))), (1, (.const (.int .i64 2))), (2, (.const (.int .i64 4))), (3, (.const (.int .i64 8)))], true, none⟩,
  ⟨some 28, .move (.tmp 2), false, none⟩,
  ⟨some 29, .binOp .rem 5 (.tmp 28) (.const (.int .u8 4)) 5, false, none⟩,
  ⟨some 30, .indexAddr 28 (.tmp 27) (.tmp 29), false, none⟩,
  ⟨some 31, .load 3 (.tmp 30), false, none⟩,
  ⟨some 9, .assign (.tmp 31), false, none⟩]) <|
 .seq (.keep [1, 7, 8, 9]) <|
 .seq (.seq (.ops [⟨some 32, .call ⟨.value (.func 17), #[], #[]⟩, true, none⟩,
  ⟨some 33, .unOp .not 4 (.tmp 32), false, none⟩,
  ⟨some 34, .move (.tmp 33), false, none⟩,
  ⟨some 35, .move (.tmp 7), false, some (34, false)⟩,
  ⟨some 36, .move (.tmp 8), false, some (34, false)⟩,
  ⟨some 37, .binOp .sub 22 (.tmp 36) (.const (.int .u64 8)) 22, false, some (34, false)⟩,
  ⟨some 38, .call ⟨.value (.func 21), #[(.tmp 35), (.tmp 37), (.const (.int .i64 8)), (.const (.int .u64 18446744073709551615))], #[31, 22, 3, 22]⟩, true, some (34, false)⟩,
  ⟨some 39, .field 41 (.tmp 38) 0, false, some (34, false)⟩,
  ⟨some 40, .binOp .neq 3 (.tmp 39) (.const (.int .i64 0)) 3, false, some (34, false)⟩,
  ⟨some 41, .pick (.tmp 34) (.const (.bool true)) (.tmp 40), false, none⟩,
  ⟨some 42, .move (.tmp 41), false, none⟩,
  ⟨some 43, .move (.tmp 7), false, some (42, false)⟩,
  ⟨some 44, .move (.tmp 8), false, some (42, false)⟩,
  ⟨some 45, .call ⟨.value (.func 21), #[(.tmp 43), (.tmp 44), (.const (.int .i64 8)), (.const (.int .u64 18446744073709551615))], #[31, 22, 3, 22]⟩, true, some (42, false)⟩,
  ⟨some 46, .field 41 (.tmp 45) 0, false, some (42, false)⟩,
  ⟨some 47, .binOp .neq 3 (.tmp 46) (.const (.int .i64 0)) 3, false, some (42, false)⟩,
  ⟨some 48, .pick (.tmp 42) (.const (.bool true)) (.tmp 47), false, none⟩,
  ⟨some 49, .move (.tmp 48), false, none⟩,
  ⟨some 50, .move (.tmp 7), false, some (49, false)⟩,
  ⟨some 51, .move (.tmp 8), false, some (49, false)⟩,
  ⟨some 52, .move (.tmp 9), false, some (49, false)⟩,
  ⟨some 53, .move (.tmp 1), false, some (49, false)⟩,
  ⟨some 54, .call ⟨.value (.func 21), #[(.tmp 50), (.tmp 51), (.tmp 52), (.tmp 53)], #[31, 22, 3, 22]⟩, true, some (49, false)⟩,
  ⟨some 55, .field 41 (.tmp 54) 0, false, some (49, false)⟩,
  ⟨some 56, .binOp .neq 3 (.tmp 55) (.const (.int .i64 0)) 3, false, some (49, false)⟩,
  ⟨some 57, .pick (.tmp 49) (.const (.bool true)) (.tmp 56), false, none⟩]) <|
 .seq (.keep [1, 7, 8, 9, 57]) <|
 .cond (.tmp 57) (.seq (.ops [⟨some 6, .assign (.const (.bool false)), false, none⟩]) <|
 .seq (.keep [6]) <|
 .ret) <|
 .skip) <|
 .seq (.keep [1, 7, 8, 9]) <|
 .seq (.ops [⟨some 59, .move (.tmp 7), false, none⟩,
  ⟨some 60, .move (.tmp 8), false, none⟩,
  ⟨some 61, .call ⟨.value (.func 22), #[(.tmp 59), (.tmp 60), (.const (.int .i64 8))], #[31, 22, 3]⟩, true, none⟩,
  ⟨some 58, .move (.tmp 61), false, none⟩,
  ⟨some 62, .extract (.tmp 58) 0, false, none⟩,
  ⟨some 63, .extract (.tmp 58) 1, false, none⟩,
  ⟨some 11, .alloc 41, true, none⟩,
  ⟨some 10, .assign (.tmp 62), false, none⟩,
  ⟨none, .store 41 (.tmp 11) (.tmp 63), true, none⟩]) <|
 .seq (.keep [1, 7, 8, 9, 10]) <|
 .seq (.ops [⟨some 64, .move (.tmp 1), false, none⟩,
  ⟨some 12, .assign (.tmp 64), false, none⟩]) <|
 .seq (.keep [1, 7, 8, 9, 10, 12]) <|
 .seq (.seq (.ops [⟨some 65, .move (.tmp 9), false, none⟩,
  ⟨some 66, .binOp .lss 3 (.tmp 65) (.const (.int .i64 8)) 3, false, none⟩]) <|
 .seq (.keep [1, 7, 8, 9, 10, 12, 66]) <|
 .cond (.tmp 66) (.seq (.ops [⟨some 67, .move (.tmp 9), false, none⟩,
  ⟨some 68, .binOp .mul 3 (.const (.int .i64 8)) (.tmp 67) 3, false, none⟩,
  ⟨some 69, .convert 3 45 (.tmp 68), false, none⟩,
  ⟨some 70, .binOp .shl 22 (.const (.int .u64 1)) (.tmp 69) 45, false, none⟩,
  ⟨some 71, .binOp .sub 22 (.tmp 70) (.const (.int .u64 1)) 22, false, none⟩,
  ⟨some 13, .assign (.tmp 71), false, none⟩]) <|
 .seq (.keep [1, 7, 8, 10, 13]) <|
 .ops [⟨some 72, .move (.tmp 1), false, none⟩,
  ⟨some 73, .move (.tmp 13), false, none⟩,
  ⟨some 74, .binOp .and 22 (.tmp 72) (.tmp 73) 22, false, none⟩,
  ⟨some 75, .move (.tmp 13), false, none⟩,
  ⟨some 76, .unOp .xor 22 (.tmp 75), false, none⟩,
  ⟨some 77, .binOp .or 22 (.tmp 74) (.tmp 76) 22, false, none⟩,
  ⟨some 12, .assign (.tmp 77), false, none⟩]) <|
 .skip) <|
 .seq (.keep [7, 8, 10, 12]) <|
 .seq (.ops [⟨some 79, .move (.tmp 7), false, none⟩,
  ⟨some 80, .move (.tmp 8), false, none⟩,
  ⟨some 81, .binOp .sub 22 (.tmp 80) (.const (.int .u64 8)) 22, false, none⟩,
  ⟨some 82, .call ⟨.value (.func 22), #[(.tmp 79), (.tmp 81), (.const (.int .i64 8))], #[31, 22, 3]⟩, true, none⟩,
  ⟨some 78, .move (.tmp 82), false, none⟩,
  ⟨some 83, .extract (.tmp 78) 0, false, none⟩,
  ⟨some 84, .extract (.tmp 78) 1, false, none⟩,
  ⟨some 15, .alloc 41, true, none⟩,
  ⟨some 14, .assign (.tmp 83), false, none⟩,
  ⟨none, .store 41 (.tmp 15) (.tmp 84), true, none⟩]) <|
 .seq (.keep [7, 8, 10, 12, 14]) <|
 .seq (.seq (.ops [⟨some 85, .move (.tmp 10), false, none⟩,
  ⟨some 86, .move (.tmp 12), false, none⟩,
  ⟨some 87, .binOp .neq 22 (.tmp 85) (.tmp 86) 22, false, none⟩,
  ⟨some 88, .move (.tmp 87), false, none⟩,
  ⟨some 89, .move (.tmp 14), false, some (88, false)⟩,
  ⟨some 90, .binOp .neq 22 (.tmp 89) (.const (.int .u64 18446744073709551615)) 22, false, some (88, false)⟩,
  ⟨some 91, .pick (.tmp 88) (.const (.bool true)) (.tmp 90), false, none⟩]) <|
 .seq (.keep [7, 8, 10, 91]) <|
 .cond (.tmp 91) (.seq (.ops [⟨some 6, .assign (.const (.bool false)), false, none⟩]) <|
 .seq (.keep [6]) <|
 .ret) <|
 .skip) <|
 .seq (.keep [7, 8, 10]) <|
 .seq (.seq (.ops [⟨some 16, .assign (.const (.int .i64 0)), false, none⟩]) <|
 .seq (.keep [7, 8, 10, 16]) <|
 .block 0 <| .loop <| .seq (.seq (.seq (.ops [⟨some 92, .move (.tmp 16), false, none⟩,
  ⟨some 93, .binOp .lss 3 (.tmp 92) (.const (.int .i64 8)) 3, false, none⟩]) <|
 .seq (.keep [7, 8, 10, 16, 93]) <|
 .cond (.tmp 93) (.skip) <|
 .exit 0) <|
 .seq (.keep [7, 8, 10, 16]) <|
 .seq (.block 1 <| .seq (.ops [⟨some 97, .move (.tmp 7), false, none⟩,
  ⟨some 98, .move (.tmp 8), false, none⟩,
  ⟨some 99, .move (.tmp 16), false, none⟩,
  ⟨some 100, .convert 3 22 (.tmp 99), false, none⟩,
  ⟨some 101, .binOp .add 22 (.tmp 98) (.tmp 100) 22, false, none⟩,
  ⟨some 102, .call ⟨.value (.func 22), #[(.tmp 97), (.tmp 101), (.const (.int .i64 1))], #[31, 22, 3]⟩, true, none⟩,
  ⟨some 96, .move (.tmp 102), false, none⟩,
  ⟨some 103, .extract (.tmp 96) 0, false, none⟩,
  ⟨some 104, .extract (.tmp 96) 1, false, none⟩,
  ⟨some 18, .alloc 41, true, none⟩,
  ⟨some 17, .assign (.tmp 103), false, none⟩,
  ⟨none, .store 41 (.tmp 18) (.tmp 104), true, none⟩]) <|
 .seq (.keep [7, 8, 10, 16, 17, 18]) <|
 .seq (.ops [⟨some 105, .fieldAddr 41 (.tmp 18) 0, false, none⟩,
  ⟨some 106, .load 3 (.tmp 105), false, none⟩,
  ⟨some 107, .binOp .neq 3 (.tmp 106) (.const (.int .i64 0)) 3, false, none⟩,
  ⟨some 108, .move (.tmp 107), false, none⟩,
  ⟨some 109, .move (.tmp 17), false, some (108, false)⟩,
  ⟨some 110, .move (.tmp 10), false, some (108, false)⟩,
  ⟨some 111, .move (.tmp 16), false, some (108, false)⟩,
  ⟨some 112, .binOp .mul 3 (.const (.int .i64 8)) (.tmp 111) 3, false, some (108, false)⟩,
  ⟨some 113, .convert 3 45 (.tmp 112), false, some (108, false)⟩,
  ⟨some 114, .binOp .shr 22 (.tmp 110) (.tmp 113) 45, false, some (108, false)⟩,
  ⟨some 115, .binOp .and 22 (.tmp 114) (.const (.int .u64 255)) 22, false, some (108, false)⟩,
  ⟨some 116, .binOp .neq 22 (.tmp 109) (.tmp 115) 22, false, some (108, false)⟩,
  ⟨some 117, .pick (.tmp 108) (.const (.bool true)) (.tmp 116), false, none⟩]) <|
 .seq (.keep [7, 8, 10, 16, 117]) <|
 .cond (.tmp 117) (.seq (.ops [⟨some 6, .assign (.const (.bool false)), false, none⟩]) <|
 .seq (.keep [6]) <|
 .ret) <|
 .skip) <|
 .seq (.keep [7, 8, 10, 16]) <|
 .ops [⟨some 94, .move (.tmp 16), false, none⟩,
  ⟨some 95, .binOp .add 3 (.tmp 94) (.const (.int .i64 1)) 3, false, none⟩,
  ⟨some 16, .assign (.tmp 95), false, none⟩]) <|
 .keep [7, 8, 10, 16]) <|
 .seq (.keep []) <|
 .seq (.ops [⟨some 6, .assign (.const (.bool true)), false, none⟩]) <|
 .seq (.keep [6]) <|
 .ret
theorem c6 : Try.f6.body.map (fun c => ((compile Try.prog kp6 [] kp6 c).map (·.1), fits Try.f6.ntmps c)) = some (some s6, true) := by kernel_rfl
theorem r6 : Try.f6.results.toList = [.tmp 6] := by kernel_rfl
-- marionette/marionettelaw09.AtomSteps
abbrev kp10 : List Nat := [4]
def s10 : SC :=
 .seq (.ops [⟨some 4, .assign (.const (.bool false)), false, none⟩]) <|
 .seq (.keep [0, 1]) <|
 .seq (.ops [⟨some 18, .move (.tmp 0), false, none⟩,
  ⟨some 19, .call ⟨.value (.func 30), #[(.tmp 18)], #[50]⟩, true, none⟩,
  ⟨some 17, .move (.tmp 19), false, none⟩,
  ⟨some 20, .extract (.tmp 17) 0, false, none⟩,
  ⟨some 21, .extract (.tmp 17) 1, false, none⟩,
  ⟨some 5, .assign (.tmp 20), false, none⟩,
  ⟨some 6, .assign (.tmp 21), false, none⟩]) <|
 .seq (.keep [1, 5, 6]) <|
 .seq (.ops [⟨some 22, .build 62 #[], false, none⟩,
  ⟨some 7, .alloc 62, true, none⟩,
  ⟨none, .store 62 (.tmp 7) (.tmp 22), true, none⟩]) <|
 .seq (.keep [1, 5, 6, 7]) <|
 .seq (.seq (.ops [⟨some 23, .call ⟨.value (.func 13), #[], #[]⟩, true, none⟩,
  ⟨some 24, .unOp .not 4 (.tmp 23), false, none⟩,
  ⟨some 25, .move (.tmp 24), false, none⟩,
  ⟨some 26, .move (.tmp 5), false, some (25, false)⟩,
  ⟨some 27, .binOp .eql 31 (.tmp 26) (.const (.pointer none)) 31, false, some (25, false)⟩,
  ⟨some 28, .pick (.tmp 25) (.const (.bool true)) (.tmp 27), false, none⟩]) <|
 .seq (.keep [1, 5, 6, 7, 28]) <|
 .cond (.tmp 28) (.seq (.ops [⟨some 4, .assign (.const (.bool false)), false, none⟩]) <|
 .seq (.keep [4]) <|
 .ret) <|
 .skip) <|
 .seq (.keep [1, 5, 6, 7]) <|
 .seq (.seq (.ops [⟨some 8, .assign (.const (.int .i64 0)), false, none⟩]) <|
 .seq (.keep [1, 5, 6, 7, 8]) <|
 .block 0 <| .loop <| .seq (.seq (.seq (.ops [⟨some 29, .move (.tmp 8), false, none⟩,
  ⟨some 30, .move (.tmp 1), false, none⟩,
  ⟨some 31, .call ⟨.builtin .len, #[(.tmp 30)], #[69]⟩, false, none⟩,
  ⟨some 32, .binOp .lss 3 (.tmp 29) (.tmp 31) 3, false, none⟩,
  ⟨some 33, .move (.tmp 32), false, none⟩,
  ⟨some 34, .move (.tmp 8), false, some (33, true)⟩,
  ⟨some 35, .binOp .lss 3 (.tmp 34) (.const (.int .i64 60)) 3, false, some (33, true)⟩,
  ⟨some 36, .pick (.tmp 33) (.tmp 35) (.const (.bool false)), false, none⟩]) <|
 .seq (.keep [1, 5, 6, 7, 8, 36]) <|
 .cond (.tmp 36) (.skip) <|
 .exit 0) <|
 .seq (.keep [1, 5, 6, 7, 8]) <|
 .seq (.block 1 <| .seq (.ops [⟨some 39, .move (.tmp 1), false, none⟩,
  ⟨some 40, .move (.tmp 8), false, none⟩,
  ⟨some 41, .indexAddr 69 (.tmp 39) (.tmp 40), false, none⟩,
  ⟨some 42, .load 71 (.tmp 41), false, none⟩,
  ⟨some 9, .alloc 71, true, none⟩,
  ⟨none, .store 71 (.tmp 9) (.tmp 42), true, none⟩]) <|
 .seq (.keep [1, 5, 6, 7, 8, 9]) <|
 .seq (.ops [⟨some 43, .fieldAddr 71 (.tmp 9) 1, false, none⟩,
  ⟨some 44, .load 22 (.tmp 43), false, none⟩,
  ⟨some 10, .assign (.tmp 44), false, none⟩]) <|
 .seq (.keep [1, 5, 6, 7, 8, 9, 10]) <|
 .seq (.seq (.ops [⟨some 45, .move (.tmp 10), false, none⟩,
  ⟨some 46, .binOp .rem 22 (.tmp 45) (.const (.int .u64 4)) 22, false, none⟩,
  ⟨some 47, .binOp .gtr 22 (.tmp 46) (.const (.int .u64 0)) 22, false, none⟩]) <|
 .seq (.keep [1, 5, 6, 7, 8, 9, 10, 47]) <|
 .cond (.tmp 47) (.ops [⟨some 48, .move (.tmp 10), false, none⟩,
  ⟨some 49, .binOp .quo 22 (.tmp 48) (.const (.int .u64 4)) 22, false, none⟩,
  ⟨some 50, .binOp .rem 22 (.tmp 49) (.const (.int .u64 17000)) 22, false, none⟩,
  ⟨some 10, .assign (.tmp 50), false, none⟩]) <|
 .skip) <|
 .seq (.keep [1, 5, 6, 7, 8, 9, 10]) <|
 .seq (.ops [⟨some 52, .move (.tmp 5), false, none⟩,
  ⟨some 53, .load 62 (.tmp 7), false, none⟩,
  ⟨some 54, .fieldAddr 71 (.tmp 9) 0, false, none⟩,
  ⟨some 55, .load 3 (.tmp 54), false, none⟩,
  ⟨some 56, .move (.tmp 10), false, none⟩,
  ⟨some 57, .fieldAddr 71 (.tmp 9) 2, false, none⟩,
  ⟨some 58, .load 22 (.tmp 57), false, none⟩,
  ⟨some 59, .call ⟨.value (.func 31), #[(.tmp 52), (.tmp 53), (.tmp 55), (.tmp 56), (.tmp 58)], #[31, 62, 3, 22, 22]⟩, true, none⟩,
  ⟨some 51, .move (.tmp 59), false, none⟩,
  ⟨some 60, .extract (.tmp 51) 0, false, none⟩,
  ⟨some 61, .extract (.tmp 51) 1, false, none⟩,
  ⟨some 62, .extract (.tmp 51) 2, false, none⟩,
  ⟨some 12, .alloc 62, true, none⟩,
  ⟨some 13, .alloc 64, true, none⟩,
  ⟨some 11, .assign (.tmp 60), false, none⟩,
  ⟨none, .store 62 (.tmp 12) (.tmp 61), true, none⟩,
  ⟨none, .store 64 (.tmp 13) (.tmp 62), true, none⟩]) <|
 .seq (.keep [1, 5, 6, 7, 8, 9, 10, 11, 12, 13]) <|
 .seq (.ops [⟨some 64, .move (.tmp 6), false, none⟩,
  ⟨some 65, .fieldAddr 71 (.tmp 9) 0, false, none⟩,
  ⟨some 66, .load 3 (.tmp 65), false, none⟩,
  ⟨some 67, .move (.tmp 10), false, none⟩,
  ⟨some 68, .fieldAddr 71 (.tmp 9) 2, false, none⟩,
  ⟨some 69, .load 22 (.tmp 68), false, none⟩,
  ⟨some 70, .call ⟨.value (.func 33), #[(.tmp 64), (.tmp 66), (.tmp 67), (.tmp 69)], #[58, 3, 22, 22]⟩, true, none⟩,
  ⟨some 63, .move (.tmp 70), false, none⟩,
  ⟨some 71, .extract (.tmp 63) 0, false, none⟩,
  ⟨some 72, .extract (.tmp 63) 1, false, none⟩,
  ⟨some 15, .alloc 64, true, none⟩,
  ⟨some 14, .assign (.tmp 71), false, none⟩,
  ⟨none, .store 64 (.tmp 15) (.tmp 72), true, none⟩]) <|
 .seq (.keep [1, 5, 6, 7, 8, 11, 12, 13, 14, 15]) <|
 .seq (.seq (.ops [⟨some 73, .fieldAddr 64 (.tmp 13) 0, false, none⟩,
  ⟨some 74, .load 3 (.tmp 73), false, none⟩,
  ⟨some 75, .binOp .neq 3 (.tmp 74) (.const (.int .i64 0)) 3, false, none⟩]) <|
 .seq (.keep [1, 5, 6, 7, 8, 11, 12, 13, 14, 15, 75]) <|
 .cond (.tmp 75) (.ops [⟨some 76, .build 62 #[], false, none⟩,
  ⟨none, .store 62 (.tmp 12) (.tmp 76), true, none⟩]) <|
 .skip) <|
 .seq (.keep [1, 5, 6, 7, 8, 11, 12, 13, 14, 15]) <|
 .seq (.seq (.ops [⟨some 77, .fieldAddr 64 (.tmp 15) 0, false, none⟩,
  ⟨some 78, .load 3 (.tmp 77), false, none⟩,
  ⟨some 79, .binOp .neq 3 (.tmp 78) (.const (.int .i64 0)) 3, false, none⟩]) <|
 .seq (.keep [1, 5, 6, 7, 8, 11, 12, 13, 14, 15, 79]) <|
 .cond (.tmp 79) (.seq (.ops [⟨some 80, .move (.tmp 6), false, none⟩,
  ⟨some 81, .nilCheck (.tmp 80), false, none⟩,
  ⟨some 82, .fieldAddr 77 (.tmp 81) 3, false, none⟩,
  ⟨none, .store 3 (.tmp 82) (.const (.int .i64 0)), true, none⟩]) <|
 .seq (.keep [1, 5, 6, 7, 8, 11, 12, 13, 14, 15]) <|
 .ops [⟨some 83, .move (.tmp 6), false, none⟩,
  ⟨some 84, .nilCheck (.tmp 83), false, none⟩,
  ⟨some 85, .fieldAddr 77 (.tmp 84) 2, false, none⟩,
  ⟨none, .store 22 (.tmp 85) (.const (.int .u64 0)), true, none⟩]) <|
 .skip) <|
 .seq (.keep [1, 5, 6, 7, 8, 11, 12, 13, 14, 15]) <|
 .seq (.seq (.seq (.ops [⟨some 86, .load 64 (.tmp 13), false, none⟩]) <|
 .seq (.ops [⟨some 87, .load 64 (.tmp 15), false, none⟩]) <|
 .seq (.ops [⟨some 88, .binOp .neq 64 (.tmp 86) (.tmp 87) 64, false, none⟩]) <|
 .seq (.ops [⟨some 89, .move (.tmp 88), false, none⟩]) <|
 .seq (.ops [⟨some 90, .move (.tmp 11), false, some (89, false)⟩]) <|
 .seq (.ops [⟨some 91, .move (.tmp 14), false, some (89, false)⟩]) <|
 .seq (.ops [⟨some 92, .binOp .neq 22 (.tmp 90) (.tmp 91) 22, false, some (89, false)⟩]) <|
 .seq (.ops [⟨some 93, .pick (.tmp 89) (.const (.bool true)) (.tmp 92), false, none⟩]) <|
 .seq (.ops [⟨some 94, .move (.tmp 93), false, none⟩]) <|
 .seq (.ops [⟨some 95, .load 62 (.tmp 12), false, some (94, false)⟩]) <|
 .seq (.ops [⟨some 96, .move (.tmp 6), false, some (94, false)⟩]) <|
 .seq (.ops [⟨some 97, .nilCheck (.tmp 96), false, some (94, false)⟩]) <|
 .seq (.ops [⟨some 98, .fieldAddr 77 (.tmp 97) 2, false, some (94, false)⟩]) <|
 .seq (.ops [⟨some 99, .load 22 (.tmp 98), false, some (94, false)⟩]) <|
 .seq (.ops [⟨some 100, .move (.tmp 6), false, some (94, false)⟩]) <|
 .seq (.ops [⟨some 101, .nilCheck (.tmp 100), false, some (94, false)⟩]) <|
 .seq (.ops [⟨some 102, .fieldAddr 77 (.tmp 101) 3, false, some (94, false)⟩]) <|
 .seq (.ops [⟨some 103, .load 3 (.tmp 102), false, some (94, false)⟩]) <|
 .seq (.ops [⟨some 104, .build 62 #[(0, (.tmp 99)), (1, (.tmp 103))], false, some (94, false)⟩]) <|
 .seq (.ops [⟨some 105, .binOp .neq 62 (.tmp 95) (.tmp 104) 62, false, some (94, false)⟩]) <|
 .seq (.ops [⟨some 106, .pick (.tmp 94) (.const (.bool true)) (.tmp 105), false, none⟩]) <|
 .skip) <|
 .seq (.keep [1, 5, 6, 7, 8, 12, 106]) <|
 .cond (.tmp 106) (.seq (.ops [⟨some 4, .assign (.const (.bool false)), false, none⟩]) <|
 .seq (.keep [4]) <|
 .ret) <|
 .skip) <|
 .seq (.keep [1, 5, 6, 7, 8, 12]) <|
 .ops [⟨some 107, .load 62 (.tmp 12), false, none⟩,
  ⟨none, .store 62 (.tmp 7) (.tmp 107), true, none⟩]) <|
 .seq (.keep [1, 5, 6, 7, 8]) <|
 .ops [⟨some 37, .move (.tmp 8), false, none⟩,
  ⟨some 38, .binOp .add 3 (.tmp 37) (.const (.int .i64 1)) 3, false, none⟩,
  ⟨some 8, .assign (.tmp 38), false, none⟩]) <|
 .keep [1, 5, 6, 7, 8]) <|
 .seq (.keep [5, 6]) <|
 .seq (.seq (.ops [⟨some 16, .assign (.const (.int .i64 0)), false, none⟩]) <|
 .seq (.keep [5, 6, 16]) <|
 .block 2 <| .loop <| .seq (.seq (.seq (.ops [⟨some 108, .move (.tmp 16), false, none⟩,
  ⟨some 109, .binOp .lss 3 (.tmp 108) (.const (.int .i64 3)) 3, false, none⟩]) <|
 .seq (.keep [5, 6, 16, 109]) <|
 .cond (.tmp 109) (.skip) <|
 .exit 2) <|
 .seq (.keep [5, 6, 16]) <|
 .seq (.block 3 <| .seq (.seq (.ops [⟨some 112, .move (.tmp 5), false, none⟩]) <|
 .seq (.ops [⟨some 113, .move (.tmp 16), false, none⟩]) <|
 .seq (.ops [⟨some 114, .binOp .add 3 (.tmp 113) (.const (.int .i64 1)) 3, false, none⟩]) <|
 .seq (.ops [⟨some 115, .convert 3 22 (.tmp 114), false, none⟩]) <|
 .seq (.ops [⟨some 116, .binOp .mul 22 (.tmp 115) (.const (.int .u64 4096)) 22, false, none⟩]) <|
 .seq (.ops [⟨some 118, .move (.tmp 6), false, none⟩]) <|
 .seq (.ops [⟨some 119, .nilCheck (.tmp 118), false, none⟩]) <|
 .seq (.ops [⟨some 120, .fieldAddr 77 (.tmp 119) 4, false, none⟩]) <|
 .seq (.ops [⟨some 122, .move (.tmp 16), false, none⟩]) <|
 .seq (.ops [⟨some 123, .binOp .add 3 (.tmp 122) (.const (.int .i64 1)) 3, false, none⟩]) <|
 .seq (.ops [⟨some 124, .convert 3 22 (.tmp 123), false, none⟩]) <|
 .seq (.ops [⟨some 125, .binOp .mul 22 (.tmp 124) (.const (.int .u64 4096)) 22, false, none⟩]) <|
 .amb (.seq (.ops [⟨some 117, .call ⟨.value (.func 25), #[(.tmp 112), (.tmp 116), (.const (.int .i64 4096))], #[31, 22, 3]⟩, true, none⟩]) <|
 .seq (.ops [⟨some 121, .load 75 (.tmp 120), false, none⟩]) <|
 .seq (.ops [⟨some 126, .call ⟨.value (.func 35), #[(.tmp 121), (.tmp 125), (.const (.int .i64 4096))], #[75, 22, 3]⟩, true, none⟩]) <|
 .seq (.ops [⟨some 127, .call ⟨.value (.func 34), #[(.tmp 117), (.tmp 126)], #[50, 50]⟩, true, none⟩]) <|
 .seq (.ops [⟨some 128, .unOp .not 4 (.tmp 127), false, none⟩]) <|
 .skip) (.seq (.ops [⟨some 121, .load 75 (.tmp 120), false, none⟩]) <|
 .seq (.ops [⟨some 117, .call ⟨.value (.func 25), #[(.tmp 112), (.tmp 116), (.const (.int .i64 4096))], #[31, 22, 3]⟩, true, none⟩]) <|
 .seq (.ops [⟨some 126, .call ⟨.value (.func 35), #[(.tmp 121), (.tmp 125), (.const (.int .i64 4096))], #[75, 22, 3]⟩, true, none⟩]) <|
 .seq (.ops [⟨some 127, .call ⟨.value (.func 34), #[(.tmp 117), (.tmp 126)], #[50, 50]⟩, true, none⟩]) <|
 .seq (.ops [⟨some 128, .unOp .not 4 (.tmp 127), false, none⟩]) <|
 .skip)) <|
 .seq (.keep [5, 6, 16, 128]) <|
 .cond (.tmp 128) (.seq (.ops [⟨some 4, .assign (.const (.bool false)), false, none⟩]) <|
 .seq (.keep [4]) <|
 .ret) <|
 .skip) <|
 .seq (.keep [5, 6, 16]) <|
 .ops [⟨some 110, .move (.tmp 16), false, none⟩,
  ⟨some 111, .binOp .add 3 (.tmp 110) (.const (.int .i64 1)) 3, false, none⟩,
  ⟨some 16, .assign (.tmp 111), false, none⟩]) <|
 .keep [5, 6, 16]) <|
 .seq (.keep []) <|
 .seq (.ops [⟨some 4, .assign (.const (.bool true)), false, none⟩]) <|
 .seq (.keep [4]) <|
 .ret
theorem c10 : Try.f10.body.map (fun c => ((compile Try.prog kp10 [] kp10 c).map (·.1), fits Try.f10.ntmps c)) = some (some s10, true) := by kernel_rfl
theorem r10 : Try.f10.results.toList = [.tmp 4] := by kernel_rfl
-- marionette/atom.Do
abbrev kp11 : List Nat := [6, 7]
def s11 : SC :=
 .seq (.ops [⟨some 6, .assign (.const (.int .u64 0)), false, none⟩,
  ⟨some 7, .assign (.const (.bool false)), false, none⟩]) <|
 .seq (.keep [0, 1, 2]) <|
 .seq (.ops [⟨some 16, .move (.tmp 0), false, none⟩,
  ⟨some 17, .call ⟨.value (.func 14), #[(.tmp 16)], #[3]⟩, true, none⟩,
  ⟨some 8, .assign (.tmp 17), false, none⟩]) <|
 .seq (.keep [0, 1, 2, 8]) <|
 .seq (.seq (.ops [⟨some 18, .move (.tmp 8), false, none⟩,
  ⟨some 19, .binOp .eql 3 (.tmp 18) (.const (.int .i64 0)) 3, false, none⟩]) <|
 .seq (.keep [0, 1, 2, 8, 19]) <|
 .cond (.tmp 19) (.seq (.ops [⟨some 6, .assign (.const (.int .u64 0)), false, none⟩,
  ⟨some 7, .assign (.const (.bool false)), false, none⟩]) <|
 .seq (.keep [6, 7]) <|
 .ret) <|
 .skip) <|
 .seq (.keep [0, 1, 2, 8]) <|
 .seq (.ops [⟨some 20, .move (.tmp 8), false, none⟩,
  ⟨some 21, .binOp .mul 3 (.const (.int .i64 8)) (.tmp 20) 3, false, none⟩,
  ⟨some 22, .binOp .sub 3 (.const (.int .i64 64)) (.tmp 21) 3, false, none⟩,
  ⟨some 23, .binOp .shr 22 (.const (.int .u64 18446744073709551615)) (.tmp 22) 3, false, none⟩,
  ⟨some 9, .assign (.tmp 23), false, none⟩]) <|
 .seq (.keep [0, 1, 2, 8, 9]) <|
 .seq (.ops [⟨some 24, .move (.tmp 1), false, none⟩,
  ⟨some 25, .move (.tmp 9), false, none⟩,
  ⟨some 26, .binOp .and 22 (.tmp 24) (.tmp 25) 22, false, none⟩,
  ⟨some 27, .move (.tmp 2), false, none⟩,
  ⟨some 28, .move (.tmp 9), false, none⟩,
  ⟨some 29, .binOp .and 22 (.tmp 27) (.tmp 28) 22, false, none⟩,
  ⟨some 10, .assign (.tmp 26), false, none⟩,
  ⟨some 11, .assign (.tmp 29), false, none⟩]) <|
 .seq (.keep [0, 8, 9, 10, 11]) <|
 .seq (.ops [⟨some 30, .move (.tmp 10), false, none⟩,
  ⟨some 31, .move (.tmp 8), false, none⟩,
  ⟨some 32, .binOp .mul 3 (.const (.int .i64 8)) (.tmp 31) 3, false, none⟩,
  ⟨some 33, .call ⟨.value (.func 36), #[(.tmp 30), (.tmp 32)], #[22, 3]⟩, true, none⟩,
  ⟨some 34, .convert 22 2 (.tmp 33), false, none⟩,
  ⟨some 35, .move (.tmp 11), false, none⟩,
  ⟨some 36, .move (.tmp 8), false, none⟩,
  ⟨some 37, .binOp .mul 3 (.const (.int .i64 8)) (.tmp 36) 3, false, none⟩,
  ⟨some 38, .call ⟨.value (.func 36), #[(.tmp 35), (.tmp 37)], #[22, 3]⟩, true, none⟩,
  ⟨some 39, .convert 22 2 (.tmp 38), false, none⟩,
  ⟨some 12, .assign (.tmp 34), false, none⟩,
  ⟨some 13, .assign (.tmp 39), false, none⟩]) <|
 .seq (.keep [0, 9, 10, 11, 12, 13]) <|
 .seq (.ops [⟨some 40, .move (.tmp 10), false, none⟩,
  ⟨some 41, .move (.tmp 10), false, none⟩,
  ⟨some 14, .assign (.tmp 40), false, none⟩,
  ⟨some 15, .assign (.tmp 41), false, none⟩]) <|
 .seq (.keep [0, 9, 10, 11, 12, 13, 14, 15]) <|
 .seq (.seq (.ops [⟨some 42, .move (.tmp 13), false, none⟩,
  ⟨some 43, .move (.tmp 12), false, none⟩,
  ⟨some 44, .binOp .lss 2 (.tmp 42) (.tmp 43) 2, false, none⟩]) <|
 .seq (.keep [0, 9, 10, 11, 12, 13, 14, 15, 44]) <|
 .cond (.tmp 44) (.ops [⟨some 45, .move (.tmp 11), false, none⟩,
  ⟨some 14, .assign (.tmp 45), false, none⟩]) <|
 .skip) <|
 .seq (.keep [0, 9, 10, 11, 12, 13, 14, 15]) <|
 .seq (.seq (.ops [⟨some 46, .move (.tmp 13), false, none⟩,
  ⟨some 47, .move (.tmp 12), false, none⟩,
  ⟨some 48, .binOp .gtr 2 (.tmp 46) (.tmp 47) 2, false, none⟩]) <|
 .seq (.keep [0, 9, 10, 11, 14, 15, 48]) <|
 .cond (.tmp 48) (.ops [⟨some 49, .move (.tmp 11), false, none⟩,
  ⟨some 15, .assign (.tmp 49), false, none⟩]) <|
 .skip) <|
 .seq (.keep [0, 9, 10, 11, 14, 15]) <|
 .seq (.seq (.ops [⟨some 50, .move (.tmp 0), false, none⟩,
  ⟨some 51, .call ⟨.value (.func 37), #[(.tmp 50)], #[3]⟩, true, none⟩]) <|
 .seq (.keep [9, 10, 11, 14, 15, 51]) <|
 .block 0 <| .seq (.ops [⟨some 53, .binOp .eql 3 (.tmp 51) (.const (.int .i64 65)) 3, false, none⟩,
  ⟨some 52, .assign (.tmp 53), false, none⟩]) <|
 .seq (.keep [9, 10, 11, 14, 15, 51, 52]) <|
 .cond (.tmp 52) (.seq (.ops [⟨some 54, .move (.tmp 11), false, none⟩,
  ⟨some 6, .assign (.tmp 54), false, none⟩,
  ⟨some 7, .assign (.const (.bool true)), false, none⟩]) <|
 .seq (.keep [6, 7]) <|
 .ret) <|
 .seq (.ops [⟨some 56, .binOp .eql 3 (.tmp 51) (.const (.int .i64 66)) 3, false, none⟩,
  ⟨some 55, .assign (.tmp 56), false, none⟩]) <|
 .seq (.keep [9, 10, 11, 14, 15, 51, 55]) <|
 .cond (.tmp 55) (.seq (.ops [⟨some 57, .move (.tmp 10), false, none⟩,
  ⟨some 58, .move (.tmp 11), false, none⟩,
  ⟨some 59, .binOp .add 22 (.tmp 57) (.tmp 58) 22, false, none⟩,
  ⟨some 60, .move (.tmp 9), false, none⟩,
  ⟨some 61, .binOp .and 22 (.tmp 59) (.tmp 60) 22, false, none⟩,
  ⟨some 6, .assign (.tmp 61), false, none⟩,
  ⟨some 7, .assign (.const (.bool true)), false, none⟩]) <|
 .seq (.keep [6, 7]) <|
 .ret) <|
 .seq (.ops [⟨some 63, .binOp .eql 3 (.tmp 51) (.const (.int .i64 67)) 3, false, none⟩,
  ⟨some 62, .assign (.tmp 63), false, none⟩]) <|
 .seq (.keep [10, 11, 14, 15, 51, 62]) <|
 .cond (.tmp 62) (.seq (.ops [⟨some 64, .move (.tmp 10), false, none⟩,
  ⟨some 65, .move (.tmp 11), false, none⟩,
  ⟨some 66, .binOp .xor 22 (.tmp 64) (.tmp 65) 22, false, none⟩,
  ⟨some 6, .assign (.tmp 66), false, none⟩,
  ⟨some 7, .assign (.const (.bool true)), false, none⟩]) <|
 .seq (.keep [6, 7]) <|
 .ret) <|
 .seq (.ops [⟨some 68, .binOp .eql 3 (.tmp 51) (.const (.int .i64 68)) 3, false, none⟩,
  ⟨some 67, .assign (.tmp 68), false, none⟩]) <|
 .seq (.keep [10, 11, 14, 15, 51, 67]) <|
 .cond (.tmp 67) (.seq (.ops [⟨some 69, .move (.tmp 10), false, none⟩,
  ⟨some 70, .move (.tmp 11), false, none⟩,
  ⟨some 71, .binOp .and 22 (.tmp 69) (.tmp 70) 22, false, none⟩,
  ⟨some 6, .assign (.tmp 71), false, none⟩,
  ⟨some 7, .assign (.const (.bool true)), false, none⟩]) <|
 .seq (.keep [6, 7]) <|
 .ret) <|
 .seq (.ops [⟨some 73, .binOp .eql 3 (.tmp 51) (.const (.int .i64 69)) 3, false, none⟩,
  ⟨some 72, .assign (.tmp 73), false, none⟩]) <|
 .seq (.keep [10, 11, 14, 15, 51, 72]) <|
 .cond (.tmp 72) (.seq (.ops [⟨some 74, .move (.tmp 10), false, none⟩,
  ⟨some 75, .move (.tmp 11), false, none⟩,
  ⟨some 76, .binOp .or 22 (.tmp 74) (.tmp 75) 22, false, none⟩,
  ⟨some 6, .assign (.tmp 76), false, none⟩,
  ⟨some 7, .assign (.const (.bool true)), false, none⟩]) <|
 .seq (.keep [6, 7]) <|
 .ret) <|
 .seq (.ops [⟨some 78, .binOp .eql 3 (.tmp 51) (.const (.int .i64 70)) 3, false, none⟩,
  ⟨some 77, .assign (.tmp 78), false, none⟩]) <|
 .seq (.keep [10, 11, 14, 15, 51, 77]) <|
 .cond (.tmp 77) (.seq (.ops [⟨some 79, .move (.tmp 14), false, none⟩,
  ⟨some 6, .assign (.tmp 79), false, none⟩,
  ⟨some 7, .assign (.const (.bool true)), false, none⟩]) <|
 .seq (.keep [6, 7]) <|
 .ret) <|
 .seq (.ops [⟨some 81, .binOp .eql 3 (.tmp 51) (.const (.int .i64 71)) 3, false, none⟩,
  ⟨some 80, .assign (.tmp 81), false, none⟩]) <|
 .seq (.keep [10, 11, 15, 51, 80]) <|
 .cond (.tmp 80) (.seq (.ops [⟨some 82, .move (.tmp 15), false, none⟩,
  ⟨some 6, .assign (.tmp 82), false, none⟩,
  ⟨some 7, .assign (.const (.bool true)), false, none⟩]) <|
 .seq (.keep [6, 7]) <|
 .ret) <|
 .seq (.ops [⟨some 84, .binOp .eql 3 (.tmp 51) (.const (.int .i64 72)) 3, false, none⟩,
  ⟨some 83, .assign (.tmp 84), false, none⟩]) <|
 .seq (.keep [10, 11, 51, 83]) <|
 .cond (.tmp 83) (.seq (.ops [⟨some 85, .move (.tmp 10), false, none⟩,
  ⟨some 86, .move (.tmp 11), false, none⟩,
  ⟨some 87, .call ⟨.builtin .min, #[(.tmp 85), (.tmp 86)], #[22, 22]⟩, false, none⟩,
  ⟨some 6, .assign (.tmp 87), false, none⟩,
  ⟨some 7, .assign (.const (.bool true)), false, none⟩]) <|
 .seq (.keep [6, 7]) <|
 .ret) <|
 .seq (.ops [⟨some 89, .binOp .eql 3 (.tmp 51) (.const (.int .i64 73)) 3, false, none⟩,
  ⟨some 88, .assign (.tmp 89), false, none⟩]) <|
 .seq (.keep [10, 11, 88]) <|
 .cond (.tmp 88) (.seq (.ops [⟨some 90, .move (.tmp 10), false, none⟩,
  ⟨some 91, .move (.tmp 11), false, none⟩,
  ⟨some 92, .call ⟨.builtin .max, #[(.tmp 90), (.tmp 91)], #[22, 22]⟩, false, none⟩,
  ⟨some 6, .assign (.tmp 92), false, none⟩,
  ⟨some 7, .assign (.const (.bool true)), false, none⟩]) <|
 .seq (.keep [6, 7]) <|
 .ret) <|
 .skip) <|
 .seq (.keep []) <|
 .seq (.ops [⟨some 6, .assign (.const (.int .u64 0)), false, none⟩,
  ⟨some 7, .assign (.const (.bool false)), false, none⟩]) <|
 .seq (.keep [6, 7]) <|
 .ret
theorem c11 : Try.f11.body.map (fun c => ((compile Try.prog kp11 [] kp11 c).map (·.1), fits Try.f11.ntmps c)) = some (some s11, true) := by kernel_rfl
theorem r11 : Try.f11.results.toList = [.tmp 6, .tmp 7] := by kernel_rfl
-- marionette/marionetteref09.Amo
abbrev kp12 : List Nat := [6, 7]
def s12 : SC :=
 .seq (.ops [⟨some 6, .assign (.const (.int .u64 0)), false, none⟩,
  ⟨some 7, .assign (.const (.bool false)), false, none⟩]) <|
 .seq (.keep [0, 1, 2]) <|
 .seq (.ops [⟨some 14, .move (.tmp 0), false, none⟩,
  ⟨some 15, .call ⟨.value (.func 15), #[(.tmp 14)], #[3]⟩, true, none⟩,
  ⟨some 8, .assign (.tmp 15), false, none⟩]) <|
 .seq (.keep [0, 1, 2, 8]) <|
 .seq (.seq (.ops [⟨some 16, .move (.tmp 8), false, none⟩,
  ⟨some 17, .binOp .eql 3 (.tmp 16) (.const (.int .i64 0)) 3, false, none⟩]) <|
 .seq (.keep [0, 1, 2, 8, 17]) <|
 .cond (.tmp 17) (.seq (.ops [⟨some 6, .assign (.const (.int .u64 0)), false, none⟩,
  ⟨some 7, .assign (.const (.bool false)), false, none⟩]) <|
 .seq (.keep [6, 7]) <|
 .ret) <|
 .skip) <|
 .seq (.keep [0, 1, 2, 8]) <|
 .seq (.ops [⟨some 18, .move (.tmp 0), false, none⟩,
  ⟨some 19, .binOp .sub 3 (.tmp 18) (.const (.int .i64 63)) 3, false, none⟩,
  ⟨some 9, .assign (.tmp 19), false, none⟩]) <|
 .seq (.keep [0, 1, 2, 8, 9]) <|
 .seq (.seq (.ops [⟨some 20, .move (.tmp 8), false, none⟩,
  ⟨some 21, .binOp .eql 3 (.tmp 20) (.const (.int .i64 8)) 3, false, none⟩]) <|
 .seq (.keep [0, 1, 2, 8, 9, 21]) <|
 .cond (.tmp 21) (.ops [⟨some 22, .move (.tmp 0), false, none⟩,
  ⟨some 23, .binOp .sub 3 (.tmp 22) (.const (.int .i64 74)) 3, false, none⟩,
  ⟨some 9, .assign (.tmp 23), false, none⟩]) <|
 .skip) <|
 .seq (.keep [1, 2, 8, 9]) <|
 .seq (.ops [⟨some 24, .move (.tmp 1), false, none⟩,
  ⟨some 25, .move (.tmp 8), false, none⟩,
  ⟨some 26, .call ⟨.value (.func 38), #[(.const (.slice none 0 0)), (.tmp 24), (.tmp 25)], #[50, 22, 3]⟩, true, none⟩,
  ⟨some 27, .move (.tmp 8), false, none⟩,
  ⟨some 28, .call ⟨.value (.func 29), #[(.tmp 26), (.tmp 27)], #[50, 3]⟩, true, none⟩,
  ⟨some 10, .assign (.tmp 28), false, none⟩]) <|
 .seq (.keep [2, 8, 9, 10]) <|
 .seq (.ops [⟨some 29, .move (.tmp 2), false, none⟩,
  ⟨some 30, .move (.tmp 8), false, none⟩,
  ⟨some 31, .call ⟨.value (.func 38), #[(.const (.slice none 0 0)), (.tmp 29), (.tmp 30)], #[50, 22, 3]⟩, true, none⟩,
  ⟨some 32, .move (.tmp 8), false, none⟩,
  ⟨some 33, .call ⟨.value (.func 29), #[(.tmp 31), (.tmp 32)], #[50, 3]⟩, true, none⟩,
  ⟨some 11, .assign (.tmp 33), false, none⟩]) <|
 .seq (.keep [8, 9, 10, 11]) <|
 .seq (.ops [⟨some 34, .move (.tmp 10), false, none⟩,
  ⟨some 35, .move (.tmp 8), false, none⟩,
  ⟨some 36, .binOp .mul 3 (.const (.int .i64 8)) (.tmp 35) 3, false, none⟩,
  ⟨some 37, .call ⟨.value (.func 32), #[(.tmp 34), (.tmp 36)], #[22, 3]⟩, true, none⟩,
  ⟨some 38, .move (.tmp 11), false, none⟩,
  ⟨some 39, .move (.tmp 8), false, none⟩,
  ⟨some 40, .binOp .mul 3 (.const (.int .i64 8)) (.tmp 39) 3, false, none⟩,
  ⟨some 41, .call ⟨.value (.func 32), #[(.tmp 38), (.tmp 40)], #[22, 3]⟩, true, none⟩,
  ⟨some 42, .call ⟨.value (.func 39), #[(.tmp 37), (.tmp 41)], #[22, 22]⟩, true, none⟩,
  ⟨some 12, .assign (.tmp 42), false, none⟩]) <|
 .seq (.keep [8, 9, 10, 11, 12]) <|
 .seq (.ops [⟨some 43, .move (.tmp 11), false, none⟩,
  ⟨some 13, .assign (.tmp 43), false, none⟩]) <|
 .seq (.keep [8, 9, 10, 11, 12, 13]) <|
 .seq (.seq (.ops [⟨some 44, .move (.tmp 9), false, none⟩]) <|
 .seq (.keep [8, 10, 11, 12, 13, 44]) <|
 .block 0 <| .seq (.ops [⟨some 46, .binOp .eql 3 (.tmp 44) (.const (.int .i64 2)) 3, false, none⟩,
  ⟨some 45, .assign (.tmp 46), false, none⟩]) <|
 .seq (.keep [8, 10, 11, 12, 13, 44, 45]) <|
 .cond (.tmp 45) (.skip) <|
 .seq (.ops [⟨some 48, .binOp .eql 3 (.tmp 44) (.const (.int .i64 3)) 3, false, none⟩,
  ⟨some 47, .assign (.tmp 48), false, none⟩]) <|
 .seq (.keep [8, 10, 11, 12, 13, 44, 47]) <|
 .cond (.tmp 47) (.ops [⟨some 49, .move (.tmp 10), false, none⟩,
  ⟨some 50, .move (.tmp 11), false, none⟩,
  ⟨some 51, .binOp .add 22 (.tmp 49) (.tmp 50) 22, false, none⟩,
  ⟨some 13, .assign (.tmp 51), false, none⟩]) <|
 .seq (.ops [⟨some 53, .binOp .eql 3 (.tmp 44) (.const (.int .i64 4)) 3, false, none⟩,
  ⟨some 52, .assign (.tmp 53), false, none⟩]) <|
 .seq (.keep [8, 10, 11, 12, 13, 44, 52]) <|
 .cond (.tmp 52) (.ops [⟨some 54, .move (.tmp 10), false, none⟩,
  ⟨some 55, .move (.tmp 11), false, none⟩,
  ⟨some 56, .binOp .xor 22 (.tmp 54) (.tmp 55) 22, false, none⟩,
  ⟨some 13, .assign (.tmp 56), false, none⟩]) <|
 .seq (.ops [⟨some 58, .binOp .eql 3 (.tmp 44) (.const (.int .i64 5)) 3, false, none⟩,
  ⟨some 57, .assign (.tmp 58), false, none⟩]) <|
 .seq (.keep [8, 10, 11, 12, 13, 44, 57]) <|
 .cond (.tmp 57) (.ops [⟨some 59, .move (.tmp 10), false, none⟩,
  ⟨some 60, .move (.tmp 11), false, none⟩,
  ⟨some 61, .binOp .and 22 (.tmp 59) (.tmp 60) 22, false, none⟩,
  ⟨some 13, .assign (.tmp 61), false, none⟩]) <|
 .seq (.ops [⟨some 63, .binOp .eql 3 (.tmp 44) (.const (.int .i64 6)) 3, false, none⟩,
  ⟨some 62, .assign (.tmp 63), false, none⟩]) <|
 .seq (.keep [8, 10, 11, 12, 13, 44, 62]) <|
 .cond (.tmp 62) (.ops [⟨some 64, .move (.tmp 10), false, none⟩,
  ⟨some 65, .move (.tmp 11), false, none⟩,
  ⟨some 66, .binOp .or 22 (.tmp 64) (.tmp 65) 22, false, none⟩,
  ⟨some 13, .assign (.tmp 66), false, none⟩]) <|
 .seq (.ops [⟨some 68, .binOp .eql 3 (.tmp 44) (.const (.int .i64 7)) 3, false, none⟩,
  ⟨some 67, .assign (.tmp 68), false, none⟩]) <|
 .seq (.keep [8, 10, 11, 12, 13, 44, 67]) <|
 .cond (.tmp 67) (.seq (.ops [⟨some 69, .move (.tmp 12), false, none⟩]) <|
 .seq (.keep [8, 10, 13, 69]) <|
 .cond (.tmp 69) (.ops [⟨some 70, .move (.tmp 10), false, none⟩,
  ⟨some 13, .assign (.tmp 70), false, none⟩]) <|
 .skip) <|
 .seq (.ops [⟨some 72, .binOp .eql 3 (.tmp 44) (.const (.int .i64 8)) 3, false, none⟩,
  ⟨some 71, .assign (.tmp 72), false, none⟩]) <|
 .seq (.keep [8, 10, 11, 12, 13, 44, 71]) <|
 .cond (.tmp 71) (.seq (.ops [⟨some 73, .move (.tmp 12), false, none⟩,
  ⟨some 74, .unOp .not 4 (.tmp 73), false, none⟩]) <|
 .seq (.keep [8, 10, 13, 74]) <|
 .cond (.tmp 74) (.ops [⟨some 75, .move (.tmp 10), false, none⟩,
  ⟨some 13, .assign (.tmp 75), false, none⟩]) <|
 .skip) <|
 .seq (.ops [⟨some 77, .binOp .eql 3 (.tmp 44) (.const (.int .i64 9)) 3, false, none⟩,
  ⟨some 76, .assign (.tmp 77), false, none⟩]) <|
 .seq (.keep [8, 10, 11, 13, 44, 76]) <|
 .cond (.tmp 76) (.seq (.ops [⟨some 78, .move (.tmp 10), false, none⟩,
  ⟨some 79, .move (.tmp 11), false, none⟩,
  ⟨some 80, .binOp .lss 22 (.tmp 78) (.tmp 79) 22, false, none⟩]) <|
 .seq (.keep [8, 10, 13, 80]) <|
 .cond (.tmp 80) (.ops [⟨some 81, .move (.tmp 10), false, none⟩,
  ⟨some 13, .assign (.tmp 81), false, none⟩]) <|
 .skip) <|
 .seq (.ops [⟨some 83, .binOp .eql 3 (.tmp 44) (.const (.int .i64 10)) 3, false, none⟩,
  ⟨some 82, .assign (.tmp 83), false, none⟩]) <|
 .seq (.keep [8, 10, 11, 13, 82]) <|
 .cond (.tmp 82) (.seq (.ops [⟨some 84, .move (.tmp 10), false, none⟩,
  ⟨some 85, .move (.tmp 11), false, none⟩,
  ⟨some 86, .binOp .gtr 22 (.tmp 84) (.tmp 85) 22, false, none⟩]) <|
 .seq (.keep [8, 10, 13, 86]) <|
 .cond (.tmp 86) (.ops [⟨some 87, .move (.tmp 10), false, none⟩,
  ⟨some 13, .assign (.tmp 87), false, none⟩]) <|
 .skip) <|
 .seq (.ops [⟨some 6, .assign (.const (.int .u64 0)), false, none⟩,
  ⟨some 7, .assign (.const (.bool false)), false, none⟩]) <|
 .seq (.keep [6, 7]) <|
 .ret) <|
 .seq (.keep [8, 13]) <|
 .seq (.ops [⟨some 88, .move (.tmp 13), false, none⟩,
  ⟨some 89, .move (.tmp 8), false, none⟩,
  ⟨some 90, .call ⟨.value (.func 38), #[(.const (.slice none 0 0)), (.tmp 88), (.tmp 89)], #[50, 22, 3]⟩, true, none⟩,
  ⟨some 91, .move (.tmp 8), false, none⟩,
  ⟨some 92, .call ⟨.value (.func 29), #[(.tmp 90), (.tmp 91)], #[50, 3]⟩, true, none⟩,
  ⟨some 6, .assign (.tmp 92), false, none⟩,
  ⟨some 7, .assign (.const (.bool true)), false, none⟩]) <|
 .seq (.keep [6, 7]) <|
 .ret
theorem c12 : Try.f12.body.map (fun c => ((compile Try.prog kp12 [] kp12 c).map (·.1), fits Try.f12.ntmps c)) = some (some s12, true) := by kernel_rfl
theorem r12 : Try.f12.results.toList = [.tmp 6, .tmp 7] := by kernel_rfl
-- marionette/marionettelaw09.answers
abbrev kp13 : List Nat := [0]
def s13 : SC :=
 .seq (.ops [⟨some 0, .assign (.const (.bool false)), false, none⟩]) <|
 .seq (.keep []) <|
 .seq (.ops [⟨some 4, .call ⟨.value (.func 11), #[(.const (.int .i64 66)), (.const (.int .u64 3)), (.const (.int .u64 4))], #[3, 22, 22]⟩, true, none⟩,
  ⟨some 3, .move (.tmp 4), false, none⟩,
  ⟨some 5, .extract (.tmp 3) 0, false, none⟩,
  ⟨some 6, .extract (.tmp 3) 1, false, none⟩,
  ⟨some 1, .assign (.tmp 5), false, none⟩,
  ⟨some 2, .assign (.tmp 6), false, none⟩]) <|
 .seq (.keep [1, 2]) <|
 .seq (.ops [⟨some 7, .move (.tmp 2), false, none⟩,
  ⟨some 8, .move (.tmp 7), false, none⟩,
  ⟨some 9, .move (.tmp 1), false, some (8, true)⟩,
  ⟨some 10, .binOp .eql 22 (.tmp 9) (.const (.int .u64 7)) 22, false, some (8, true)⟩,
  ⟨some 11, .pick (.tmp 8) (.tmp 10) (.const (.bool false)), false, none⟩,
  ⟨some 12, .move (.tmp 11), false, none⟩,
  ⟨some 13, .call ⟨.value (.func 14), #[(.const (.int .i64 74))], #[3]⟩, true, some (12, true)⟩,
  ⟨some 14, .binOp .eql 3 (.tmp 13) (.const (.int .i64 8)) 3, false, some (12, true)⟩,
  ⟨some 15, .pick (.tmp 12) (.tmp 14) (.const (.bool false)), false, none⟩,
  ⟨some 0, .assign (.tmp 15), false, none⟩]) <|
 .seq (.keep [0]) <|
 .ret
theorem c13 : Try.f13.body.map (fun c => ((compile Try.prog kp13 [] kp13 c).map (·.1), fits Try.f13.ntmps c)) = some (some s13, true) := by kernel_rfl
theorem r13 : Try.f13.results.toList = [.tmp 0] := by kernel_rfl
-- marionette/atom.Width
abbrev kp14 : List Nat := [2]
def s14 : SC :=
 .seq (.ops [⟨some 2, .assign (.const (.int .i64 0)), false, none⟩]) <|
 .seq (.keep [0]) <|
 .seq (.block 0 <| .seq (.ops [⟨some 4, .move (.tmp 0), false, none⟩,
  ⟨some 5, .binOp .geq 3 (.tmp 4) (.const (.int .i64 63)) 3, false, none⟩,
  ⟨some 6, .move (.tmp 5), false, none⟩,
  ⟨some 7, .move (.tmp 0), false, some (6, true)⟩,
  ⟨some 8, .binOp .leq 3 (.tmp 7) (.const (.int .i64 73)) 3, false, some (6, true)⟩,
  ⟨some 9, .pick (.tmp 6) (.tmp 8) (.const (.bool false)), false, none⟩,
  ⟨some 3, .assign (.tmp 9), false, none⟩]) <|
 .seq (.keep [0, 3]) <|
 .cond (.tmp 3) (.seq (.ops [⟨some 2, .assign (.const (.int .i64 4)), false, none⟩]) <|
 .seq (.keep [2]) <|
 .ret) <|
 .seq (.ops [⟨some 11, .move (.tmp 0), false, none⟩,
  ⟨some 12, .binOp .geq 3 (.tmp 11) (.const (.int .i64 74)) 3, false, none⟩,
  ⟨some 13, .move (.tmp 12), false, none⟩,
  ⟨some 14, .move (.tmp 0), false, some (13, true)⟩,
  ⟨some 15, .binOp .leq 3 (.tmp 14) (.const (.int .i64 84)) 3, false, some (13, true)⟩,
  ⟨some 16, .pick (.tmp 13) (.tmp 15) (.const (.bool false)), false, none⟩,
  ⟨some 10, .assign (.tmp 16), false, none⟩]) <|
 .seq (.keep [10]) <|
 .cond (.tmp 10) (.seq (.ops [⟨some 2, .assign (.const (.int .i64 8)), false, none⟩]) <|
 .seq (.keep [2]) <|
 .ret) <|
 .skip) <|
 .seq (.keep []) <|
 .seq (.ops [⟨some 2, .assign (.const (.int .i64 0)), false, none⟩]) <|
 .seq (.keep [2]) <|
 .ret
theorem c14 : Try.f14.body.map (fun c => ((compile Try.prog kp14 [] kp14 c).map (·.1), fits Try.f14.ntmps c)) = some (some s14, true) := by kernel_rfl
theorem r14 : Try.f14.results.toList = [.tmp 2] := by kernel_rfl
-- marionette/marionetteref09.Width
abbrev kp15 : List Nat := [2]
def s15 : SC :=
 .seq (.ops [⟨some 2, .assign (.const (.int .i64 0)), false, none⟩]) <|
 .seq (.keep [0]) <|
 .seq (.seq (.ops [⟨some 3, .move (.tmp 0), false, none⟩,
  ⟨some 4, .binOp .geq 3 (.tmp 3) (.const (.int .i64 63)) 3, false, none⟩,
  ⟨some 5, .move (.tmp 4), false, none⟩,
  ⟨some 6, .move (.tmp 0), false, some (5, true)⟩,
  ⟨some 7, .binOp .leq 3 (.tmp 6) (.const (.int .i64 73)) 3, false, some (5, true)⟩,
  ⟨some 8, .pick (.tmp 5) (.tmp 7) (.const (.bool false)), false, none⟩]) <|
 .seq (.keep [0, 8]) <|
 .cond (.tmp 8) (.seq (.ops [⟨some 2, .assign (.const (.int .i64 4)), false, none⟩]) <|
 .seq (.keep [2]) <|
 .ret) <|
 .skip) <|
 .seq (.keep [0]) <|
 .seq (.seq (.ops [⟨some 9, .move (.tmp 0), false, none⟩,
  ⟨some 10, .binOp .geq 3 (.tmp 9) (.const (.int .i64 74)) 3, false, none⟩,
  ⟨some 11, .move (.tmp 10), false, none⟩,
  ⟨some 12, .move (.tmp 0), false, some (11, true)⟩,
  ⟨some 13, .binOp .leq 3 (.tmp 12) (.const (.int .i64 84)) 3, false, some (11, true)⟩,
  ⟨some 14, .pick (.tmp 11) (.tmp 13) (.const (.bool false)), false, none⟩]) <|
 .seq (.keep [14]) <|
 .cond (.tmp 14) (.seq (.ops [⟨some 2, .assign (.const (.int .i64 8)), false, none⟩]) <|
 .seq (.keep [2]) <|
 .ret) <|
 .skip) <|
 .seq (.keep []) <|
 .seq (.ops [⟨some 2, .assign (.const (.int .i64 0)), false, none⟩]) <|
 .seq (.keep [2]) <|
 .ret
theorem c15 : Try.f15.body.map (fun c => ((compile Try.prog kp15 [] kp15 c).map (·.1), fits Try.f15.ntmps c)) = some (some s15, true) := by kernel_rfl
theorem r15 : Try.f15.results.toList = [.tmp 2] := by kernel_rfl
-- marionette/mem.New
abbrev kp16 : List Nat := [2]
def s16 : SC :=
 .seq (.ops [⟨some 2, .assign (.const (.pointer none)), false, none⟩]) <|
 .seq (.keep [0]) <|
 .seq (.ops [⟨some 3, .call ⟨.value (.func 40), #[], #[]⟩, true, none⟩,
  ⟨some 4, .call ⟨.value (.func 41), #[], #[]⟩, true, none⟩,
  ⟨some 5, .move (.tmp 0), false, none⟩,
  ⟨some 6, .call ⟨.builtin .max, #[(.tmp 5), (.const (.int .i64 0))], #[3, 3]⟩, false, none⟩,
  ⟨some 7, .build 87 #[(0, (.tmp 3)), (1, (.tmp 4)), (2, (.tmp 6))], false, none⟩,
  ⟨some 8, .box 87 (.tmp 7), true, none⟩,
  ⟨some 2, .assign (.tmp 8), false, none⟩]) <|
 .seq (.keep [2]) <|
 .ret
theorem c16 : Try.f16.body.map (fun c => ((compile Try.prog kp16 [] kp16 c).map (·.1), fits Try.f16.ntmps c)) = some (some s16, true) := by kernel_rfl
theorem r16 : Try.f16.results.toList = [.tmp 2] := by kernel_rfl
-- marionette/marionettelaw08.answers
abbrev kp17 : List Nat := [0]
def s17 : SC :=
 .seq (.ops [⟨some 0, .assign (.const (.bool false)), false, none⟩]) <|
 .seq (.keep []) <|
 .seq (.ops [⟨some 4, .call ⟨.value (.func 16), #[(.const (.int .i64 5))], #[3]⟩, true, none⟩,
  ⟨some 1, .assign (.tmp 4), false, none⟩]) <|
 .seq (.keep [1]) <|
 .seq (.ops [⟨some 6, .move (.tmp 1), false, none⟩,
  ⟨some 7, .call ⟨.value (.func 18), #[(.tmp 6), (.const (.int .u64 4096)), (.const (.int .u64 1)), (.const (.int .i64 3)), (.const (.bool true))], #[31, 22, 22, 3, 4]⟩, true, none⟩,
  ⟨some 5, .move (.tmp 7), false, none⟩,
  ⟨some 8, .extract (.tmp 5) 0, false, none⟩,
  ⟨some 9, .extract (.tmp 5) 1, false, none⟩,
  ⟨some 2, .assign (.tmp 8), false, none⟩,
  ⟨some 3, .assign (.tmp 9), false, none⟩]) <|
 .seq (.keep [1, 2, 3]) <|
 .seq (.ops [⟨some 10, .move (.tmp 3), false, none⟩,
  ⟨some 11, .binOp .eql 34 (.tmp 10) (.const (.int .i64 0)) 34, false, none⟩,
  ⟨some 12, .move (.tmp 11), false, none⟩,
  ⟨some 13, .move (.tmp 2), false, some (12, true)⟩,
  ⟨some 14, .binOp .eql 22 (.tmp 13) (.const (.int .u64 4096)) 22, false, some (12, true)⟩,
  ⟨some 15, .pick (.tmp 12) (.tmp 14) (.const (.bool false)), false, none⟩,
  ⟨some 16, .move (.tmp 15), false, none⟩,
  ⟨some 17, .move (.tmp 1), false, some (16, true)⟩,
  ⟨some 18, .call ⟨.value (.func 21), #[(.tmp 17), (.const (.int .u64 4096)), (.const (.int .i64 8)), (.const (.int .u64 77))], #[31, 22, 3, 22]⟩, true, some (16, true)⟩,
  ⟨some 19, .field 41 (.tmp 18) 0, false, some (16, true)⟩,
  ⟨some 20, .binOp .eql 3 (.tmp 19) (.const (.int .i64 0)) 3, false, some (16, true)⟩,
  ⟨some 21, .pick (.tmp 16) (.tmp 20) (.const (.bool false)), false, none⟩,
  ⟨some 22, .move (.tmp 21), false, none⟩,
  ⟨some 23, .move (.tmp 1), false, some (22, true)⟩,
  ⟨some 24, .call ⟨.value (.func 20), #[(.tmp 23)], #[31]⟩, true, some (22, true)⟩,
  ⟨some 25, .binOp .eql 3 (.tmp 24) (.const (.int .i64 1)) 3, false, some (22, true)⟩,
  ⟨some 26, .pick (.tmp 22) (.tmp 25) (.const (.bool false)), false, none⟩,
  ⟨some 0, .assign (.tmp 26), false, none⟩]) <|
 .seq (.keep [0]) <|
 .ret
theorem c17 : Try.f17.body.map (fun c => ((compile Try.prog kp17 [] kp17 c).map (·.1), fits Try.f17.ntmps c)) = some (some s17, true) := by kernel_rfl
theorem r17 : Try.f17.results.toList = [.tmp 0] := by kernel_rfl
-- (*marionette/mem.Space).Map
abbrev kp18 : List Nat := [10, 11]
def s18 : SC :=
 .seq (.ops [⟨some 10, .assign (.const (.int .u64 0)), false, none⟩,
  ⟨some 11, .assign (.const (.int .i64 0)), false, none⟩]) <|
 .seq (.keep [0, 1, 2, 3, 4]) <|
 .seq (.seq (.ops [⟨some 16, .move (.tmp 0), false, none⟩,
  ⟨some 17, .binOp .eql 31 (.tmp 16) (.const (.pointer none)) 31, false, none⟩,
  ⟨some 18, .move (.tmp 17), false, none⟩,
  ⟨some 19, .move (.tmp 1), false, some (18, false)⟩,
  ⟨some 20, .binOp .rem 22 (.tmp 19) (.const (.int .u64 4096)) 22, false, some (18, false)⟩,
  ⟨some 21, .binOp .neq 22 (.tmp 20) (.const (.int .u64 0)) 22, false, some (18, false)⟩,
  ⟨some 22, .pick (.tmp 18) (.const (.bool true)) (.tmp 21), false, none⟩,
  ⟨some 23, .move (.tmp 22), false, none⟩,
  ⟨some 24, .move (.tmp 2), false, some (23, false)⟩,
  ⟨some 25, .binOp .eql 22 (.tmp 24) (.const (.int .u64 0)) 22, false, some (23, false)⟩,
  ⟨some 26, .pick (.tmp 23) (.const (.bool true)) (.tmp 25), false, none⟩,
  ⟨some 27, .move (.tmp 26), false, none⟩,
  ⟨some 28, .move (.tmp 2), false, some (27, false)⟩,
  ⟨some 29, .binOp .gtr 22 (.tmp 28) (.const (.int .u64 274877906944)) 22, false, some (27, false)⟩,
  ⟨some 30, .pick (.tmp 27) (.const (.bool true)) (.tmp 29), false, none⟩,
  ⟨some 31, .move (.tmp 30), false, none⟩,
  ⟨some 32, .move (.tmp 3), false, some (31, false)⟩,
  ⟨some 33, .binOp .lss 3 (.tmp 32) (.const (.int .i64 0)) 3, false, some (31, false)⟩,
  ⟨some 34, .pick (.tmp 31) (.const (.bool true)) (.tmp 33), false, none⟩,
  ⟨some 35, .move (.tmp 34), false, none⟩,
  ⟨some 36, .move (.tmp 3), false, some (35, false)⟩,
  ⟨some 37, .binOp .gtr 3 (.tmp 36) (.const (.int .i64 7)) 3, false, some (35, false)⟩,
  ⟨some 38, .pick (.tmp 35) (.const (.bool true)) (.tmp 37), false, none⟩]) <|
 .seq (.keep [0, 1, 2, 3, 4, 38]) <|
 .cond (.tmp 38) (.seq (.ops [⟨some 10, .assign (.const (.int .u64 0)), false, none⟩,
  ⟨some 11, .assign (.const (.int .i64 22)), false, none⟩]) <|
 .seq (.keep [10, 11]) <|
 .ret) <|
 .skip) <|
 .seq (.keep [0, 1, 2, 3, 4]) <|
 .seq (.seq (.ops [⟨some 39, .move (.tmp 4), false, none⟩,
  ⟨some 40, .unOp .not 4 (.tmp 39), false, none⟩]) <|
 .seq (.keep [0, 1, 2, 3, 40]) <|
 .cond (.tmp 40) (.seq (.ops [⟨some 12, .assign (.const (.bool false)), false, none⟩]) <|
 .seq (.keep [0, 1, 2, 3]) <|
 .seq (.ops [⟨some 42, .move (.tmp 0), false, none⟩,
  ⟨some 43, .move (.tmp 1), false, none⟩,
  ⟨some 44, .move (.tmp 2), false, none⟩,
  ⟨some 45, .call ⟨.value (.func 42), #[(.tmp 42), (.tmp 43), (.tmp 44)], #[31, 22, 22]⟩, true, none⟩,
  ⟨some 41, .move (.tmp 45), false, none⟩,
  ⟨some 46, .extract (.tmp 41) 0, false, none⟩,
  ⟨some 47, .extract (.tmp 41) 1, false, none⟩,
  ⟨some 1, .assign (.tmp 46), false, none⟩,
  ⟨some 12, .assign (.tmp 47), false, none⟩]) <|
 .seq (.keep [0, 1, 2, 3, 12]) <|
 .seq (.ops [⟨some 48, .move (.tmp 12), false, none⟩,
  ⟨some 49, .unOp .not 4 (.tmp 48), false, none⟩]) <|
 .seq (.keep [0, 1, 2, 3, 49]) <|
 .cond (.tmp 49) (.seq (.ops [⟨some 10, .assign (.const (.int .u64 0)), false, none⟩,
  ⟨some 11, .assign (.const (.int .i64 12)), false, none⟩]) <|
 .seq (.keep [10, 11]) <|
 .ret) <|
 .skip) <|
 .skip) <|
 .seq (.keep [0, 1, 2, 3]) <|
 .seq (.ops [⟨some 51, .move (.tmp 1), false, none⟩,
  ⟨some 52, .move (.tmp 2), false, none⟩,
  ⟨some 53, .call ⟨.value (.func 43), #[(.tmp 51), (.tmp 52)], #[22, 22]⟩, true, none⟩,
  ⟨some 50, .move (.tmp 53), false, none⟩,
  ⟨some 54, .extract (.tmp 50) 0, false, none⟩,
  ⟨some 55, .extract (.tmp 50) 1, false, none⟩,
  ⟨some 13, .assign (.tmp 54), false, none⟩,
  ⟨some 14, .assign (.tmp 55), false, none⟩]) <|
 .seq (.keep [0, 1, 3, 13, 14]) <|
 .seq (.seq (.ops [⟨some 56, .move (.tmp 14), false, none⟩,
  ⟨some 57, .unOp .not 4 (.tmp 56), false, none⟩]) <|
 .seq (.keep [0, 1, 3, 13, 57]) <|
 .cond (.tmp 57) (.seq (.ops [⟨some 10, .assign (.const (.int .u64 0)), false, none⟩,
  ⟨some 11, .assign (.const (.int .i64 22)), false, none⟩]) <|
 .seq (.keep [10, 11]) <|
 .ret) <|
 .skip) <|
 .seq (.keep [0, 1, 3, 13]) <|
 .seq (.seq (.ops [⟨some 58, .move (.tmp 0), false, none⟩,
  ⟨some 59, .move (.tmp 1), false, none⟩,
  ⟨some 60, .move (.tmp 13), false, none⟩,
  ⟨some 61, .move (.tmp 3), false, none⟩,
  ⟨some 62, .call ⟨.value (.func 44), #[(.tmp 58), (.tmp 59), (.tmp 60), (.tmp 61)], #[31, 22, 22, 3]⟩, true, none⟩,
  ⟨some 15, .assign (.tmp 62), false, none⟩]) <|
 .seq (.keep [1, 15]) <|
 .seq (.ops [⟨some 63, .move (.tmp 15), false, none⟩,
  ⟨some 64, .binOp .neq 34 (.tmp 63) (.const (.int .i64 0)) 34, false, none⟩]) <|
 .seq (.keep [1, 15, 64]) <|
 .cond (.tmp 64) (.seq (.ops [⟨some 65, .move (.tmp 15), false, none⟩,
  ⟨some 10, .assign (.const (.int .u64 0)), false, none⟩,
  ⟨some 11, .assign (.tmp 65), false, none⟩]) <|
 .seq (.keep [10, 11]) <|
 .ret) <|
 .skip) <|
 .seq (.keep [1]) <|
 .seq (.ops [⟨some 66, .move (.tmp 1), false, none⟩,
  ⟨some 10, .assign (.tmp 66), false, none⟩,
  ⟨some 11, .assign (.const (.int .i64 0)), false, none⟩]) <|
 .seq (.keep [10, 11]) <|
 .ret
theorem c18 : Try.f18.body.map (fun c => ((compile Try.prog kp18 [] kp18 c).map (·.1), fits Try.f18.ntmps c)) = some (some s18, true) := by kernel_rfl
theorem r18 : Try.f18.results.toList = [.tmp 10, .tmp 11] := by kernel_rfl
-- marionette/marionetteref06.Up
abbrev kp19 : List Nat := [2]
def s19 : SC :=
 .seq (.ops [⟨some 2, .assign (.const (.int .u64 0)), false, none⟩]) <|
 .seq (.keep [0]) <|
 .seq (.ops [⟨some 3, .move (.tmp 0), false, none⟩,
  ⟨some 4, .binOp .add 22 (.tmp 3) (.const (.int .u64 4095)) 22, false, none⟩,
  ⟨some 5, .binOp .quo 22 (.tmp 4) (.const (.int .u64 4096)) 22, false, none⟩,
  ⟨some 6, .binOp .mul 22 (.tmp 5) (.const (.int .u64 4096)) 22, false, none⟩,
  ⟨some 2, .assign (.tmp 6), false, none⟩]) <|
 .seq (.keep [2]) <|
 .ret
theorem c19 : Try.f19.body.map (fun c => ((compile Try.prog kp19 [] kp19 c).map (·.1), fits Try.f19.ntmps c)) = some (some s19, true) := by kernel_rfl
theorem r19 : Try.f19.results.toList = [.tmp 2] := by kernel_rfl
-- (*marionette/mem.Space).Pages
abbrev kp20 : List Nat := [2]
def s20 : SC :=
 .seq (.ops [⟨some 2, .assign (.const (.int .i64 0)), false, none⟩]) <|
 .seq (.keep [0]) <|
 .seq (.seq (.ops [⟨some 3, .move (.tmp 0), false, none⟩,
  ⟨some 4, .binOp .eql 31 (.tmp 3) (.const (.pointer none)) 31, false, none⟩]) <|
 .seq (.keep [0, 4]) <|
 .cond (.tmp 4) (.seq (.ops [⟨some 2, .assign (.const (.int .i64 0)), false, none⟩]) <|
 .seq (.keep [2]) <|
 .ret) <|
 .skip) <|
 .seq (.keep [0]) <|
 .seq (.ops [⟨some 5, .move (.tmp 0), false, none⟩,
  ⟨some 6, .nilCheck (.tmp 5), false, none⟩,
  ⟨some 7, .fieldAddr 87 (.tmp 6) 0, false, none⟩,
  ⟨some 8, .load 82 (.tmp 7), false, none⟩,
  ⟨some 9, .call ⟨.value (.func 45), #[(.tmp 8)], #[82]⟩, true, none⟩,
  ⟨some 2, .assign (.tmp 9), false, none⟩]) <|
 .seq (.keep [2]) <|
 .ret
theorem c20 : Try.f20.body.map (fun c => ((compile Try.prog kp20 [] kp20 c).map (·.1), fits Try.f20.ntmps c)) = some (some s20, true) := by kernel_rfl
theorem r20 : Try.f20.results.toList = [.tmp 2] := by kernel_rfl
-- (*marionette/mem.Space).Store
abbrev kp21 : List Nat := [8]
def s21 : SC :=
 .seq (.ops [⟨some 8, .alloc 41, true, none⟩]) <|
 .seq (.keep [0, 1, 2, 3, 8]) <|
 .seq (.seq (.ops [⟨some 10, .move (.tmp 0), false, none⟩,
  ⟨some 11, .move (.tmp 1), false, none⟩,
  ⟨some 12, .move (.tmp 2), false, none⟩,
  ⟨some 13, .call ⟨.value (.func 46), #[(.tmp 10), (.tmp 11), (.tmp 12)], #[31, 22, 3]⟩, true, none⟩,
  ⟨some 9, .alloc 41, true, none⟩,
  ⟨none, .store 41 (.tmp 9) (.tmp 13), true, none⟩]) <|
 .seq (.keep [0, 1, 2, 3, 8, 9]) <|
 .seq (.ops [⟨some 14, .fieldAddr 41 (.tmp 9) 0, false, none⟩,
  ⟨some 15, .load 3 (.tmp 14), false, none⟩,
  ⟨some 16, .binOp .neq 3 (.tmp 15) (.const (.int .i64 0)) 3, false, none⟩]) <|
 .seq (.keep [0, 1, 2, 3, 8, 9, 16]) <|
 .cond (.tmp 16) (.seq (.ops [⟨some 17, .load 41 (.tmp 9), false, none⟩,
  ⟨none, .store 41 (.tmp 8) (.tmp 17), true, none⟩]) <|
 .seq (.keep [8]) <|
 .ret) <|
 .skip) <|
 .seq (.keep [0, 1, 2, 3, 8]) <|
 .seq (.seq (.ops [⟨some 18, .move (.tmp 0), false, none⟩]) <|
 .seq (.ops [⟨some 19, .nilCheck (.tmp 18), false, none⟩]) <|
 .seq (.ops [⟨some 20, .fieldAddr 87 (.tmp 19) 1, false, none⟩]) <|
 .seq (.ops [⟨some 22, .move (.tmp 1), false, none⟩]) <|
 .seq (.ops [⟨some 23, .move (.tmp 3), false, none⟩]) <|
 .seq (.ops [⟨some 24, .move (.tmp 2), false, none⟩]) <|
 .amb (.seq (.ops [⟨some 21, .load 84 (.tmp 20), false, none⟩]) <|
 .seq (.ops [⟨some 25, .call ⟨.value (.func 48), #[(.const (.slice none 0 0)), (.tmp 23), (.tmp 24)], #[50, 22, 3]⟩, true, none⟩]) <|
 .seq (.ops [⟨some 26, .call ⟨.value (.func 47), #[(.tmp 21), (.tmp 22), (.tmp 25)], #[84, 22, 50]⟩, true, none⟩]) <|
 .skip) (.seq (.ops [⟨some 25, .call ⟨.value (.func 48), #[(.const (.slice none 0 0)), (.tmp 23), (.tmp 24)], #[50, 22, 3]⟩, true, none⟩]) <|
 .seq (.ops [⟨some 21, .load 84 (.tmp 20), false, none⟩]) <|
 .seq (.ops [⟨some 26, .call ⟨.value (.func 47), #[(.tmp 21), (.tmp 22), (.tmp 25)], #[84, 22, 50]⟩, true, none⟩]) <|
 .skip)) <|
 .seq (.keep [8]) <|
 .seq (.ops [⟨some 27, .build 41 #[], false, none⟩,
  ⟨none, .store 41 (.tmp 8) (.tmp 27), true, none⟩]) <|
 .seq (.keep [8]) <|
 .ret
theorem c21 : Try.f21.body.map (fun c => ((compile Try.prog kp21 [] kp21 c).map (·.1), fits Try.f21.ntmps c)) = some (some s21, true) := by kernel_rfl
theorem r21 : Try.f21.results.toList = [.cell 8 41] := by kernel_rfl
-- (*marionette/mem.Space).Load
abbrev kp22 : List Nat := [6, 7]
def s22 : SC :=
 .seq (.ops [⟨some 6, .assign (.const (.int .u64 0)), false, none⟩,
  ⟨some 7, .alloc 41, true, none⟩]) <|
 .seq (.keep [0, 1, 2, 7]) <|
 .seq (.seq (.ops [⟨some 10, .move (.tmp 0), false, none⟩,
  ⟨some 11, .binOp .eql 31 (.tmp 10) (.const (.pointer none)) 31, false, none⟩,
  ⟨some 12, .move (.tmp 11), false, none⟩,
  ⟨some 13, .move (.tmp 2), false, some (12, false)⟩,
  ⟨some 14, .call ⟨.value (.func 49), #[(.tmp 13)], #[3]⟩, true, some (12, false)⟩,
  ⟨some 15, .unOp .not 4 (.tmp 14), false, some (12, false)⟩,
  ⟨some 16, .pick (.tmp 12) (.const (.bool true)) (.tmp 15), false, none⟩]) <|
 .seq (.keep [0, 1, 2, 7, 16]) <|
 .cond (.tmp 16) (.seq (.ops [⟨some 17, .move (.tmp 1), false, none⟩,
  ⟨some 18, .build 41 #[(0, (.const (.int .i64 1))), (1, (.tmp 17))], false, none⟩,
  ⟨some 6, .assign (.const (.int .u64 0)), false, none⟩,
  ⟨none, .store 41 (.tmp 7) (.tmp 18), true, none⟩]) <|
 .seq (.keep [6, 7]) <|
 .ret) <|
 .skip) <|
 .seq (.keep [0, 1, 2, 7]) <|
 .seq (.seq (.ops [⟨some 20, .move (.tmp 0), false, none⟩,
  ⟨some 21, .move (.tmp 1), false, none⟩,
  ⟨some 22, .move (.tmp 2), false, none⟩,
  ⟨some 23, .call ⟨.value (.func 50), #[(.tmp 20), (.tmp 21), (.tmp 22), (.const (.int .i64 1))], #[31, 22, 3, 3]⟩, true, none⟩,
  ⟨some 19, .move (.tmp 23), false, none⟩,
  ⟨some 24, .extract (.tmp 19) 0, false, none⟩,
  ⟨some 25, .extract (.tmp 19) 1, false, none⟩,
  ⟨some 8, .assign (.tmp 24), false, none⟩,
  ⟨some 9, .assign (.tmp 25), false, none⟩]) <|
 .seq (.keep [0, 1, 2, 7, 8, 9]) <|
 .seq (.ops [⟨some 26, .move (.tmp 9), false, none⟩]) <|
 .seq (.keep [0, 1, 2, 7, 8, 26]) <|
 .cond (.tmp 26) (.seq (.ops [⟨some 27, .move (.tmp 8), false, none⟩,
  ⟨some 28, .build 41 #[(0, (.const (.int .i64 1))), (1, (.tmp 27))], false, none⟩,
  ⟨some 6, .assign (.const (.int .u64 0)), false, none⟩,
  ⟨none, .store 41 (.tmp 7) (.tmp 28), true, none⟩]) <|
 .seq (.keep [6, 7]) <|
 .ret) <|
 .skip) <|
 .seq (.keep [0, 1, 2, 7]) <|
 .seq (.ops [⟨some 29, .move (.tmp 0), false, none⟩,
  ⟨some 30, .nilCheck (.tmp 29), false, none⟩,
  ⟨some 31, .fieldAddr 87 (.tmp 30) 1, false, none⟩,
  ⟨some 32, .load 84 (.tmp 31), false, none⟩,
  ⟨some 33, .move (.tmp 1), false, none⟩,
  ⟨some 34, .move (.tmp 2), false, none⟩,
  ⟨some 35, .call ⟨.value (.func 52), #[(.tmp 32), (.tmp 33), (.tmp 34)], #[84, 22, 3]⟩, true, none⟩,
  ⟨some 36, .move (.tmp 2), false, none⟩,
  ⟨some 37, .call ⟨.value (.func 51), #[(.tmp 35), (.tmp 36)], #[50, 3]⟩, true, none⟩,
  ⟨some 38, .build 41 #[], false, none⟩,
  ⟨some 6, .assign (.tmp 37), false, none⟩,
  ⟨none, .store 41 (.tmp 7) (.tmp 38), true, none⟩]) <|
 .seq (.keep [6, 7]) <|
 .ret
theorem c22 : Try.f22.body.map (fun c => ((compile Try.prog kp22 [] kp22 c).map (·.1), fits Try.f22.ntmps c)) = some (some s22, true) := by kernel_rfl
theorem r22 : Try.f22.results.toList = [.tmp 6, .cell 7 41] := by kernel_rfl
-- (*marionette/mem.Space).SetBrk
abbrev kp23 : List Nat := []
def s23 : SC :=
 .seq (.seq (.ops [⟨some 6, .move (.tmp 0), false, none⟩,
  ⟨some 7, .binOp .eql 31 (.tmp 6) (.const (.pointer none)) 31, false, none⟩]) <|
 .seq (.keep [0, 1, 7]) <|
 .cond (.tmp 7) (.ret) <|
 .skip) <|
 .seq (.keep [0, 1]) <|
 .seq (.ops [⟨some 9, .move (.tmp 1), false, none⟩,
  ⟨some 10, .call ⟨.value (.func 53), #[(.tmp 9)], #[22]⟩, true, none⟩,
  ⟨some 8, .move (.tmp 10), false, none⟩,
  ⟨some 11, .extract (.tmp 8) 0, false, none⟩,
  ⟨some 12, .extract (.tmp 8) 1, false, none⟩,
  ⟨some 4, .assign (.tmp 11), false, none⟩,
  ⟨some 5, .assign (.tmp 12), false, none⟩]) <|
 .seq (.keep [0, 4, 5]) <|
 .seq (.ops [⟨some 13, .move (.tmp 5), false, none⟩]) <|
 .seq (.keep [0, 4, 13]) <|
 .cond (.tmp 13) (.ops [⟨some 14, .move (.tmp 0), false, none⟩,
  ⟨some 15, .move (.tmp 0), false, none⟩,
  ⟨some 16, .move (.tmp 4), false, none⟩,
  ⟨some 17, .move (.tmp 4), false, none⟩,
  ⟨some 18, .nilCheck (.tmp 14), false, none⟩,
  ⟨some 19, .fieldAddr 87 (.tmp 18) 3, false, none⟩,
  ⟨none, .store 22 (.tmp 19) (.tmp 16), true, none⟩,
  ⟨some 20, .nilCheck (.tmp 15), false, none⟩,
  ⟨some 21, .fieldAddr 87 (.tmp 20) 4, false, none⟩,
  ⟨none, .store 22 (.tmp 21) (.tmp 17), true, none⟩]) <|
 .skip
theorem c23 : Try.f23.body.map (fun c => ((compile Try.prog kp23 [] kp23 c).map (·.1), fits Try.f23.ntmps c)) = some (some s23, true) := by kernel_rfl
theorem r23 : Try.f23.results.toList = [] := by kernel_rfl
-- (*marionette/mem.Space).Brk
abbrev kp24 : List Nat := [4]
def s24 : SC :=
 .seq (.ops [⟨some 4, .assign (.const (.int .u64 0)), false, none⟩]) <|
 .seq (.keep [0, 1]) <|
 .seq (.seq (.ops [⟨some 9, .move (.tmp 0), false, none⟩,
  ⟨some 10, .binOp .eql 31 (.tmp 9) (.const (.pointer none)) 31, false, none⟩]) <|
 .seq (.keep [0, 1, 10]) <|
 .cond (.tmp 10) (.seq (.ops [⟨some 4, .assign (.const (.int .u64 0)), false, none⟩]) <|
 .seq (.keep [4]) <|
 .ret) <|
 .skip) <|
 .seq (.keep [0, 1]) <|
 .seq (.seq (.ops [⟨some 11, .move (.tmp 1), false, none⟩,
  ⟨some 12, .move (.tmp 0), false, none⟩,
  ⟨some 13, .nilCheck (.tmp 12), false, none⟩,
  ⟨some 14, .fieldAddr 87 (.tmp 13) 3, false, none⟩,
  ⟨some 15, .load 22 (.tmp 14), false, none⟩,
  ⟨some 16, .binOp .lss 22 (.tmp 11) (.tmp 15) 22, false, none⟩,
  ⟨some 17, .move (.tmp 16), false, none⟩,
  ⟨some 18, .move (.tmp 1), false, some (17, false)⟩,
  ⟨some 19, .binOp .gtr 22 (.tmp 18) (.const (.int .u64 274877906944)) 22, false, some (17, false)⟩,
  ⟨some 20, .pick (.tmp 17) (.const (.bool true)) (.tmp 19), false, none⟩]) <|
 .seq (.keep [0, 1, 20]) <|
 .cond (.tmp 20) (.seq (.ops [⟨some 21, .move (.tmp 0), false, none⟩,
  ⟨some 22, .nilCheck (.tmp 21), false, none⟩,
  ⟨some 23, .fieldAddr 87 (.tmp 22) 4, false, none⟩,
  ⟨some 24, .load 22 (.tmp 23), false, none⟩,
  ⟨some 4, .assign (.tmp 24), false, none⟩]) <|
 .seq (.keep [4]) <|
 .ret) <|
 .skip) <|
 .seq (.keep [0, 1]) <|
 .seq (.ops [⟨some 26, .move (.tmp 0), false, none⟩,
  ⟨some 27, .nilCheck (.tmp 26), false, none⟩,
  ⟨some 28, .fieldAddr 87 (.tmp 27) 4, false, none⟩,
  ⟨some 29, .load 22 (.tmp 28), false, none⟩,
  ⟨some 30, .call ⟨.value (.func 53), #[(.tmp 29)], #[22]⟩, true, none⟩,
  ⟨some 25, .move (.tmp 30), false, none⟩,
  ⟨some 31, .extract (.tmp 25) 0, false, none⟩,
  ⟨some 32, .extract (.tmp 25) 1, false, none⟩,
  ⟨some 5, .assign (.tmp 31), false, none⟩,
  ⟨some 6, .assign (.tmp 32), false, none⟩]) <|
 .seq (.keep [0, 1, 5]) <|
 .seq (.ops [⟨some 34, .move (.tmp 1), false, none⟩,
  ⟨some 35, .call ⟨.value (.func 53), #[(.tmp 34)], #[22]⟩, true, none⟩,
  ⟨some 33, .move (.tmp 35), false, none⟩,
  ⟨some 36, .extract (.tmp 33) 0, false, none⟩,
  ⟨some 37, .extract (.tmp 33) 1, false, none⟩,
  ⟨some 7, .assign (.tmp 36), false, none⟩,
  ⟨some 8, .assign (.tmp 37), false, none⟩]) <|
 .seq (.keep [0, 1, 5, 7]) <|
 .seq (.block 0 <| .seq (.ops [⟨some 39, .move (.tmp 7), false, none⟩,
  ⟨some 40, .move (.tmp 5), false, none⟩,
  ⟨some 41, .binOp .gtr 22 (.tmp 39) (.tmp 40) 22, false, none⟩,
  ⟨some 38, .assign (.tmp 41), false, none⟩]) <|
 .seq (.keep [0, 1, 5, 7, 38]) <|
 .cond (.tmp 38) (.seq (.ops [⟨some 42, .move (.tmp 0), false, none⟩,
  ⟨some 43, .nilCheck (.tmp 42), false, none⟩,
  ⟨some 44, .fieldAddr 87 (.tmp 43) 0, false, none⟩,
  ⟨some 45, .load 82 (.tmp 44), false, none⟩,
  ⟨some 46, .move (.tmp 5), false, none⟩,
  ⟨some 47, .move (.tmp 7), false, none⟩,
  ⟨some 48, .call ⟨.value (.func 54), #[(.tmp 45), (.tmp 46), (.tmp 47)], #[82, 22, 22]⟩, true, none⟩,
  ⟨some 49, .unOp .not 4 (.tmp 48), false, none⟩,
  ⟨some 50, .move (.tmp 49), false, none⟩,
  ⟨some 51, .move (.tmp 0), false, some (50, false)⟩,
  ⟨some 52, .move (.tmp 5), false, some (50, false)⟩,
  ⟨some 53, .move (.tmp 7), false, some (50, false)⟩,
  ⟨some 54, .call ⟨.value (.func 44), #[(.tmp 51), (.tmp 52), (.tmp 53), (.const (.int .i64 3))], #[31, 22, 22, 3]⟩, true, some (50, false)⟩,
  ⟨some 55, .binOp .neq 34 (.tmp 54) (.const (.int .i64 0)) 34, false, some (50, false)⟩,
  ⟨some 56, .pick (.tmp 50) (.const (.bool true)) (.tmp 55), false, none⟩]) <|
 .seq (.keep [0, 1, 56]) <|
 .cond (.tmp 56) (.seq (.ops [⟨some 57, .move (.tmp 0), false, none⟩,
  ⟨some 58, .nilCheck (.tmp 57), false, none⟩,
  ⟨some 59, .fieldAddr 87 (.tmp 58) 4, false, none⟩,
  ⟨some 60, .load 22 (.tmp 59), false, none⟩,
  ⟨some 4, .assign (.tmp 60), false, none⟩]) <|
 .seq (.keep [4]) <|
 .ret) <|
 .skip) <|
 .seq (.ops [⟨some 62, .move (.tmp 7), false, none⟩,
  ⟨some 63, .move (.tmp 5), false, none⟩,
  ⟨some 64, .binOp .lss 22 (.tmp 62) (.tmp 63) 22, false, none⟩,
  ⟨some 61, .assign (.tmp 64), false, none⟩]) <|
 .seq (.keep [0, 1, 5, 7, 61]) <|
 .cond (.tmp 61) (.seq (.ops [⟨some 65, .move (.tmp 0), false, none⟩,
  ⟨some 66, .move (.tmp 7), false, none⟩,
  ⟨some 67, .move (.tmp 5), false, none⟩,
  ⟨some 68, .move (.tmp 7), false, none⟩,
  ⟨some 69, .binOp .sub 22 (.tmp 67) (.tmp 68) 22, false, none⟩,
  ⟨some 70, .call ⟨.value (.func 55), #[(.tmp 65), (.tmp 66), (.tmp 69)], #[31, 22, 22]⟩, true, none⟩,
  ⟨some 71, .binOp .neq 34 (.tmp 70) (.const (.int .i64 0)) 34, false, none⟩]) <|
 .seq (.keep [0, 1, 71]) <|
 .cond (.tmp 71) (.seq (.ops [⟨some 72, .move (.tmp 0), false, none⟩,
  ⟨some 73, .nilCheck (.tmp 72), false, none⟩,
  ⟨some 74, .fieldAddr 87 (.tmp 73) 4, false, none⟩,
  ⟨some 75, .load 22 (.tmp 74), false, none⟩,
  ⟨some 4, .assign (.tmp 75), false, none⟩]) <|
 .seq (.keep [4]) <|
 .ret) <|
 .skip) <|
 .skip) <|
 .seq (.keep [0, 1]) <|
 .seq (.ops [⟨some 76, .move (.tmp 0), false, none⟩,
  ⟨some 77, .move (.tmp 1), false, none⟩,
  ⟨some 78, .nilCheck (.tmp 76), false, none⟩,
  ⟨some 79, .fieldAddr 87 (.tmp 78) 4, false, none⟩,
  ⟨none, .store 22 (.tmp 79) (.tmp 77), true, none⟩]) <|
 .seq (.keep [1]) <|
 .seq (.ops [⟨some 80, .move (.tmp 1), false, none⟩,
  ⟨some 4, .assign (.tmp 80), false, none⟩]) <|
 .seq (.keep [4]) <|
 .ret
theorem c24 : Try.f24.body.map (fun c => ((compile Try.prog kp24 [] kp24 c).map (·.1), fits Try.f24.ntmps c)) = some (some s24, true) := by kernel_rfl
theorem r24 : Try.f24.results.toList = [.tmp 4] := by kernel_rfl
-- (*marionette/mem.Space).Peek
abbrev kp25 : List Nat := [6]
def s25 : SC :=
 .seq (.ops [⟨some 6, .assign (.const (.slice none 0 0)), false, none⟩]) <|
 .seq (.keep [0, 1, 2]) <|
 .seq (.seq (.ops [⟨some 7, .move (.tmp 0), false, none⟩,
  ⟨some 8, .binOp .eql 31 (.tmp 7) (.const (.pointer none)) 31, false, none⟩]) <|
 .seq (.keep [0, 1, 2, 8]) <|
 .cond (.tmp 8) (.seq (.ops [⟨some 6, .assign (.const (.slice none 0 0)), false, none⟩]) <|
 .seq (.keep [6]) <|
 .ret) <|
 .skip) <|
 .seq (.keep [0, 1, 2]) <|
 .seq (.ops [⟨some 9, .move (.tmp 0), false, none⟩,
  ⟨some 10, .nilCheck (.tmp 9), false, none⟩,
  ⟨some 11, .fieldAddr 87 (.tmp 10) 1, false, none⟩,
  ⟨some 12, .load 84 (.tmp 11), false, none⟩,
  ⟨some 13, .move (.tmp 1), false, none⟩,
  ⟨some 14, .move (.tmp 2), false, none⟩,
  ⟨some 15, .call ⟨.value (.func 52), #[(.tmp 12), (.tmp 13), (.tmp 14)], #[84, 22, 3]⟩, true, none⟩,
  ⟨some 6, .assign (.tmp 15), false, none⟩]) <|
 .seq (.keep [6]) <|
 .ret
theorem c25 : Try.f25.body.map (fun c => ((compile Try.prog kp25 [] kp25 c).map (·.1), fits Try.f25.ntmps c)) = some (some s25, true) := by kernel_rfl
theorem r25 : Try.f25.results.toList = [.tmp 6] := by kernel_rfl
-- (*marionette/mem.Space).Put
abbrev kp26 : List Nat := []
def s26 : SC :=
 .seq (.seq (.ops [⟨some 9, .move (.tmp 0), false, none⟩,
  ⟨some 10, .binOp .eql 31 (.tmp 9) (.const (.pointer none)) 31, false, none⟩]) <|
 .seq (.keep [0, 1, 2, 10]) <|
 .cond (.tmp 10) (.ret) <|
 .skip) <|
 .seq (.keep [0, 1, 2]) <|
 .block 0 <| .loop <| .seq (.seq (.seq (.ops [⟨some 11, .move (.tmp 2), false, none⟩,
  ⟨some 12, .call ⟨.builtin .len, #[(.tmp 11)], #[50]⟩, false, none⟩,
  ⟨some 13, .binOp .gtr 3 (.tmp 12) (.const (.int .i64 0)) 3, false, none⟩,
  ⟨some 14, .move (.tmp 13), false, none⟩,
  ⟨some 15, .move (.tmp 1), false, some (14, true)⟩,
  ⟨some 16, .binOp .lss 22 (.tmp 15) (.const (.int .u64 274877906944)) 22, false, some (14, true)⟩,
  ⟨some 17, .pick (.tmp 14) (.tmp 16) (.const (.bool false)), false, none⟩]) <|
 .seq (.keep [0, 1, 2, 17]) <|
 .cond (.tmp 17) (.skip) <|
 .exit 0) <|
 .seq (.keep [0, 1, 2]) <|
 .block 1 <| .seq (.ops [⟨some 18, .move (.tmp 2), false, none⟩,
  ⟨some 19, .call ⟨.builtin .len, #[(.tmp 18)], #[50]⟩, false, none⟩,
  ⟨some 20, .convert 3 22 (.tmp 19), false, none⟩,
  ⟨some 21, .move (.tmp 1), false, none⟩,
  ⟨some 22, .binOp .rem 22 (.tmp 21) (.const (.int .u64 4096)) 22, false, none⟩,
  ⟨some 23, .binOp .sub 22 (.const (.int .u64 4096)) (.tmp 22) 22, false, none⟩,
  ⟨some 24, .call ⟨.builtin .min, #[(.tmp 20), (.tmp 23)], #[22, 22]⟩, false, none⟩,
  ⟨some 6, .assign (.tmp 24), false, none⟩]) <|
 .seq (.keep [0, 1, 2, 6]) <|
 .seq (.seq (.ops [⟨some 26, .move (.tmp 0), false, none⟩,
  ⟨some 27, .nilCheck (.tmp 26), false, none⟩,
  ⟨some 28, .fieldAddr 87 (.tmp 27) 0, false, none⟩,
  ⟨some 29, .load 82 (.tmp 28), false, none⟩,
  ⟨some 30, .move (.tmp 1), false, none⟩,
  ⟨some 31, .call ⟨.value (.func 56), #[(.tmp 29), (.tmp 30)], #[82, 22]⟩, true, none⟩,
  ⟨some 25, .move (.tmp 31), false, none⟩,
  ⟨some 32, .extract (.tmp 25) 0, false, none⟩,
  ⟨some 33, .extract (.tmp 25) 1, false, none⟩,
  ⟨some 7, .alloc 95, true, none⟩,
  ⟨none, .store 95 (.tmp 7) (.tmp 32), true, none⟩,
  ⟨some 8, .assign (.tmp 33), false, none⟩]) <|
 .seq (.keep [0, 1, 2, 6, 8]) <|
 .seq (.ops [⟨some 34, .move (.tmp 8), false, none⟩]) <|
 .seq (.keep [0, 1, 2, 6, 34]) <|
 .cond (.tmp 34) (.seq (.ops [⟨some 35, .move (.tmp 0), false, none⟩]) <|
 .seq (.ops [⟨some 36, .nilCheck (.tmp 35), false, none⟩]) <|
 .seq (.ops [⟨some 37, .fieldAddr 87 (.tmp 36) 1, false, none⟩]) <|
 .seq (.ops [⟨some 38, .load 84 (.tmp 37), false, none⟩]) <|
 .seq (.ops [⟨some 39, .move (.tmp 1), false, none⟩]) <|
 .seq (.ops [⟨some 40, .move (.tmp 2), false, none⟩]) <|
 .seq (.ops [⟨some 41, .move (.tmp 6), false, none⟩]) <|
 .seq (.ops [⟨some 42, .slice 50 (.tmp 40) none (some (.tmp 41)) none, false, none⟩]) <|
 .seq (.ops [⟨some 43, .call ⟨.value (.func 47), #[(.tmp 38), (.tmp 39), (.tmp 42)], #[84, 22, 50]⟩, true, none⟩]) <|
 .skip) <|
 .skip) <|
 .seq (.keep [0, 1, 2, 6]) <|
 .seq (.ops [⟨some 44, .move (.tmp 2), false, none⟩,
  ⟨some 45, .move (.tmp 6), false, none⟩,
  ⟨some 46, .slice 50 (.tmp 44) (some (.tmp 45)) none none, false, none⟩,
  ⟨some 2, .assign (.tmp 46), false, none⟩]) <|
 .seq (.keep [0, 1, 2, 6]) <|
 .ops [⟨some 47, .move (.tmp 1), false, none⟩,
  ⟨some 48, .move (.tmp 6), false, none⟩,
  ⟨some 49, .binOp .add 22 (.tmp 47) (.tmp 48) 22, false, none⟩,
  ⟨some 1, .assign (.tmp 49), false, none⟩]) <|
 .keep [0, 1, 2]
theorem c26 : Try.f26.body.map (fun c => ((compile Try.prog kp26 [] kp26 c).map (·.1), fits Try.f26.ntmps c)) = some (some s26, true) := by kernel_rfl
theorem r26 : Try.f26.results.toList = [] := by kernel_rfl
-- (*marionette/mem.Space).Protect
abbrev kp27 : List Nat := [8]
def s27 : SC :=
 .seq (.ops [⟨some 8, .assign (.const (.int .i64 0)), false, none⟩]) <|
 .seq (.keep [0, 1, 2, 3]) <|
 .seq (.ops [⟨some 13, .move (.tmp 1), false, none⟩,
  ⟨some 14, .move (.tmp 2), false, none⟩,
  ⟨some 15, .call ⟨.value (.func 43), #[(.tmp 13), (.tmp 14)], #[22, 22]⟩, true, none⟩,
  ⟨some 12, .move (.tmp 15), false, none⟩,
  ⟨some 16, .extract (.tmp 12) 0, false, none⟩,
  ⟨some 17, .extract (.tmp 12) 1, false, none⟩,
  ⟨some 9, .assign (.tmp 16), false, none⟩,
  ⟨some 10, .assign (.tmp 17), false, none⟩]) <|
 .seq (.keep [0, 1, 3, 9, 10]) <|
 .seq (.seq (.ops [⟨some 18, .move (.tmp 0), false, none⟩,
  ⟨some 19, .binOp .eql 31 (.tmp 18) (.const (.pointer none)) 31, false, none⟩,
  ⟨some 20, .move (.tmp 19), false, none⟩,
  ⟨some 21, .move (.tmp 10), false, some (20, false)⟩,
  ⟨some 22, .unOp .not 4 (.tmp 21), false, some (20, false)⟩,
  ⟨some 23, .pick (.tmp 20) (.const (.bool true)) (.tmp 22), false, none⟩]) <|
 .seq (.keep [0, 1, 3, 9, 23]) <|
 .cond (.tmp 23) (.seq (.ops [⟨some 8, .assign (.const (.int .i64 22)), false, none⟩]) <|
 .seq (.keep [8]) <|
 .ret) <|
 .skip) <|
 .seq (.keep [0, 1, 3, 9]) <|
 .seq (.ops [⟨some 24, .move (.tmp 0), false, none⟩,
  ⟨some 25, .nilCheck (.tmp 24), false, none⟩,
  ⟨some 26, .fieldAddr 87 (.tmp 25) 0, false, none⟩,
  ⟨some 27, .load 82 (.tmp 26), false, none⟩,
  ⟨some 28, .move (.tmp 1), false, none⟩,
  ⟨some 29, .move (.tmp 9), false, none⟩,
  ⟨some 30, .move (.tmp 3), false, none⟩,
  ⟨some 31, .call ⟨.value (.func 57), #[(.tmp 27), (.tmp 28), (.tmp 29), (.tmp 30)], #[82, 22, 22, 3]⟩, true, none⟩,
  ⟨some 11, .assign (.tmp 31), false, none⟩]) <|
 .seq (.keep [0, 1, 9, 11]) <|
 .seq (.seq (.ops [⟨some 32, .move (.tmp 11), false, none⟩,
  ⟨some 33, .binOp .eql 34 (.tmp 32) (.const (.int .i64 0)) 34, false, none⟩]) <|
 .seq (.keep [0, 1, 9, 11, 33]) <|
 .cond (.tmp 33) (.ops [⟨some 34, .move (.tmp 0), false, none⟩,
  ⟨some 35, .nilCheck (.tmp 34), false, none⟩,
  ⟨some 36, .fieldAddr 87 (.tmp 35) 1, false, none⟩,
  ⟨some 37, .load 84 (.tmp 36), false, none⟩,
  ⟨some 38, .move (.tmp 1), false, none⟩,
  ⟨some 39, .move (.tmp 9), false, none⟩,
  ⟨some 40, .call ⟨.value (.func 58), #[(.tmp 37), (.tmp 38), (.tmp 39)], #[84, 22, 22]⟩, true, none⟩]) <|
 .skip) <|
 .seq (.keep [11]) <|
 .seq (.ops [⟨some 41, .move (.tmp 11), false, none⟩,
  ⟨some 8, .assign (.tmp 41), false, none⟩]) <|
 .seq (.keep [8]) <|
 .ret
theorem c27 : Try.f27.body.map (fun c => ((compile Try.prog kp27 [] kp27 c).map (·.1), fits Try.f27.ntmps c)) = some (some s27, true) := by kernel_rfl
theorem r27 : Try.f27.results.toList = [.tmp 8] := by kernel_rfl
-- (*marionette/mem.Space).Out
abbrev kp28 : List Nat := [6]
def s28 : SC :=
 .seq (.ops [⟨some 6, .assign (.const (.int .i64 0)), false, none⟩]) <|
 .seq (.keep [0, 1, 2]) <|
 .seq (.seq (.ops [⟨some 8, .move (.tmp 0), false, none⟩,
  ⟨some 9, .binOp .eql 31 (.tmp 8) (.const (.pointer none)) 31, false, none⟩]) <|
 .seq (.keep [0, 1, 2, 9]) <|
 .cond (.tmp 9) (.seq (.ops [⟨some 6, .assign (.const (.int .i64 14)), false, none⟩]) <|
 .seq (.keep [6]) <|
 .ret) <|
 .skip) <|
 .seq (.keep [0, 1, 2]) <|
 .seq (.ops [⟨some 10, .move (.tmp 0), false, none⟩,
  ⟨some 11, .move (.tmp 1), false, none⟩,
  ⟨some 12, .move (.tmp 2), false, none⟩,
  ⟨some 13, .call ⟨.builtin .len, #[(.tmp 12)], #[50]⟩, false, none⟩,
  ⟨some 14, .call ⟨.value (.func 59), #[(.tmp 10), (.tmp 11), (.tmp 13), (.const (.int .i64 2))], #[31, 22, 3, 3]⟩, true, none⟩,
  ⟨some 7, .assign (.tmp 14), false, none⟩]) <|
 .seq (.keep [0, 1, 2, 7]) <|
 .seq (.seq (.ops [⟨some 15, .move (.tmp 7), false, none⟩,
  ⟨some 16, .binOp .eql 34 (.tmp 15) (.const (.int .i64 0)) 34, false, none⟩]) <|
 .seq (.keep [0, 1, 2, 7, 16]) <|
 .cond (.tmp 16) (.ops [⟨some 17, .move (.tmp 0), false, none⟩,
  ⟨some 18, .nilCheck (.tmp 17), false, none⟩,
  ⟨some 19, .fieldAddr 87 (.tmp 18) 1, false, none⟩,
  ⟨some 20, .load 84 (.tmp 19), false, none⟩,
  ⟨some 21, .move (.tmp 1), false, none⟩,
  ⟨some 22, .move (.tmp 2), false, none⟩,
  ⟨some 23, .call ⟨.value (.func 47), #[(.tmp 20), (.tmp 21), (.tmp 22)], #[84, 22, 50]⟩, true, none⟩]) <|
 .skip) <|
 .seq (.keep [7]) <|
 .seq (.ops [⟨some 24, .move (.tmp 7), false, none⟩,
  ⟨some 6, .assign (.tmp 24), false, none⟩]) <|
 .seq (.keep [6]) <|
 .ret
theorem c28 : Try.f28.body.map (fun c => ((compile Try.prog kp28 [] kp28 c).map (·.1), fits Try.f28.ntmps c)) = some (some s28, true) := by kernel_rfl
theorem r28 : Try.f28.results.toList = [.tmp 6] := by kernel_rfl
-- marionette/marionetteref01.Get
abbrev kp29 : List Nat := [4]
def s29 : SC :=
 .seq (.ops [⟨some 4, .assign (.const (.int .u64 0)), false, none⟩]) <|
 .seq (.keep [0, 1]) <|
 .seq (.ops [⟨some 5, .assign (.const (.int .u64 0)), false, none⟩]) <|
 .seq (.keep [0, 1, 5]) <|
 .seq (.seq (.ops [⟨some 7, .move (.tmp 1), false, none⟩,
  ⟨some 8, .binOp .lss 3 (.tmp 7) (.const (.int .i64 1)) 3, false, none⟩,
  ⟨some 9, .move (.tmp 8), false, none⟩,
  ⟨some 10, .move (.tmp 1), false, some (9, false)⟩,
  ⟨some 11, .binOp .gtr 3 (.tmp 10) (.const (.int .i64 8)) 3, false, some (9, false)⟩,
  ⟨some 12, .pick (.tmp 9) (.const (.bool true)) (.tmp 11), false, none⟩]) <|
 .seq (.keep [0, 1, 5, 12]) <|
 .cond (.tmp 12) (.seq (.ops [⟨some 4, .assign (.const (.int .u64 0)), false, none⟩]) <|
 .seq (.keep [4]) <|
 .ret) <|
 .skip) <|
 .seq (.keep [0, 1, 5]) <|
 .seq (.seq (.ops [⟨some 6, .assign (.const (.int .i64 0)), false, none⟩]) <|
 .seq (.keep [0, 1, 5, 6]) <|
 .block 0 <| .loop <| .seq (.seq (.seq (.ops [⟨some 13, .move (.tmp 6), false, none⟩,
  ⟨some 14, .move (.tmp 1), false, none⟩,
  ⟨some 15, .binOp .lss 3 (.tmp 13) (.tmp 14) 3, false, none⟩,
  ⟨some 16, .move (.tmp 15), false, none⟩,
  ⟨some 17, .move (.tmp 6), false, some (16, true)⟩,
  ⟨some 18, .move (.tmp 0), false, some (16, true)⟩,
  ⟨some 19, .call ⟨.builtin .len, #[(.tmp 18)], #[50]⟩, false, some (16, true)⟩,
  ⟨some 20, .binOp .lss 3 (.tmp 17) (.tmp 19) 3, false, some (16, true)⟩,
  ⟨some 21, .pick (.tmp 16) (.tmp 20) (.const (.bool false)), false, none⟩]) <|
 .seq (.keep [0, 1, 5, 6, 21]) <|
 .cond (.tmp 21) (.skip) <|
 .exit 0) <|
 .seq (.keep [0, 1, 5, 6]) <|
 .seq (.block 1 <| .ops [⟨some 24, .move (.tmp 5), false, none⟩,
  ⟨some 25, .move (.tmp 0), false, none⟩,
  ⟨some 26, .move (.tmp 6), false, none⟩,
  ⟨some 27, .indexAddr 50 (.tmp 25) (.tmp 26), false, none⟩,
  ⟨some 28, .load 5 (.tmp 27), false, none⟩,
  ⟨some 29, .convert 5 22 (.tmp 28), false, none⟩,
  ⟨some 30, .move (.tmp 6), false, none⟩,
  ⟨some 31, .binOp .mul 3 (.const (.int .i64 8)) (.tmp 30) 3, false, none⟩,
  ⟨some 32, .convert 3 45 (.tmp 31), false, none⟩,
  ⟨some 33, .binOp .shl 22 (.tmp 29) (.tmp 32) 45, false, none⟩,
  ⟨some 34, .binOp .add 22 (.tmp 24) (.tmp 33) 22, false, none⟩,
  ⟨some 5, .assign (.tmp 34), false, none⟩]) <|
 .seq (.keep [0, 1, 5, 6]) <|
 .ops [⟨some 22, .move (.tmp 6), false, none⟩,
  ⟨some 23, .binOp .add 3 (.tmp 22) (.const (.int .i64 1)) 3, false, none⟩,
  ⟨some 6, .assign (.tmp 23), false, none⟩]) <|
 .keep [0, 1, 5, 6]) <|
 .seq (.keep [5]) <|
 .seq (.ops [⟨some 35, .move (.tmp 5), false, none⟩,
  ⟨some 4, .assign (.tmp 35), false, none⟩]) <|
 .seq (.keep [4]) <|
 .ret
theorem c29 : Try.f29.body.map (fun c => ((compile Try.prog kp29 [] kp29 c).map (·.1), fits Try.f29.ntmps c)) = some (some s29, true) := by kernel_rfl
theorem r29 : Try.f29.results.toList = [.tmp 4] := by kernel_rfl
-- marionette/marionettelaw09.spaces
abbrev kp30 : List Nat := [2, 3]
def s30 : SC :=
 .seq (.ops [⟨some 2, .assign (.const (.pointer none)), false, none⟩,
  ⟨some 3, .assign (.const (.pointer none)), false, none⟩]) <|
 .seq (.keep [0]) <|
 .seq (.ops [⟨some 8, .call ⟨.value (.func 16), #[(.const (.int .i64 10))], #[3]⟩, true, none⟩,
  ⟨some 4, .assign (.tmp 8), false, none⟩]) <|
 .seq (.keep [0, 4]) <|
 .seq (.ops [⟨some 9, .call ⟨.value (.func 60), #[(.const (.int .i64 10))], #[3]⟩, true, none⟩,
  ⟨some 5, .assign (.tmp 9), false, none⟩]) <|
 .seq (.keep [0, 4, 5]) <|
 .seq (.seq (.ops [⟨some 6, .assign (.const (.int .i64 0)), false, none⟩]) <|
 .seq (.keep [0, 4, 5, 6]) <|
 .block 0 <| .loop <| .seq (.seq (.seq (.ops [⟨some 10, .move (.tmp 6), false, none⟩,
  ⟨some 11, .binOp .lss 3 (.tmp 10) (.const (.int .i64 3)) 3, false, none⟩]) <|
 .seq (.keep [0, 4, 5, 6, 11]) <|
 .cond (.tmp 11) (.skip) <|
 .exit 0) <|
 .seq (.keep [0, 4, 5, 6]) <|
 .seq (.block 1 <| .seq (.ops [⟨some 7, .assign (.const (.int .i64 3)), false, none⟩]) <|
 .seq (.keep [0, 4, 5, 6, 7]) <|
 .seq (.seq (.ops [⟨some 14, .move (.tmp 6), false, none⟩,
  ⟨some 15, .move (.tmp 0), false, none⟩,
  ⟨some 16, .call ⟨.builtin .len, #[(.tmp 15)], #[50]⟩, false, none⟩,
  ⟨some 17, .binOp .lss 3 (.tmp 14) (.tmp 16) 3, false, none⟩]) <|
 .seq (.keep [0, 4, 5, 6, 7, 17]) <|
 .cond (.tmp 17) (.ops [⟨some 18, .move (.tmp 0), false, none⟩,
  ⟨some 19, .move (.tmp 6), false, none⟩,
  ⟨some 20, .indexAddr 50 (.tmp 18) (.tmp 19), false, none⟩,
  ⟨some 21, .load 5 (.tmp 20), false, none⟩,
  ⟨some 22, .binOp .rem 5 (.tmp 21) (.const (.int .u8 8)) 5, false, none⟩,
  ⟨some 23, .convert 5 3 (.tmp 22), false, none⟩,
  ⟨some 7, .assign (.tmp 23), false, none⟩]) <|
 .skip) <|
 .seq (.keep [0, 4, 5, 6, 7]) <|
 .seq (.ops [⟨some 24, .move (.tmp 4), false, none⟩,
  ⟨some 25, .move (.tmp 6), false, none⟩,
  ⟨some 26, .binOp .add 3 (.tmp 25) (.const (.int .i64 1)) 3, false, none⟩,
  ⟨some 27, .convert 3 22 (.tmp 26), false, none⟩,
  ⟨some 28, .binOp .mul 22 (.tmp 27) (.const (.int .u64 4096)) 22, false, none⟩,
  ⟨some 29, .move (.tmp 7), false, none⟩,
  ⟨some 30, .call ⟨.value (.func 18), #[(.tmp 24), (.tmp 28), (.const (.int .u64 4096)), (.tmp 29), (.const (.bool true))], #[31, 22, 22, 3, 4]⟩, true, none⟩]) <|
 .seq (.keep [0, 4, 5, 6, 7]) <|
 .ops [⟨some 31, .move (.tmp 5), false, none⟩,
  ⟨some 32, .move (.tmp 6), false, none⟩,
  ⟨some 33, .binOp .add 3 (.tmp 32) (.const (.int .i64 1)) 3, false, none⟩,
  ⟨some 34, .convert 3 22 (.tmp 33), false, none⟩,
  ⟨some 35, .binOp .mul 22 (.tmp 34) (.const (.int .u64 4096)) 22, false, none⟩,
  ⟨some 36, .move (.tmp 6), false, none⟩,
  ⟨some 37, .binOp .add 3 (.tmp 36) (.const (.int .i64 2)) 3, false, none⟩,
  ⟨some 38, .convert 3 22 (.tmp 37), false, none⟩,
  ⟨some 39, .binOp .mul 22 (.tmp 38) (.const (.int .u64 4096)) 22, false, none⟩,
  ⟨some 40, .move (.tmp 7), false, none⟩,
  ⟨some 41, .call ⟨.value (.func 61), #[(.tmp 31), (.tmp 35), (.tmp 39), (.tmp 40)], #[75, 22, 22, 3]⟩, true, none⟩]) <|
 .seq (.keep [0, 4, 5, 6]) <|
 .ops [⟨some 12, .move (.tmp 6), false, none⟩,
  ⟨some 13, .binOp .add 3 (.tmp 12) (.const (.int .i64 1)) 3, false, none⟩,
  ⟨some 6, .assign (.tmp 13), false, none⟩]) <|
 .keep [0, 4, 5, 6]) <|
 .seq (.keep [4, 5]) <|
 .seq (.ops [⟨some 42, .move (.tmp 4), false, none⟩,
  ⟨some 43, .move (.tmp 5), false, none⟩,
  ⟨some 44, .build 77 #[(4, (.tmp 43))], false, none⟩,
  ⟨some 45, .box 77 (.tmp 44), true, none⟩,
  ⟨some 2, .assign (.tmp 42), false, none⟩,
  ⟨some 3, .assign (.tmp 45), false, none⟩]) <|
 .seq (.keep [2, 3]) <|
 .ret
theorem c30 : Try.f30.body.map (fun c => ((compile Try.prog kp30 [] kp30 c).map (·.1), fits Try.f30.ntmps c)) = some (some s30, true) := by kernel_rfl
theorem r30 : Try.f30.results.toList = [.tmp 2, .tmp 3] := by kernel_rfl
-- marionette/atom.Step
abbrev kp31 : List Nat := [10, 11, 12]
def s31 : SC :=
 .seq (.ops [⟨some 6, .box 62 (.tmp 1), true, none⟩,
  ⟨some 10, .assign (.const (.int .u64 0)), false, none⟩,
  ⟨some 11, .alloc 62, true, none⟩,
  ⟨some 12, .alloc 64, true, none⟩]) <|
 .seq (.keep [0, 2, 3, 4, 6, 11, 12]) <|
 .seq (.ops [⟨some 19, .move (.tmp 2), false, none⟩,
  ⟨some 20, .call ⟨.value (.func 14), #[(.tmp 19)], #[3]⟩, true, none⟩,
  ⟨some 13, .assign (.tmp 20), false, none⟩]) <|
 .seq (.keep [0, 2, 3, 4, 6, 11, 12, 13]) <|
 .seq (.block 0 <| .seq (.ops [⟨some 22, .move (.tmp 13), false, none⟩,
  ⟨some 23, .binOp .eql 3 (.tmp 22) (.const (.int .i64 0)) 3, false, none⟩,
  ⟨some 21, .assign (.tmp 23), false, none⟩]) <|
 .seq (.keep [0, 2, 3, 4, 6, 11, 12, 13, 21]) <|
 .cond (.tmp 21) (.seq (.ops [⟨some 24, .build 62 #[], false, none⟩,
  ⟨some 25, .build 64 #[(0, (.const (.int .i64 3)))], false, none⟩,
  ⟨some 10, .assign (.const (.int .u64 0)), false, none⟩,
  ⟨none, .store 62 (.tmp 11) (.tmp 24), true, none⟩,
  ⟨none, .store 64 (.tmp 12) (.tmp 25), true, none⟩]) <|
 .seq (.keep [10, 11, 12]) <|
 .ret) <|
 .seq (.ops [⟨some 27, .move (.tmp 3), false, none⟩,
  ⟨some 28, .move (.tmp 13), false, none⟩,
  ⟨some 29, .convert 3 22 (.tmp 28), false, none⟩,
  ⟨some 30, .binOp .rem 22 (.tmp 27) (.tmp 29) 22, false, none⟩,
  ⟨some 31, .binOp .neq 22 (.tmp 30) (.const (.int .u64 0)) 22, false, none⟩,
  ⟨some 26, .assign (.tmp 31), false, none⟩]) <|
 .seq (.keep [0, 2, 3, 4, 6, 11, 12, 13, 26]) <|
 .cond (.tmp 26) (.seq (.ops [⟨some 32, .build 62 #[], false, none⟩,
  ⟨some 33, .move (.tmp 3), false, none⟩,
  ⟨some 34, .build 41 #[(1, (.tmp 33))], false, none⟩,
  ⟨some 35, .build 64 #[(0, (.const (.int .i64 5))), (1, (.tmp 34))], false, none⟩,
  ⟨some 10, .assign (.const (.int .u64 0)), false, none⟩,
  ⟨none, .store 62 (.tmp 11) (.tmp 32), true, none⟩,
  ⟨none, .store 64 (.tmp 12) (.tmp 35), true, none⟩]) <|
 .seq (.keep [10, 11, 12]) <|
 .ret) <|
 .seq (.ops [⟨some 37, .move (.tmp 2), false, none⟩,
  ⟨some 38, .call ⟨.value (.func 37), #[(.tmp 37)], #[3]⟩, true, none⟩,
  ⟨some 39, .binOp .eql 3 (.tmp 38) (.const (.int .i64 64)) 3, false, none⟩,
  ⟨some 36, .assign (.tmp 39), false, none⟩]) <|
 .seq (.keep [0, 2, 3, 4, 6, 11, 12, 13, 36]) <|
 .cond (.tmp 36) (.seq (.ops [⟨some 41, .move (.tmp 0), false, none⟩,
  ⟨some 42, .load 62 (.tmp 6), false, none⟩,
  ⟨some 43, .move (.tmp 3), false, none⟩,
  ⟨some 44, .move (.tmp 13), false, none⟩,
  ⟨some 45, .move (.tmp 4), false, none⟩,
  ⟨some 46, .call ⟨.value (.func 62), #[(.tmp 41), (.tmp 42), (.tmp 43), (.tmp 44), (.tmp 45)], #[31, 62, 22, 3, 22]⟩, true, none⟩,
  ⟨some 40, .move (.tmp 46), false, none⟩,
  ⟨some 47, .extract (.tmp 40) 0, false, none⟩,
  ⟨some 48, .extract (.tmp 40) 1, false, none⟩,
  ⟨some 10, .assign (.tmp 47), false, none⟩,
  ⟨none, .store 64 (.tmp 12) (.tmp 48), true, none⟩]) <|
 .seq (.keep [10, 11, 12]) <|
 .seq (.seq (.ops [⟨some 49, .move (.tmp 10), false, none⟩]) <|
 .seq (.ops [⟨some 50, .build 62 #[], false, none⟩]) <|
 .seq (.ops [⟨some 10, .assign (.tmp 49), false, none⟩]) <|
 .amb (.seq (.ops [⟨some 51, .load 64 (.tmp 12), false, none⟩]) <|
 .seq (.ops [⟨none, .store 62 (.tmp 11) (.tmp 50), true, none⟩]) <|
 .seq (.ops [⟨none, .store 64 (.tmp 12) (.tmp 51), true, none⟩]) <|
 .skip) (.seq (.ops [⟨none, .store 62 (.tmp 11) (.tmp 50), true, none⟩]) <|
 .seq (.ops [⟨some 51, .load 64 (.tmp 12), false, none⟩]) <|
 .seq (.ops [⟨none, .store 64 (.tmp 12) (.tmp 51), true, none⟩]) <|
 .skip)) <|
 .seq (.keep [10, 11, 12]) <|
 .ret) <|
 .skip) <|
 .seq (.keep [0, 2, 3, 4, 6, 11, 12, 13]) <|
 .seq (.ops [⟨some 53, .move (.tmp 0), false, none⟩,
  ⟨some 54, .move (.tmp 3), false, none⟩,
  ⟨some 55, .move (.tmp 13), false, none⟩,
  ⟨some 56, .call ⟨.value (.func 22), #[(.tmp 53), (.tmp 54), (.tmp 55)], #[31, 22, 3]⟩, true, none⟩,
  ⟨some 52, .move (.tmp 56), false, none⟩,
  ⟨some 57, .extract (.tmp 52) 0, false, none⟩,
  ⟨some 58, .extract (.tmp 52) 1, false, none⟩,
  ⟨some 15, .alloc 41, true, none⟩,
  ⟨some 14, .assign (.tmp 57), false, none⟩,
  ⟨none, .store 41 (.tmp 15) (.tmp 58), true, none⟩]) <|
 .seq (.keep [0, 2, 3, 4, 6, 11, 12, 13, 14, 15]) <|
 .seq (.seq (.ops [⟨some 59, .fieldAddr 41 (.tmp 15) 0, false, none⟩,
  ⟨some 60, .load 3 (.tmp 59), false, none⟩,
  ⟨some 61, .binOp .neq 3 (.tmp 60) (.const (.int .i64 0)) 3, false, none⟩]) <|
 .seq (.keep [0, 2, 3, 4, 6, 11, 12, 13, 14, 15, 61]) <|
 .cond (.tmp 61) (.seq (.ops [⟨some 62, .build 62 #[], false, none⟩,
  ⟨some 63, .load 41 (.tmp 15), false, none⟩,
  ⟨some 64, .call ⟨.value (.func 63), #[(.tmp 63)], #[41]⟩, true, none⟩,
  ⟨some 10, .assign (.const (.int .u64 0)), false, none⟩,
  ⟨none, .store 62 (.tmp 11) (.tmp 62), true, none⟩,
  ⟨none, .store 64 (.tmp 12) (.tmp 64), true, none⟩]) <|
 .seq (.keep [10, 11, 12]) <|
 .ret) <|
 .skip) <|
 .seq (.keep [0, 2, 3, 4, 6, 11, 12, 13, 14]) <|
 .seq (.ops [⟨some 65, .move (.tmp 14), false, none⟩,
  ⟨some 66, .move (.tmp 13), false, none⟩,
  ⟨some 67, .binOp .mul 3 (.const (.int .i64 8)) (.tmp 66) 3, false, none⟩,
  ⟨some 68, .call ⟨.value (.func 36), #[(.tmp 65), (.tmp 67)], #[22, 3]⟩, true, none⟩,
  ⟨some 10, .assign (.tmp 68), false, none⟩]) <|
 .seq (.keep [0, 2, 3, 4, 6, 10, 11, 12, 13, 14]) <|
 .seq (.seq (.ops [⟨some 69, .move (.tmp 2), false, none⟩,
  ⟨some 70, .call ⟨.value (.func 37), #[(.tmp 69)], #[3]⟩, true, none⟩,
  ⟨some 71, .binOp .eql 3 (.tmp 70) (.const (.int .i64 63)) 3, false, none⟩]) <|
 .seq (.keep [0, 2, 3, 4, 6, 10, 11, 12, 13, 14, 71]) <|
 .cond (.tmp 71) (.seq (.ops [⟨some 72, .move (.tmp 10), false, none⟩,
  ⟨some 73, .move (.tmp 3), false, none⟩,
  ⟨some 74, .move (.tmp 13), false, none⟩,
  ⟨some 75, .build 62 #[(0, (.tmp 73)), (1, (.tmp 74))], false, none⟩,
  ⟨some 76, .build 64 #[], false, none⟩,
  ⟨some 10, .assign (.tmp 72), false, none⟩,
  ⟨none, .store 62 (.tmp 11) (.tmp 75), true, none⟩,
  ⟨none, .store 64 (.tmp 12) (.tmp 76), true, none⟩]) <|
 .seq (.keep [10, 11, 12]) <|
 .ret) <|
 .skip) <|
 .seq (.keep [0, 2, 3, 4, 6, 10, 11, 12, 13, 14]) <|
 .seq (.ops [⟨some 78, .move (.tmp 2), false, none⟩,
  ⟨some 79, .move (.tmp 14), false, none⟩,
  ⟨some 80, .move (.tmp 4), false, none⟩,
  ⟨some 81, .call ⟨.value (.func 11), #[(.tmp 78), (.tmp 79), (.tmp 80)], #[3, 22, 22]⟩, true, none⟩,
  ⟨some 77, .move (.tmp 81), false, none⟩,
  ⟨some 82, .extract (.tmp 77) 0, false, none⟩,
  ⟨some 83, .extract (.tmp 77) 1, false, none⟩,
  ⟨some 16, .assign (.tmp 82), false, none⟩,
  ⟨some 17, .assign (.tmp 83), false, none⟩]) <|
 .seq (.keep [0, 3, 6, 10, 11, 12, 13, 16]) <|
 .seq (.seq (.ops [⟨some 84, .move (.tmp 0), false, none⟩,
  ⟨some 85, .move (.tmp 3), false, none⟩,
  ⟨some 86, .move (.tmp 13), false, none⟩,
  ⟨some 87, .move (.tmp 16), false, none⟩,
  ⟨some 88, .call ⟨.value (.func 21), #[(.tmp 84), (.tmp 85), (.tmp 86), (.tmp 87)], #[31, 22, 3, 22]⟩, true, none⟩,
  ⟨some 18, .alloc 41, true, none⟩,
  ⟨none, .store 41 (.tmp 18) (.tmp 88), true, none⟩]) <|
 .seq (.keep [6, 10, 11, 12, 18]) <|
 .seq (.ops [⟨some 89, .fieldAddr 41 (.tmp 18) 0, false, none⟩,
  ⟨some 90, .load 3 (.tmp 89), false, none⟩,
  ⟨some 91, .binOp .neq 3 (.tmp 90) (.const (.int .i64 0)) 3, false, none⟩]) <|
 .seq (.keep [6, 10, 11, 12, 18, 91]) <|
 .cond (.tmp 91) (.seq (.ops [⟨some 92, .build 62 #[], false, none⟩,
  ⟨some 93, .load 41 (.tmp 18), false, none⟩,
  ⟨some 94, .call ⟨.value (.func 63), #[(.tmp 93)], #[41]⟩, true, none⟩,
  ⟨some 10, .assign (.const (.int .u64 0)), false, none⟩,
  ⟨none, .store 62 (.tmp 11) (.tmp 92), true, none⟩,
  ⟨none, .store 64 (.tmp 12) (.tmp 94), true, none⟩]) <|
 .seq (.keep [10, 11, 12]) <|
 .ret) <|
 .skip) <|
 .seq (.keep [6, 10, 11, 12]) <|
 .seq (.seq (.ops [⟨some 95, .move (.tmp 10), false, none⟩]) <|
 .seq (.ops [⟨some 96, .load 62 (.tmp 6), false, none⟩]) <|
 .seq (.ops [⟨some 97, .build 64 #[], false, none⟩]) <|
 .seq (.ops [⟨some 10, .assign (.tmp 95), false, none⟩]) <|
 .seq (.ops [⟨none, .store 62 (.tmp 11) (.tmp 96), true, none⟩]) <|
 .seq (.ops [⟨none, .store 64 (.tmp 12) (.tmp 97), true, none⟩]) <|
 .skip) <|
 .seq (.keep [10, 11, 12]) <|
 .ret
theorem c31 : Try.f31.body.map (fun c => ((compile Try.prog kp31 [] kp31 c).map (·.1), fits Try.f31.ntmps c)) = some (some s31, true) := by kernel_rfl
theorem r31 : Try.f31.results.toList = [.tmp 10, .cell 11 62, .cell 12 64] := by kernel_rfl
-- marionette/marionetteref01.Sext
abbrev kp32 : List Nat := [4]
def s32 : SC :=
 .seq (.ops [⟨some 4, .assign (.const (.int .u64 0)), false, none⟩]) <|
 .seq (.keep [0, 1]) <|
 .seq (.seq (.ops [⟨some 8, .move (.tmp 1), false, none⟩,
  ⟨some 9, .binOp .lss 3 (.tmp 8) (.const (.int .i64 1)) 3, false, none⟩,
  ⟨some 10, .move (.tmp 9), false, none⟩,
  ⟨some 11, .move (.tmp 1), false, some (10, false)⟩,
  ⟨some 12, .binOp .gtr 3 (.tmp 11) (.const (.int .i64 64)) 3, false, some (10, false)⟩,
  ⟨some 13, .pick (.tmp 10) (.const (.bool true)) (.tmp 12), false, none⟩]) <|
 .seq (.keep [0, 1, 13]) <|
 .cond (.tmp 13) (.seq (.ops [⟨some 14, .move (.tmp 0), false, none⟩,
  ⟨some 4, .assign (.tmp 14), false, none⟩]) <|
 .seq (.keep [4]) <|
 .ret) <|
 .skip) <|
 .seq (.keep [0, 1]) <|
 .seq (.ops [⟨some 5, .assign (.const (.int .u64 0)), false, none⟩]) <|
 .seq (.keep [0, 1, 5]) <|
 .seq (.seq (.ops [⟨some 6, .assign (.const (.int .i64 0)), false, none⟩]) <|
 .seq (.keep [0, 1, 5, 6]) <|
 .block 0 <| .loop <| .seq (.seq (.seq (.ops [⟨some 15, .move (.tmp 6), false, none⟩,
  ⟨some 16, .binOp .lss 3 (.tmp 15) (.const (.int .i64 64)) 3, false, none⟩]) <|
 .seq (.keep [0, 1, 5, 6, 16]) <|
 .cond (.tmp 16) (.skip) <|
 .exit 0) <|
 .seq (.keep [0, 1, 5, 6]) <|
 .seq (.block 1 <| .seq (.ops [⟨some 19, .move (.tmp 6), false, none⟩,
  ⟨some 7, .assign (.tmp 19), false, none⟩]) <|
 .seq (.keep [0, 1, 5, 6, 7]) <|
 .seq (.seq (.ops [⟨some 20, .move (.tmp 7), false, none⟩,
  ⟨some 21, .move (.tmp 1), false, none⟩,
  ⟨some 22, .binOp .sub 3 (.tmp 21) (.const (.int .i64 1)) 3, false, none⟩,
  ⟨some 23, .binOp .gtr 3 (.tmp 20) (.tmp 22) 3, false, none⟩]) <|
 .seq (.keep [0, 1, 5, 6, 7, 23]) <|
 .cond (.tmp 23) (.ops [⟨some 24, .move (.tmp 1), false, none⟩,
  ⟨some 25, .binOp .sub 3 (.tmp 24) (.const (.int .i64 1)) 3, false, none⟩,
  ⟨some 7, .assign (.tmp 25), false, none⟩]) <|
 .skip) <|
 .seq (.keep [0, 1, 5, 6, 7]) <|
 .ops [⟨some 26, .move (.tmp 5), false, none⟩,
  ⟨some 27, .move (.tmp 0), false, none⟩,
  ⟨some 28, .move (.tmp 7), false, none⟩,
  ⟨some 29, .call ⟨.value (.func 64), #[(.tmp 27), (.tmp 28)], #[22, 3]⟩, true, none⟩,
  ⟨some 30, .move (.tmp 6), false, none⟩,
  ⟨some 31, .convert 3 45 (.tmp 30), false, none⟩,
  ⟨some 32, .binOp .shl 22 (.tmp 29) (.tmp 31) 45, false, none⟩,
  ⟨some 33, .binOp .or 22 (.tmp 26) (.tmp 32) 22, false, none⟩,
  ⟨some 5, .assign (.tmp 33), false, none⟩]) <|
 .seq (.keep [0, 1, 5, 6]) <|
 .ops [⟨some 17, .move (.tmp 6), false, none⟩,
  ⟨some 18, .binOp .add 3 (.tmp 17) (.const (.int .i64 1)) 3, false, none⟩,
  ⟨some 6, .assign (.tmp 18), false, none⟩]) <|
 .keep [0, 1, 5, 6]) <|
 .seq (.keep [5]) <|
 .seq (.ops [⟨some 34, .move (.tmp 5), false, none⟩,
  ⟨some 4, .assign (.tmp 34), false, none⟩]) <|
 .seq (.keep [4]) <|
 .ret
theorem c32 : Try.f32.body.map (fun c => ((compile Try.prog kp32 [] kp32 c).map (·.1), fits Try.f32.ntmps c)) = some (some s32, true) := by kernel_rfl
theorem r32 : Try.f32.results.toList = [.tmp 4] := by kernel_rfl
-- (*marionette/marionetteref09.Hart).Atomic
abbrev kp33 : List Nat := [8, 9]
def s33 : SC :=
 .seq (.ops [⟨some 8, .assign (.const (.int .u64 0)), false, none⟩,
  ⟨some 9, .alloc 64, true, none⟩]) <|
 .seq (.keep [0, 1, 2, 3, 9]) <|
 .seq (.ops [⟨some 18, .move (.tmp 1), false, none⟩,
  ⟨some 19, .call ⟨.value (.func 15), #[(.tmp 18)], #[3]⟩, true, none⟩,
  ⟨some 10, .assign (.tmp 19), false, none⟩]) <|
 .seq (.keep [0, 1, 2, 3, 9, 10]) <|
 .seq (.ops [⟨some 20, .move (.tmp 0), false, none⟩,
  ⟨some 21, .nilCheck (.tmp 20), false, none⟩,
  ⟨some 22, .fieldAddr 77 (.tmp 21) 2, false, none⟩,
  ⟨some 23, .load 22 (.tmp 22), false, none⟩,
  ⟨some 11, .assign (.tmp 23), false, none⟩]) <|
 .seq (.keep [0, 1, 2, 3, 9, 10, 11]) <|
 .seq (.ops [⟨some 24, .move (.tmp 0), false, none⟩,
  ⟨some 25, .nilCheck (.tmp 24), false, none⟩,
  ⟨some 26, .fieldAddr 77 (.tmp 25) 3, false, none⟩,
  ⟨some 27, .load 3 (.tmp 26), false, none⟩,
  ⟨some 12, .assign (.tmp 27), false, none⟩]) <|
 .seq (.keep [0, 1, 2, 3, 9, 10, 11, 12]) <|
 .seq (.ops [⟨some 28, .move (.tmp 0), false, none⟩,
  ⟨some 29, .nilCheck (.tmp 28), false, none⟩,
  ⟨some 30, .fieldAddr 77 (.tmp 29) 3, false, none⟩,
  ⟨none, .store 3 (.tmp 30) (.const (.int .i64 0)), true, none⟩]) <|
 .seq (.keep [0, 1, 2, 3, 9, 10, 11, 12]) <|
 .seq (.ops [⟨some 31, .move (.tmp 0), false, none⟩,
  ⟨some 32, .nilCheck (.tmp 31), false, none⟩,
  ⟨some 33, .fieldAddr 77 (.tmp 32) 2, false, none⟩,
  ⟨none, .store 22 (.tmp 33) (.const (.int .u64 0)), true, none⟩]) <|
 .seq (.keep [0, 1, 2, 3, 9, 10, 11, 12]) <|
 .seq (.seq (.ops [⟨some 34, .move (.tmp 10), false, none⟩,
  ⟨some 35, .binOp .eql 3 (.tmp 34) (.const (.int .i64 0)) 3, false, none⟩]) <|
 .seq (.keep [0, 1, 2, 3, 9, 10, 11, 12, 35]) <|
 .cond (.tmp 35) (.seq (.ops [⟨some 36, .build 64 #[(0, (.const (.int .i64 3)))], false, none⟩,
  ⟨some 8, .assign (.const (.int .u64 0)), false, none⟩,
  ⟨none, .store 64 (.tmp 9) (.tmp 36), true, none⟩]) <|
 .seq (.keep [8, 9]) <|
 .ret) <|
 .skip) <|
 .seq (.keep [0, 1, 2, 3, 9, 10, 11, 12]) <|
 .seq (.seq (.ops [⟨some 37, .move (.tmp 2), false, none⟩,
  ⟨some 38, .move (.tmp 10), false, none⟩,
  ⟨some 39, .convert 3 22 (.tmp 38), false, none⟩,
  ⟨some 40, .binOp .rem 22 (.tmp 37) (.tmp 39) 22, false, none⟩,
  ⟨some 41, .binOp .neq 22 (.tmp 40) (.const (.int .u64 0)) 22, false, none⟩]) <|
 .seq (.keep [0, 1, 2, 3, 9, 10, 11, 12, 41]) <|
 .cond (.tmp 41) (.seq (.ops [⟨some 42, .move (.tmp 2), false, none⟩,
  ⟨some 43, .build 41 #[(1, (.tmp 42))], false, none⟩,
  ⟨some 44, .build 64 #[(0, (.const (.int .i64 5))), (1, (.tmp 43))], false, none⟩,
  ⟨some 8, .assign (.const (.int .u64 0)), false, none⟩,
  ⟨none, .store 64 (.tmp 9) (.tmp 44), true, none⟩]) <|
 .seq (.keep [8, 9]) <|
 .ret) <|
 .skip) <|
 .seq (.keep [0, 1, 2, 3, 9, 10, 11, 12]) <|
 .seq (.seq (.ops [⟨some 45, .move (.tmp 1), false, none⟩,
  ⟨some 46, .binOp .eql 3 (.tmp 45) (.const (.int .i64 64)) 3, false, none⟩,
  ⟨some 47, .move (.tmp 46), false, none⟩,
  ⟨some 48, .move (.tmp 1), false, some (47, false)⟩,
  ⟨some 49, .binOp .eql 3 (.tmp 48) (.const (.int .i64 75)) 3, false, some (47, false)⟩,
  ⟨some 50, .pick (.tmp 47) (.const (.bool true)) (.tmp 49), false, none⟩]) <|
 .seq (.keep [0, 1, 2, 3, 9, 10, 11, 12, 50]) <|
 .cond (.tmp 50) (.seq (.ops [⟨some 51, .move (.tmp 0), false, none⟩,
  ⟨some 52, .nilCheck (.tmp 51), false, none⟩,
  ⟨some 53, .fieldAddr 77 (.tmp 52) 4, false, none⟩,
  ⟨some 54, .load 75 (.tmp 53), false, none⟩,
  ⟨some 55, .move (.tmp 2), false, none⟩,
  ⟨some 56, .move (.tmp 10), false, none⟩,
  ⟨some 57, .call ⟨.value (.func 65), #[(.tmp 54), (.tmp 55), (.tmp 56)], #[75, 22, 3]⟩, true, none⟩,
  ⟨some 13, .alloc 41, true, none⟩,
  ⟨none, .store 41 (.tmp 13) (.tmp 57), true, none⟩]) <|
 .seq (.keep [0, 2, 3, 9, 10, 11, 12, 13]) <|
 .seq (.seq (.ops [⟨some 58, .fieldAddr 41 (.tmp 13) 0, false, none⟩,
  ⟨some 59, .load 3 (.tmp 58), false, none⟩,
  ⟨some 60, .binOp .neq 3 (.tmp 59) (.const (.int .i64 0)) 3, false, none⟩]) <|
 .seq (.keep [0, 2, 3, 9, 10, 11, 12, 13, 60]) <|
 .cond (.tmp 60) (.seq (.seq (.ops [⟨some 61, .load 41 (.tmp 13), false, none⟩]) <|
 .seq (.ops [⟨some 62, .build 64 #[(0, (.const (.int .i64 4))), (1, (.tmp 61))], false, none⟩]) <|
 .seq (.ops [⟨some 8, .assign (.const (.int .u64 0)), false, none⟩]) <|
 .seq (.ops [⟨none, .store 64 (.tmp 9) (.tmp 62), true, none⟩]) <|
 .skip) <|
 .seq (.keep [8, 9]) <|
 .ret) <|
 .skip) <|
 .seq (.keep [0, 2, 3, 9, 10, 11, 12]) <|
 .seq (.seq (.ops [⟨some 63, .move (.tmp 12), false, none⟩,
  ⟨some 64, .move (.tmp 10), false, none⟩,
  ⟨some 65, .binOp .neq 3 (.tmp 63) (.tmp 64) 3, false, none⟩,
  ⟨some 66, .move (.tmp 65), false, none⟩,
  ⟨some 67, .move (.tmp 11), false, some (66, false)⟩,
  ⟨some 68, .move (.tmp 2), false, some (66, false)⟩,
  ⟨some 69, .binOp .neq 22 (.tmp 67) (.tmp 68) 22, false, some (66, false)⟩,
  ⟨some 70, .pick (.tmp 66) (.const (.bool true)) (.tmp 69), false, none⟩]) <|
 .seq (.keep [0, 2, 3, 9, 10, 70]) <|
 .cond (.tmp 70) (.seq (.ops [⟨some 71, .build 64 #[], false, none⟩,
  ⟨some 8, .assign (.const (.int .u64 1)), false, none⟩,
  ⟨none, .store 64 (.tmp 9) (.tmp 71), true, none⟩]) <|
 .seq (.keep [8, 9]) <|
 .ret) <|
 .skip) <|
 .seq (.keep [0, 2, 3, 9, 10]) <|
 .seq (.ops [⟨some 72, .move (.tmp 0), false, none⟩,
  ⟨some 73, .nilCheck (.tmp 72), false, none⟩,
  ⟨some 74, .fieldAddr 77 (.tmp 73) 4, false, none⟩,
  ⟨some 75, .load 75 (.tmp 74), false, none⟩,
  ⟨some 76, .move (.tmp 2), false, none⟩,
  ⟨some 77, .move (.tmp 10), false, none⟩,
  ⟨some 78, .move (.tmp 3), false, none⟩,
  ⟨some 79, .call ⟨.value (.func 66), #[(.tmp 75), (.tmp 76), (.tmp 77), (.tmp 78)], #[75, 22, 3, 22]⟩, true, none⟩]) <|
 .seq (.keep [9]) <|
 .seq (.ops [⟨some 80, .build 64 #[], false, none⟩,
  ⟨some 8, .assign (.const (.int .u64 0)), false, none⟩,
  ⟨none, .store 64 (.tmp 9) (.tmp 80), true, none⟩]) <|
 .seq (.keep [8, 9]) <|
 .ret) <|
 .skip) <|
 .seq (.keep [0, 1, 2, 3, 9, 10, 11, 12]) <|
 .seq (.ops [⟨some 82, .move (.tmp 0), false, none⟩,
  ⟨some 83, .nilCheck (.tmp 82), false, none⟩,
  ⟨some 84, .fieldAddr 77 (.tmp 83) 4, false, none⟩,
  ⟨some 85, .load 75 (.tmp 84), false, none⟩,
  ⟨some 86, .move (.tmp 2), false, none⟩,
  ⟨some 87, .move (.tmp 10), false, none⟩,
  ⟨some 88, .call ⟨.value (.func 67), #[(.tmp 85), (.tmp 86), (.tmp 87)], #[75, 22, 3]⟩, true, none⟩,
  ⟨some 81, .move (.tmp 88), false, none⟩,
  ⟨some 89, .extract (.tmp 81) 0, false, none⟩,
  ⟨some 90, .extract (.tmp 81) 1, false, none⟩,
  ⟨some 15, .alloc 41, true, none⟩,
  ⟨some 14, .assign (.tmp 89), false, none⟩,
  ⟨none, .store 41 (.tmp 15) (.tmp 90), true, none⟩]) <|
 .seq (.keep [0, 1, 2, 3, 9, 10, 11, 12, 14, 15]) <|
 .seq (.seq (.ops [⟨some 91, .fieldAddr 41 (.tmp 15) 0, false, none⟩,
  ⟨some 92, .load 3 (.tmp 91), false, none⟩,
  ⟨some 93, .binOp .neq 3 (.tmp 92) (.const (.int .i64 0)) 3, false, none⟩]) <|
 .seq (.keep [0, 1, 2, 3, 9, 10, 11, 12, 14, 15, 93]) <|
 .cond (.tmp 93) (.seq (.seq (.ops [⟨some 94, .load 41 (.tmp 15), false, none⟩]) <|
 .seq (.ops [⟨some 95, .build 64 #[(0, (.const (.int .i64 4))), (1, (.tmp 94))], false, none⟩]) <|
 .seq (.ops [⟨some 8, .assign (.const (.int .u64 0)), false, none⟩]) <|
 .seq (.ops [⟨none, .store 64 (.tmp 9) (.tmp 95), true, none⟩]) <|
 .skip) <|
 .seq (.keep [8, 9]) <|
 .ret) <|
 .skip) <|
 .seq (.keep [0, 1, 2, 3, 9, 10, 11, 12, 14, 15]) <|
 .seq (.seq (.ops [⟨some 96, .move (.tmp 1), false, none⟩,
  ⟨some 97, .binOp .eql 3 (.tmp 96) (.const (.int .i64 63)) 3, false, none⟩,
  ⟨some 98, .move (.tmp 97), false, none⟩,
  ⟨some 99, .move (.tmp 1), false, some (98, false)⟩,
  ⟨some 100, .binOp .eql 3 (.tmp 99) (.const (.int .i64 74)) 3, false, some (98, false)⟩,
  ⟨some 101, .pick (.tmp 98) (.const (.bool true)) (.tmp 100), false, none⟩]) <|
 .seq (.keep [0, 1, 2, 3, 9, 10, 11, 12, 14, 15, 101]) <|
 .cond (.tmp 101) (.seq (.ops [⟨some 102, .move (.tmp 0), false, none⟩,
  ⟨some 103, .move (.tmp 2), false, none⟩,
  ⟨some 104, .nilCheck (.tmp 102), false, none⟩,
  ⟨some 105, .fieldAddr 77 (.tmp 104) 2, false, none⟩,
  ⟨none, .store 22 (.tmp 105) (.tmp 103), true, none⟩]) <|
 .seq (.keep [0, 9, 10, 14]) <|
 .seq (.ops [⟨some 106, .move (.tmp 0), false, none⟩,
  ⟨some 107, .move (.tmp 10), false, none⟩,
  ⟨some 108, .nilCheck (.tmp 106), false, none⟩,
  ⟨some 109, .fieldAddr 77 (.tmp 108) 3, false, none⟩,
  ⟨none, .store 3 (.tmp 109) (.tmp 107), true, none⟩]) <|
 .seq (.keep [9, 10, 14]) <|
 .seq (.ops [⟨some 110, .move (.tmp 14), false, none⟩,
  ⟨some 111, .move (.tmp 10), false, none⟩,
  ⟨some 112, .binOp .mul 3 (.const (.int .i64 8)) (.tmp 111) 3, false, none⟩,
  ⟨some 113, .call ⟨.value (.func 32), #[(.tmp 110), (.tmp 112)], #[22, 3]⟩, true, none⟩,
  ⟨some 114, .build 64 #[], false, none⟩,
  ⟨some 8, .assign (.tmp 113), false, none⟩,
  ⟨none, .store 64 (.tmp 9) (.tmp 114), true, none⟩]) <|
 .seq (.keep [8, 9]) <|
 .ret) <|
 .skip) <|
 .seq (.keep [0, 1, 2, 3, 9, 10, 11, 12, 14, 15]) <|
 .seq (.ops [⟨some 116, .move (.tmp 1), false, none⟩,
  ⟨some 117, .move (.tmp 14), false, none⟩,
  ⟨some 118, .move (.tmp 3), false, none⟩,
  ⟨some 119, .call ⟨.value (.func 12), #[(.tmp 116), (.tmp 117), (.tmp 118)], #[3, 22, 22]⟩, true, none⟩,
  ⟨some 115, .move (.tmp 119), false, none⟩,
  ⟨some 120, .extract (.tmp 115) 0, false, none⟩,
  ⟨some 121, .extract (.tmp 115) 1, false, none⟩,
  ⟨some 16, .assign (.tmp 120), false, none⟩,
  ⟨some 17, .assign (.tmp 121), false, none⟩]) <|
 .seq (.keep [0, 2, 9, 10, 11, 12, 14, 15, 16]) <|
 .seq (.ops [⟨some 122, .move (.tmp 0), false, none⟩,
  ⟨some 123, .nilCheck (.tmp 122), false, none⟩,
  ⟨some 124, .fieldAddr 77 (.tmp 123) 4, false, none⟩,
  ⟨some 125, .load 75 (.tmp 124), false, none⟩,
  ⟨some 126, .move (.tmp 2), false, none⟩,
  ⟨some 127, .move (.tmp 10), false, none⟩,
  ⟨some 128, .move (.tmp 16), false, none⟩,
  ⟨some 129, .call ⟨.value (.func 66), #[(.tmp 125), (.tmp 126), (.tmp 127), (.tmp 128)], #[75, 22, 3, 22]⟩, true, none⟩,
  ⟨none, .store 41 (.tmp 15) (.tmp 129), true, none⟩]) <|
 .seq (.keep [0, 9, 10, 11, 12, 14, 15]) <|
 .seq (.seq (.ops [⟨some 130, .fieldAddr 41 (.tmp 15) 0, false, none⟩,
  ⟨some 131, .load 3 (.tmp 130), false, none⟩,
  ⟨some 132, .binOp .neq 3 (.tmp 131) (.const (.int .i64 0)) 3, false, none⟩]) <|
 .seq (.keep [0, 9, 10, 11, 12, 14, 15, 132]) <|
 .cond (.tmp 132) (.seq (.seq (.ops [⟨some 133, .load 41 (.tmp 15), false, none⟩]) <|
 .seq (.ops [⟨some 134, .build 64 #[(0, (.const (.int .i64 4))), (1, (.tmp 133))], false, none⟩]) <|
 .seq (.ops [⟨some 8, .assign (.const (.int .u64 0)), false, none⟩]) <|
 .seq (.ops [⟨none, .store 64 (.tmp 9) (.tmp 134), true, none⟩]) <|
 .skip) <|
 .seq (.keep [8, 9]) <|
 .ret) <|
 .skip) <|
 .seq (.keep [0, 9, 10, 11, 12, 14]) <|
 .seq (.ops [⟨some 135, .move (.tmp 0), false, none⟩,
  ⟨some 136, .move (.tmp 11), false, none⟩,
  ⟨some 137, .nilCheck (.tmp 135), false, none⟩,
  ⟨some 138, .fieldAddr 77 (.tmp 137) 2, false, none⟩,
  ⟨none, .store 22 (.tmp 138) (.tmp 136), true, none⟩]) <|
 .seq (.keep [0, 9, 10, 12, 14]) <|
 .seq (.ops [⟨some 139, .move (.tmp 0), false, none⟩,
  ⟨some 140, .move (.tmp 12), false, none⟩,
  ⟨some 141, .nilCheck (.tmp 139), false, none⟩,
  ⟨some 142, .fieldAddr 77 (.tmp 141) 3, false, none⟩,
  ⟨none, .store 3 (.tmp 142) (.tmp 140), true, none⟩]) <|
 .seq (.keep [9, 10, 14]) <|
 .seq (.ops [⟨some 143, .move (.tmp 14), false, none⟩,
  ⟨some 144, .move (.tmp 10), false, none⟩,
  ⟨some 145, .binOp .mul 3 (.const (.int .i64 8)) (.tmp 144) 3, false, none⟩,
  ⟨some 146, .call ⟨.value (.func 32), #[(.tmp 143), (.tmp 145)], #[22, 3]⟩, true, none⟩,
  ⟨some 147, .build 64 #[], false, none⟩,
  ⟨some 8, .assign (.tmp 146), false, none⟩,
  ⟨none, .store 64 (.tmp 9) (.tmp 147), true, none⟩]) <|
 .seq (.keep [8, 9]) <|
 .ret
theorem c33 : Try.f33.body.map (fun c => ((compile Try.prog kp33 [] kp33 c).map (·.1), fits Try.f33.ntmps c)) = some (some s33, true) := by kernel_rfl
theorem r33 : Try.f33.results.toList = [.tmp 8, .cell 9 64] := by kernel_rfl
-- marionette/marionetteref01.Same
abbrev kp34 : List Nat := [4]
def s34 : SC :=
 .seq (.ops [⟨some 4, .assign (.const (.bool false)), false, none⟩]) <|
 .seq (.keep [0, 1]) <|
 .seq (.seq (.ops [⟨some 6, .move (.tmp 0), false, none⟩,
  ⟨some 7, .call ⟨.builtin .len, #[(.tmp 6)], #[50]⟩, false, none⟩,
  ⟨some 8, .move (.tmp 1), false, none⟩,
  ⟨some 9, .call ⟨.builtin .len, #[(.tmp 8)], #[50]⟩, false, none⟩,
  ⟨some 10, .binOp .neq 3 (.tmp 7) (.tmp 9) 3, false, none⟩]) <|
 .seq (.keep [0, 1, 10]) <|
 .cond (.tmp 10) (.seq (.ops [⟨some 4, .assign (.const (.bool false)), false, none⟩]) <|
 .seq (.keep [4]) <|
 .ret) <|
 .skip) <|
 .seq (.keep [0, 1]) <|
 .seq (.seq (.ops [⟨some 5, .assign (.const (.int .i64 0)), false, none⟩]) <|
 .seq (.keep [0, 1, 5]) <|
 .block 0 <| .loop <| .seq (.seq (.seq (.ops [⟨some 11, .move (.tmp 5), false, none⟩,
  ⟨some 12, .move (.tmp 0), false, none⟩,
  ⟨some 13, .call ⟨.builtin .len, #[(.tmp 12)], #[50]⟩, false, none⟩,
  ⟨some 14, .binOp .lss 3 (.tmp 11) (.tmp 13) 3, false, none⟩]) <|
 .seq (.keep [0, 1, 5, 14]) <|
 .cond (.tmp 14) (.skip) <|
 .exit 0) <|
 .seq (.keep [0, 1, 5]) <|
 .seq (.block 1 <| .seq (.seq (.ops [⟨some 17, .move (.tmp 0), false, none⟩]) <|
 .seq (.ops [⟨some 18, .move (.tmp 5), false, none⟩]) <|
 .seq (.ops [⟨some 19, .indexAddr 50 (.tmp 17) (.tmp 18), false, none⟩]) <|
 .seq (.ops [⟨some 20, .load 5 (.tmp 19), false, none⟩]) <|
 .seq (.ops [⟨some 21, .move (.tmp 1), false, none⟩]) <|
 .seq (.ops [⟨some 22, .move (.tmp 5), false, none⟩]) <|
 .seq (.ops [⟨some 23, .indexAddr 50 (.tmp 21) (.tmp 22), false, none⟩]) <|
 .seq (.ops [⟨some 24, .load 5 (.tmp 23), false, none⟩]) <|
 .seq (.ops [⟨some 25, .binOp .neq 5 (.tmp 20) (.tmp 24) 5, false, none⟩]) <|
 .skip) <|
 .seq (.keep [0, 1, 5, 25]) <|
 .cond (.tmp 25) (.seq (.ops [⟨some 4, .assign (.const (.bool false)), false, none⟩]) <|
 .seq (.keep [4]) <|
 .ret) <|
 .skip) <|
 .seq (.keep [0, 1, 5]) <|
 .ops [⟨some 15, .move (.tmp 5), false, none⟩,
  ⟨some 16, .binOp .add 3 (.tmp 15) (.const (.int .i64 1)) 3, false, none⟩,
  ⟨some 5, .assign (.tmp 16), false, none⟩]) <|
 .keep [0, 1, 5]) <|
 .seq (.keep []) <|
 .seq (.ops [⟨some 4, .assign (.const (.bool true)), false, none⟩]) <|
 .seq (.keep [4]) <|
 .ret
theorem c34 : Try.f34.body.map (fun c => ((compile Try.prog kp34 [] kp34 c).map (·.1), fits Try.f34.ntmps c)) = some (some s34, true) := by kernel_rfl
theorem r34 : Try.f34.results.toList = [.tmp 4] := by kernel_rfl
-- (*marionette/marionetteref06.Space).Bytes
abbrev kp35 : List Nat := [6]
def s35 : SC :=
 .seq (.ops [⟨some 6, .assign (.const (.slice none 0 0)), false, none⟩]) <|
 .seq (.keep [0, 1, 2]) <|
 .seq (.ops [⟨some 7, .assign (.const (.slice none 0 0)), false, none⟩]) <|
 .seq (.keep [0, 1, 2, 7]) <|
 .seq (.seq (.ops [⟨some 8, .assign (.const (.int .i64 0)), false, none⟩]) <|
 .seq (.keep [0, 1, 2, 7, 8]) <|
 .block 0 <| .loop <| .seq (.seq (.seq (.ops [⟨some 9, .move (.tmp 8), false, none⟩,
  ⟨some 10, .move (.tmp 2), false, none⟩,
  ⟨some 11, .binOp .lss 3 (.tmp 9) (.tmp 10) 3, false, none⟩]) <|
 .seq (.keep [0, 1, 2, 7, 8, 11]) <|
 .cond (.tmp 11) (.skip) <|
 .exit 0) <|
 .seq (.keep [0, 1, 2, 7, 8]) <|
 .seq (.block 1 <| .ops [⟨some 14, .move (.tmp 7), false, none⟩,
  ⟨some 15, .move (.tmp 0), false, none⟩,
  ⟨some 16, .move (.tmp 1), false, none⟩,
  ⟨some 17, .move (.tmp 8), false, none⟩,
  ⟨some 18, .convert 3 22 (.tmp 17), false, none⟩,
  ⟨some 19, .binOp .add 22 (.tmp 16) (.tmp 18) 22, false, none⟩,
  ⟨some 20, .call ⟨.value (.func 68), #[(.tmp 15), (.tmp 19)], #[75, 22]⟩, true, none⟩,
  ⟨some 21, .buildSlice 50 1 #[(0, (.tmp 20))], true, none⟩,
  ⟨some 22, .call ⟨.builtin .append, #[(.tmp 14), (.tmp 21)], #[50, 50]⟩, true, none⟩,
  ⟨some 7, .assign (.tmp 22), false, none⟩]) <|
 .seq (.keep [0, 1, 2, 7, 8]) <|
 .ops [⟨some 12, .move (.tmp 8), false, none⟩,
  ⟨some 13, .binOp .add 3 (.tmp 12) (.const (.int .i64 1)) 3, false, none⟩,
  ⟨some 8, .assign (.tmp 13), false, none⟩]) <|
 .keep [0, 1, 2, 7, 8]) <|
 .seq (.keep [7]) <|
 .seq (.ops [⟨some 23, .move (.tmp 7), false, none⟩,
  ⟨some 6, .assign (.tmp 23), false, none⟩]) <|
 .seq (.keep [6]) <|
 .ret
theorem c35 : Try.f35.body.map (fun c => ((compile Try.prog kp35 [] kp35 c).map (·.1), fits Try.f35.ntmps c)) = some (some s35, true) := by kernel_rfl
theorem r35 : Try.f35.results.toList = [.tmp 6] := by kernel_rfl
-- marionette/word.Sext
abbrev kp36 : List Nat := [4]
def s36 : SC :=
 .seq (.ops [⟨some 4, .assign (.const (.int .u64 0)), false, none⟩]) <|
 .seq (.keep [0, 1]) <|
 .seq (.seq (.ops [⟨some 5, .move (.tmp 1), false, none⟩,
  ⟨some 6, .binOp .lss 3 (.tmp 5) (.const (.int .i64 1)) 3, false, none⟩,
  ⟨some 7, .move (.tmp 6), false, none⟩,
  ⟨some 8, .move (.tmp 1), false, some (7, false)⟩,
  ⟨some 9, .binOp .gtr 3 (.tmp 8) (.const (.int .i64 64)) 3, false, some (7, false)⟩,
  ⟨some 10, .pick (.tmp 7) (.const (.bool true)) (.tmp 9), false, none⟩]) <|
 .seq (.keep [0, 1, 10]) <|
 .cond (.tmp 10) (.seq (.ops [⟨some 11, .move (.tmp 0), false, none⟩,
  ⟨some 4, .assign (.tmp 11), false, none⟩]) <|
 .seq (.keep [4]) <|
 .ret) <|
 .skip) <|
 .seq (.keep [0, 1]) <|
 .seq (.ops [⟨some 12, .move (.tmp 0), false, none⟩,
  ⟨some 13, .move (.tmp 1), false, none⟩,
  ⟨some 14, .binOp .sub 3 (.const (.int .i64 64)) (.tmp 13) 3, false, none⟩,
  ⟨some 15, .binOp .shl 22 (.tmp 12) (.tmp 14) 3, false, none⟩,
  ⟨some 16, .convert 22 2 (.tmp 15), false, none⟩,
  ⟨some 17, .move (.tmp 1), false, none⟩,
  ⟨some 18, .binOp .sub 3 (.const (.int .i64 64)) (.tmp 17) 3, false, none⟩,
  ⟨some 19, .binOp .shr 2 (.tmp 16) (.tmp 18) 3, false, none⟩,
  ⟨some 20, .convert 2 22 (.tmp 19), false, none⟩,
  ⟨some 4, .assign (.tmp 20), false, none⟩]) <|
 .seq (.keep [4]) <|
 .ret
theorem c36 : Try.f36.body.map (fun c => ((compile Try.prog kp36 [] kp36 c).map (·.1), fits Try.f36.ntmps c)) = some (some s36, true) := by kernel_rfl
theorem r36 : Try.f36.results.toList = [.tmp 4] := by kernel_rfl
-- marionette/atom.base
abbrev kp37 : List Nat := [2]
def s37 : SC :=
 .seq (.ops [⟨some 2, .assign (.const (.int .i64 0)), false, none⟩]) <|
 .seq (.keep [0]) <|
 .seq (.seq (.ops [⟨some 3, .move (.tmp 0), false, none⟩,
  ⟨some 4, .binOp .geq 3 (.tmp 3) (.const (.int .i64 74)) 3, false, none⟩]) <|
 .seq (.keep [0, 4]) <|
 .cond (.tmp 4) (.seq (.ops [⟨some 5, .move (.tmp 0), false, none⟩,
  ⟨some 6, .binOp .sub 3 (.tmp 5) (.const (.int .i64 74)) 3, false, none⟩,
  ⟨some 7, .binOp .add 3 (.tmp 6) (.const (.int .i64 63)) 3, false, none⟩,
  ⟨some 2, .assign (.tmp 7), false, none⟩]) <|
 .seq (.keep [2]) <|
 .ret) <|
 .skip) <|
 .seq (.keep [0]) <|
 .seq (.ops [⟨some 8, .move (.tmp 0), false, none⟩,
  ⟨some 2, .assign (.tmp 8), false, none⟩]) <|
 .seq (.keep [2]) <|
 .ret
theorem c37 : Try.f37.body.map (fun c => ((compile Try.prog kp37 [] kp37 c).map (·.1), fits Try.f37.ntmps c)) = some (some s37, true) := by kernel_rfl
theorem r37 : Try.f37.results.toList = [.tmp 2] := by kernel_rfl
-- marionette/marionetteref01.Put
abbrev kp38 : List Nat := [6]
def s38 : SC :=
 .seq (.ops [⟨some 6, .assign (.const (.slice none 0 0)), false, none⟩]) <|
 .seq (.keep [0, 1, 2]) <|
 .seq (.ops [⟨some 9, .buildSlice 50 0 #[], true, none⟩,
  ⟨some 10, .move (.tmp 0), false, none⟩,
  ⟨some 11, .call ⟨.builtin .append, #[(.tmp 9), (.tmp 10)], #[50, 50]⟩, true, none⟩,
  ⟨some 7, .assign (.tmp 11), false, none⟩]) <|
 .seq (.keep [1, 2, 7]) <|
 .seq (.seq (.ops [⟨some 12, .move (.tmp 2), false, none⟩,
  ⟨some 13, .binOp .lss 3 (.tmp 12) (.const (.int .i64 1)) 3, false, none⟩,
  ⟨some 14, .move (.tmp 13), false, none⟩,
  ⟨some 15, .move (.tmp 2), false, some (14, false)⟩,
  ⟨some 16, .binOp .gtr 3 (.tmp 15) (.const (.int .i64 8)) 3, false, some (14, false)⟩,
  ⟨some 17, .pick (.tmp 14) (.const (.bool true)) (.tmp 16), false, none⟩]) <|
 .seq (.keep [1, 2, 7, 17]) <|
 .cond (.tmp 17) (.seq (.ops [⟨some 18, .move (.tmp 7), false, none⟩,
  ⟨some 6, .assign (.tmp 18), false, none⟩]) <|
 .seq (.keep [6]) <|
 .ret) <|
 .skip) <|
 .seq (.keep [1, 2, 7]) <|
 .seq (.seq (.ops [⟨some 8, .assign (.const (.int .i64 0)), false, none⟩]) <|
 .seq (.keep [1, 2, 7, 8]) <|
 .block 0 <| .loop <| .seq (.seq (.seq (.ops [⟨some 19, .move (.tmp 8), false, none⟩,
  ⟨some 20, .move (.tmp 2), false, none⟩,
  ⟨some 21, .binOp .lss 3 (.tmp 19) (.tmp 20) 3, false, none⟩]) <|
 .seq (.keep [1, 2, 7, 8, 21]) <|
 .cond (.tmp 21) (.skip) <|
 .exit 0) <|
 .seq (.keep [1, 2, 7, 8]) <|
 .seq (.block 1 <| .ops [⟨some 24, .move (.tmp 7), false, none⟩,
  ⟨some 25, .move (.tmp 1), false, none⟩,
  ⟨some 26, .move (.tmp 8), false, none⟩,
  ⟨some 27, .binOp .mul 3 (.const (.int .i64 8)) (.tmp 26) 3, false, none⟩,
  ⟨some 28, .convert 3 45 (.tmp 27), false, none⟩,
  ⟨some 29, .binOp .shr 22 (.tmp 25) (.tmp 28) 45, false, none⟩,
  ⟨some 30, .convert 22 5 (.tmp 29), false, none⟩,
  ⟨some 31, .buildSlice 50 1 #[(0, (.tmp 30))], true, none⟩,
  ⟨some 32, .call ⟨.builtin .append, #[(.tmp 24), (.tmp 31)], #[50, 50]⟩, true, none⟩,
  ⟨some 7, .assign (.tmp 32), false, none⟩]) <|
 .seq (.keep [1, 2, 7, 8]) <|
 .ops [⟨some 22, .move (.tmp 8), false, none⟩,
  ⟨some 23, .binOp .add 3 (.tmp 22) (.const (.int .i64 1)) 3, false, none⟩,
  ⟨some 8, .assign (.tmp 23), false, none⟩]) <|
 .keep [1, 2, 7, 8]) <|
 .seq (.keep [7]) <|
 .seq (.ops [⟨some 33, .move (.tmp 7), false, none⟩,
  ⟨some 6, .assign (.tmp 33), false, none⟩]) <|
 .seq (.keep [6]) <|
 .ret
theorem c38 : Try.f38.body.map (fun c => ((compile Try.prog kp38 [] kp38 c).map (·.1), fits Try.f38.ntmps c)) = some (some s38, true) := by kernel_rfl
theorem r38 : Try.f38.results.toList = [.tmp 6] := by kernel_rfl
-- marionette/marionetteref01.Less
abbrev kp39 : List Nat := [4]
def s39 : SC :=
 .seq (.ops [⟨some 4, .assign (.const (.bool false)), false, none⟩]) <|
 .seq (.keep [0, 1]) <|
 .seq (.seq (.ops [⟨some 5, .move (.tmp 0), false, none⟩,
  ⟨some 6, .call ⟨.value (.func 69), #[(.tmp 5)], #[22]⟩, true, none⟩,
  ⟨some 7, .move (.tmp 1), false, none⟩,
  ⟨some 8, .call ⟨.value (.func 69), #[(.tmp 7)], #[22]⟩, true, none⟩,
  ⟨some 9, .binOp .neq 4 (.tmp 6) (.tmp 8) 4, false, none⟩]) <|
 .seq (.keep [0, 1, 9]) <|
 .cond (.tmp 9) (.seq (.ops [⟨some 10, .move (.tmp 0), false, none⟩,
  ⟨some 11, .call ⟨.value (.func 69), #[(.tmp 10)], #[22]⟩, true, none⟩,
  ⟨some 4, .assign (.tmp 11), false, none⟩]) <|
 .seq (.keep [4]) <|
 .ret) <|
 .skip) <|
 .seq (.keep [0, 1]) <|
 .seq (.ops [⟨some 12, .move (.tmp 0), false, none⟩,
  ⟨some 13, .move (.tmp 1), false, none⟩,
  ⟨some 14, .binOp .lss 22 (.tmp 12) (.tmp 13) 22, false, none⟩,
  ⟨some 4, .assign (.tmp 14), false, none⟩]) <|
 .seq (.keep [4]) <|
 .ret
theorem c39 : Try.f39.body.map (fun c => ((compile Try.prog kp39 [] kp39 c).map (·.1), fits Try.f39.ntmps c)) = some (some s39, true) := by kernel_rfl
theorem r39 : Try.f39.results.toList = [.tmp 4] := by kernel_rfl
-- marionette/region.New
abbrev kp40 : List Nat := [0]
def s40 : SC :=
 .seq (.ops [⟨some 0, .assign (.const (.pointer none)), false, none⟩]) <|
 .seq (.keep []) <|
 .seq (.ops [⟨some 1, .build 107 #[], false, none⟩,
  ⟨some 2, .box 107 (.tmp 1), true, none⟩,
  ⟨some 0, .assign (.tmp 2), false, none⟩]) <|
 .seq (.keep [0]) <|
 .ret
theorem c40 : Try.f40.body.map (fun c => ((compile Try.prog kp40 [] kp40 c).map (·.1), fits Try.f40.ntmps c)) = some (some s40, true) := by kernel_rfl
theorem r40 : Try.f40.results.toList = [.tmp 0] := by kernel_rfl
-- marionette/page.New
abbrev kp41 : List Nat := [0]
def s41 : SC :=
 .seq (.ops [⟨some 0, .assign (.const (.pointer none)), false, none⟩]) <|
 .seq (.keep []) <|
 .seq (.ops [⟨some 1, .makeMap 108 none, true, none⟩,
  ⟨some 2, .makeMap 109 none, true, none⟩,
  ⟨some 3, .build 111 #[(0, (.tmp 1)), (1, (.tmp 2))], false, none⟩,
  ⟨some 4, .box 111 (.tmp 3), true, none⟩,
  ⟨some 0, .assign (.tmp 4), false, none⟩]) <|
 .seq (.keep [0]) <|
 .ret
theorem c41 : Try.f41.body.map (fun c => ((compile Try.prog kp41 [] kp41 c).map (·.1), fits Try.f41.ntmps c)) = some (some s41, true) := by kernel_rfl
theorem r41 : Try.f41.results.toList = [.tmp 0] := by kernel_rfl
-- (*marionette/mem.Space).where
abbrev kp42 : List Nat := [6, 7]
def s42 : SC :=
 .seq (.ops [⟨some 6, .assign (.const (.int .u64 0)), false, none⟩,
  ⟨some 7, .assign (.const (.bool false)), false, none⟩]) <|
 .seq (.keep [0, 1, 2]) <|
 .seq (.seq (.ops [⟨some 11, .move (.tmp 1), false, none⟩,
  ⟨some 12, .move (.tmp 2), false, none⟩,
  ⟨some 13, .call ⟨.value (.func 43), #[(.tmp 11), (.tmp 12)], #[22, 22]⟩, true, none⟩,
  ⟨some 10, .move (.tmp 13), false, none⟩,
  ⟨some 14, .extract (.tmp 10) 0, false, none⟩,
  ⟨some 15, .extract (.tmp 10) 1, false, none⟩,
  ⟨some 8, .assign (.tmp 14), false, none⟩,
  ⟨some 9, .assign (.tmp 15), false, none⟩]) <|
 .seq (.keep [0, 1, 2, 8, 9]) <|
 .seq (.ops [⟨some 16, .move (.tmp 9), false, none⟩,
  ⟨some 17, .move (.tmp 16), false, none⟩,
  ⟨some 18, .move (.tmp 1), false, some (17, true)⟩,
  ⟨some 19, .binOp .neq 22 (.tmp 18) (.const (.int .u64 0)) 22, false, some (17, true)⟩,
  ⟨some 20, .pick (.tmp 17) (.tmp 19) (.const (.bool false)), false, none⟩,
  ⟨some 21, .move (.tmp 20), false, none⟩,
  ⟨some 22, .move (.tmp 0), false, some (21, true)⟩,
  ⟨some 23, .nilCheck (.tmp 22), false, some (21, true)⟩,
  ⟨some 24, .fieldAddr 87 (.tmp 23) 0, false, some (21, true)⟩,
  ⟨some 25, .load 82 (.tmp 24), false, some (21, true)⟩,
  ⟨some 26, .move (.tmp 1), false, some (21, true)⟩,
  ⟨some 27, .move (.tmp 8), false, some (21, true)⟩,
  ⟨some 28, .call ⟨.value (.func 54), #[(.tmp 25), (.tmp 26), (.tmp 27)], #[82, 22, 22]⟩, true, some (21, true)⟩,
  ⟨some 29, .pick (.tmp 21) (.tmp 28) (.const (.bool false)), false, none⟩]) <|
 .seq (.keep [0, 1, 2, 29]) <|
 .cond (.tmp 29) (.seq (.ops [⟨some 30, .move (.tmp 1), false, none⟩,
  ⟨some 6, .assign (.tmp 30), false, none⟩,
  ⟨some 7, .assign (.const (.bool true)), false, none⟩]) <|
 .seq (.keep [6, 7]) <|
 .ret) <|
 .skip) <|
 .seq (.keep [0, 2]) <|
 .seq (.ops [⟨some 31, .move (.tmp 0), false, none⟩,
  ⟨some 32, .nilCheck (.tmp 31), false, none⟩,
  ⟨some 33, .fieldAddr 87 (.tmp 32) 0, false, none⟩,
  ⟨some 34, .load 82 (.tmp 33), false, none⟩,
  ⟨some 35, .move (.tmp 2), false, none⟩,
  ⟨some 36, .call ⟨.value (.func 70), #[(.tmp 34), (.tmp 35), (.const (.int .u64 274877833216))], #[82, 22, 22]⟩, true, none⟩,
  ⟨some 37, .extract (.tmp 36) 0, false, none⟩,
  ⟨some 38, .extract (.tmp 36) 1, false, none⟩,
  ⟨some 6, .assign (.tmp 37), false, none⟩,
  ⟨some 7, .assign (.tmp 38), false, none⟩]) <|
 .seq (.keep [6, 7]) <|
 .ret
theorem c42 : Try.f42.body.map (fun c => ((compile Try.prog kp42 [] kp42 c).map (·.1), fits Try.f42.ntmps c)) = some (some s42, true) := by kernel_rfl
theorem r42 : Try.f42.results.toList = [.tmp 6, .tmp 7] := by kernel_rfl
-- marionette/mem.span
abbrev kp43 : List Nat := [4, 5]
def s43 : SC :=
 .seq (.ops [⟨some 4, .assign (.const (.int .u64 0)), false, none⟩,
  ⟨some 5, .assign (.const (.bool false)), false, none⟩]) <|
 .seq (.keep [0, 1]) <|
 .seq (.ops [⟨some 7, .move (.tmp 1), false, none⟩,
  ⟨some 8, .call ⟨.value (.func 53), #[(.tmp 7)], #[22]⟩, true, none⟩,
  ⟨some 6, .move (.tmp 8), false, none⟩,
  ⟨some 9, .extract (.tmp 6) 0, false, none⟩,
  ⟨some 10, .extract (.tmp 6) 1, false, none⟩,
  ⟨some 1, .assign (.tmp 9), false, none⟩,
  ⟨some 5, .assign (.tmp 10), false, none⟩]) <|
 .seq (.keep [0, 1, 5]) <|
 .seq (.seq (.ops [⟨some 11, .move (.tmp 5), false, none⟩,
  ⟨some 12, .unOp .not 4 (.tmp 11), false, none⟩,
  ⟨some 13, .move (.tmp 12), false, none⟩,
  ⟨some 14, .move (.tmp 0), false, some (13, false)⟩,
  ⟨some 15, .binOp .rem 22 (.tmp 14) (.const (.int .u64 4096)) 22, false, some (13, false)⟩,
  ⟨some 16, .binOp .neq 22 (.tmp 15) (.const (.int .u64 0)) 22, false, some (13, false)⟩,
  ⟨some 17, .pick (.tmp 13) (.const (.bool true)) (.tmp 16), false, none⟩,
  ⟨some 18, .move (.tmp 17), false, none⟩,
  ⟨some 19, .move (.tmp 0), false, some (18, false)⟩,
  ⟨some 20, .binOp .gtr 22 (.tmp 19) (.const (.int .u64 274877906944)) 22, false, some (18, false)⟩,
  ⟨some 21, .pick (.tmp 18) (.const (.bool true)) (.tmp 20), false, none⟩,
  ⟨some 22, .move (.tmp 21), false, none⟩,
  ⟨some 23, .move (.tmp 1), false, some (22, false)⟩,
  ⟨some 24, .binOp .eql 22 (.tmp 23) (.const (.int .u64 0)) 22, false, some (22, false)⟩,
  ⟨some 25, .pick (.tmp 22) (.const (.bool true)) (.tmp 24), false, none⟩,
  ⟨some 26, .move (.tmp 25), false, none⟩,
  ⟨some 27, .move (.tmp 1), false, some (26, false)⟩,
  ⟨some 28, .move (.tmp 0), false, some (26, false)⟩,
  ⟨some 29, .binOp .sub 22 (.const (.int .u64 274877906944)) (.tmp 28) 22, false, some (26, false)⟩,
  ⟨some 30, .binOp .gtr 22 (.tmp 27) (.tmp 29) 22, false, some (26, false)⟩,
  ⟨some 31, .pick (.tmp 26) (.const (.bool true)) (.tmp 30), false, none⟩]) <|
 .seq (.keep [0, 1, 31]) <|
 .cond (.tmp 31) (.seq (.ops [⟨some 4, .assign (.const (.int .u64 0)), false, none⟩,
  ⟨some 5, .assign (.const (.bool false)), false, none⟩]) <|
 .seq (.keep [4, 5]) <|
 .ret) <|
 .skip) <|
 .seq (.keep [0, 1]) <|
 .seq (.ops [⟨some 32, .move (.tmp 0), false, none⟩,
  ⟨some 33, .move (.tmp 1), false, none⟩,
  ⟨some 34, .binOp .add 22 (.tmp 32) (.tmp 33) 22, false, none⟩,
  ⟨some 4, .assign (.tmp 34), false, none⟩,
  ⟨some 5, .assign (.const (.bool true)), false, none⟩]) <|
 .seq (.keep [4, 5]) <|
 .ret
theorem c43 : Try.f43.body.map (fun c => ((compile Try.prog kp43 [] kp43 c).map (·.1), fits Try.f43.ntmps c)) = some (some s43, true) := by kernel_rfl
theorem r43 : Try.f43.results.toList = [.tmp 4, .tmp 5] := by kernel_rfl
-- (*marionette/mem.Space).lay
abbrev kp44 : List Nat := [8]
def s44 : SC :=
 .seq (.ops [⟨some 8, .assign (.const (.int .i64 0)), false, none⟩]) <|
 .seq (.keep [0, 1, 2, 3]) <|
 .seq (.ops [⟨some 11, .move (.tmp 0), false, none⟩,
  ⟨some 12, .nilCheck (.tmp 11), false, none⟩,
  ⟨some 13, .fieldAddr 87 (.tmp 12) 0, false, none⟩,
  ⟨some 14, .load 82 (.tmp 13), false, none⟩,
  ⟨some 15, .call ⟨.value (.func 71), #[(.tmp 14)], #[82]⟩, true, none⟩,
  ⟨some 9, .assign (.tmp 15), false, none⟩]) <|
 .seq (.keep [0, 1, 2, 3, 9]) <|
 .seq (.seq (.ops [⟨some 16, .move (.tmp 9), false, none⟩,
  ⟨some 17, .move (.tmp 1), false, none⟩,
  ⟨some 18, .move (.tmp 2), false, none⟩,
  ⟨some 19, .move (.tmp 3), false, none⟩,
  ⟨some 20, .call ⟨.value (.func 72), #[(.tmp 16), (.tmp 17), (.tmp 18), (.tmp 19)], #[82, 22, 22, 3]⟩, true, none⟩,
  ⟨some 10, .assign (.tmp 20), false, none⟩]) <|
 .seq (.keep [0, 1, 2, 9, 10]) <|
 .seq (.ops [⟨some 21, .move (.tmp 10), false, none⟩,
  ⟨some 22, .binOp .neq 34 (.tmp 21) (.const (.int .i64 0)) 34, false, none⟩]) <|
 .seq (.keep [0, 1, 2, 9, 10, 22]) <|
 .cond (.tmp 22) (.seq (.ops [⟨some 23, .move (.tmp 10), false, none⟩,
  ⟨some 8, .assign (.tmp 23), false, none⟩]) <|
 .seq (.keep [8]) <|
 .ret) <|
 .skip) <|
 .seq (.keep [0, 1, 2, 9]) <|
 .seq (.seq (.seq (.ops [⟨some 24, .move (.tmp 9), false, none⟩]) <|
 .seq (.ops [⟨some 26, .move (.tmp 0), false, none⟩]) <|
 .seq (.ops [⟨some 27, .nilCheck (.tmp 26), false, none⟩]) <|
 .seq (.ops [⟨some 28, .fieldAddr 87 (.tmp 27) 2, false, none⟩]) <|
 .amb (.seq (.ops [⟨some 25, .call ⟨.value (.func 45), #[(.tmp 24)], #[82]⟩, true, none⟩]) <|
 .seq (.ops [⟨some 29, .load 3 (.tmp 28), false, none⟩]) <|
 .seq (.ops [⟨some 30, .binOp .gtr 3 (.tmp 25) (.tmp 29) 3, false, none⟩]) <|
 .skip) (.seq (.ops [⟨some 29, .load 3 (.tmp 28), false, none⟩]) <|
 .seq (.ops [⟨some 25, .call ⟨.value (.func 45), #[(.tmp 24)], #[82]⟩, true, none⟩]) <|
 .seq (.ops [⟨some 30, .binOp .gtr 3 (.tmp 25) (.tmp 29) 3, false, none⟩]) <|
 .skip)) <|
 .seq (.keep [0, 1, 2, 9, 30]) <|
 .cond (.tmp 30) (.seq (.ops [⟨some 8, .assign (.const (.int .i64 12)), false, none⟩]) <|
 .seq (.keep [8]) <|
 .ret) <|
 .skip) <|
 .seq (.keep [0, 1, 2, 9]) <|
 .seq (.ops [⟨some 31, .move (.tmp 0), false, none⟩,
  ⟨some 32, .move (.tmp 9), false, none⟩,
  ⟨some 33, .nilCheck (.tmp 31), false, none⟩,
  ⟨some 34, .fieldAddr 87 (.tmp 33) 0, false, none⟩,
  ⟨none, .store 82 (.tmp 34) (.tmp 32), true, none⟩]) <|
 .seq (.keep [0, 1, 2]) <|
 .seq (.ops [⟨some 35, .move (.tmp 0), false, none⟩,
  ⟨some 36, .nilCheck (.tmp 35), false, none⟩,
  ⟨some 37, .fieldAddr 87 (.tmp 36) 1, false, none⟩,
  ⟨some 38, .load 84 (.tmp 37), false, none⟩,
  ⟨some 39, .move (.tmp 1), false, none⟩,
  ⟨some 40, .move (.tmp 2), false, none⟩,
  ⟨some 41, .call ⟨.value (.func 73), #[(.tmp 38), (.tmp 39), (.tmp 40)], #[84, 22, 22]⟩, true, none⟩]) <|
 .seq (.keep []) <|
 .seq (.ops [⟨some 8, .assign (.const (.int .i64 0)), false, none⟩]) <|
 .seq (.keep [8]) <|
 .ret
theorem c44 : Try.f44.body.map (fun c => ((compile Try.prog kp44 [] kp44 c).map (·.1), fits Try.f44.ntmps c)) = some (some s44, true) := by kernel_rfl
theorem r44 : Try.f44.results.toList = [.tmp 8] := by kernel_rfl
-- (*marionette/region.List).Pages
abbrev kp45 : List Nat := [2]
def s45 : SC :=
 .seq (.ops [⟨some 2, .assign (.const (.int .i64 0)), false, none⟩]) <|
 .seq (.keep [0]) <|
 .seq (.seq (.ops [⟨some 6, .move (.tmp 0), false, none⟩,
  ⟨some 7, .binOp .eql 82 (.tmp 6) (.const (.pointer none)) 82, false, none⟩]) <|
 .seq (.keep [0, 7]) <|
 .cond (.tmp 7) (.seq (.ops [⟨some 2, .assign (.const (.int .i64 0)), false, none⟩]) <|
 .seq (.keep [2]) <|
 .ret) <|
 .skip) <|
 .seq (.keep [0]) <|
 .seq (.ops [⟨some 3, .assign (.const (.int .u64 0)), false, none⟩]) <|
 .seq (.keep [0, 3]) <|
 .seq (.seq (.ops [⟨some 8, .move (.tmp 0), false, none⟩,
  ⟨some 9, .nilCheck (.tmp 8), false, none⟩,
  ⟨some 10, .fieldAddr 107 (.tmp 9) 0, false, none⟩,
  ⟨some 11, .load 105 (.tmp 10), false, none⟩,
  ⟨some 12, .call ⟨.builtin .len, #[(.tmp 11)], #[105]⟩, false, none⟩,
  ⟨some 13, .move (.const (.int .i64 0)), false, none⟩]) <|
 .seq (.keep [3, 11, 12, 13]) <|
 .block 0 <| .loop <| .seq (.seq (.ops [⟨some 14, .binOp .lss 3 (.tmp 13) (.tmp 12) 3, false, none⟩]) <|
 .seq (.keep [3, 11, 12, 13, 14]) <|
 .seq (.cond (.tmp 14) (.skip) <|
 .exit 0) <|
 .seq (.keep [3, 11, 12, 13]) <|
 .seq (.block 1 <| .seq (.ops [⟨some 15, .indexAddr 105 (.tmp 11) (.tmp 13), false, none⟩,
  ⟨some 16, .load 95 (.tmp 15), false, none⟩,
  ⟨some 5, .alloc 95, true, none⟩,
  ⟨none, .store 95 (.tmp 5) (.tmp 16), true, none⟩]) <|
 .seq (.keep [3, 5, 11, 12, 13]) <|
 .ops [⟨some 17, .move (.tmp 3), false, none⟩,
  ⟨some 18, .fieldAddr 95 (.tmp 5) 1, false, none⟩,
  ⟨some 19, .load 22 (.tmp 18), false, none⟩,
  ⟨some 20, .fieldAddr 95 (.tmp 5) 0, false, none⟩,
  ⟨some 21, .load 22 (.tmp 20), false, none⟩,
  ⟨some 22, .binOp .sub 22 (.tmp 19) (.tmp 21) 22, false, none⟩,
  ⟨some 23, .binOp .quo 22 (.tmp 22) (.const (.int .u64 4096)) 22, false, none⟩,
  ⟨some 24, .binOp .add 22 (.tmp 17) (.tmp 23) 22, false, none⟩,
  ⟨some 3, .assign (.tmp 24), false, none⟩]) <|
 .seq (.keep [3, 11, 12, 13]) <|
 .ops [⟨some 25, .binOp .add 3 (.tmp 13) (.const (.int .i64 1)) 3, false, none⟩,
  ⟨some 13, .move (.tmp 25), false, none⟩]) <|
 .keep [3, 11, 12, 13]) <|
 .seq (.keep [3]) <|
 .seq (.ops [⟨some 26, .move (.tmp 3), false, none⟩,
  ⟨some 27, .convert 22 3 (.tmp 26), false, none⟩,
  ⟨some 2, .assign (.tmp 27), false, none⟩]) <|
 .seq (.keep [2]) <|
 .ret
theorem c45 : Try.f45.body.map (fun c => ((compile Try.prog kp45 [] kp45 c).map (·.1), fits Try.f45.ntmps c)) = some (some s45, true) := by kernel_rfl
theorem r45 : Try.f45.results.toList = [.tmp 2] := by kernel_rfl
-- (*marionette/mem.Space).Probe
abbrev kp46 : List Nat := [6]
def s46 : SC :=
 .seq (.ops [⟨some 6, .alloc 41, true, none⟩]) <|
 .seq (.keep [0, 1, 2, 6]) <|
 .seq (.seq (.ops [⟨some 9, .move (.tmp 0), false, none⟩,
  ⟨some 10, .binOp .eql 31 (.tmp 9) (.const (.pointer none)) 31, false, none⟩,
  ⟨some 11, .move (.tmp 10), false, none⟩,
  ⟨some 12, .move (.tmp 2), false, some (11, false)⟩,
  ⟨some 13, .call ⟨.value (.func 49), #[(.tmp 12)], #[3]⟩, true, some (11, false)⟩,
  ⟨some 14, .unOp .not 4 (.tmp 13), false, some (11, false)⟩,
  ⟨some 15, .pick (.tmp 11) (.const (.bool true)) (.tmp 14), false, none⟩]) <|
 .seq (.keep [0, 1, 2, 6, 15]) <|
 .cond (.tmp 15) (.seq (.ops [⟨some 16, .move (.tmp 1), false, none⟩,
  ⟨some 17, .build 41 #[(0, (.const (.int .i64 2))), (1, (.tmp 16))], false, none⟩,
  ⟨none, .store 41 (.tmp 6) (.tmp 17), true, none⟩]) <|
 .seq (.keep [6]) <|
 .ret) <|
 .skip) <|
 .seq (.keep [0, 1, 2, 6]) <|
 .seq (.seq (.ops [⟨some 19, .move (.tmp 0), false, none⟩,
  ⟨some 20, .move (.tmp 1), false, none⟩,
  ⟨some 21, .move (.tmp 2), false, none⟩,
  ⟨some 22, .call ⟨.value (.func 50), #[(.tmp 19), (.tmp 20), (.tmp 21), (.const (.int .i64 2))], #[31, 22, 3, 3]⟩, true, none⟩,
  ⟨some 18, .move (.tmp 22), false, none⟩,
  ⟨some 23, .extract (.tmp 18) 0, false, none⟩,
  ⟨some 24, .extract (.tmp 18) 1, false, none⟩,
  ⟨some 7, .assign (.tmp 23), false, none⟩,
  ⟨some 8, .assign (.tmp 24), false, none⟩]) <|
 .seq (.keep [6, 7, 8]) <|
 .seq (.ops [⟨some 25, .move (.tmp 8), false, none⟩]) <|
 .seq (.keep [6, 7, 25]) <|
 .cond (.tmp 25) (.seq (.ops [⟨some 26, .move (.tmp 7), false, none⟩,
  ⟨some 27, .build 41 #[(0, (.const (.int .i64 2))), (1, (.tmp 26))], false, none⟩,
  ⟨none, .store 41 (.tmp 6) (.tmp 27), true, none⟩]) <|
 .seq (.keep [6]) <|
 .ret) <|
 .skip) <|
 .seq (.keep [6]) <|
 .seq (.ops [⟨some 28, .build 41 #[], false, none⟩,
  ⟨none, .store 41 (.tmp 6) (.tmp 28), true, none⟩]) <|
 .seq (.keep [6]) <|
 .ret
theorem c46 : Try.f46.body.map (fun c => ((compile Try.prog kp46 [] kp46 c).map (·.1), fits Try.f46.ntmps c)) = some (some s46, true) := by kernel_rfl
theorem r46 : Try.f46.results.toList = [.cell 6 41] := by kernel_rfl
-- (*marionette/page.Store).Write
abbrev kp47 : List Nat := []
def s47 : SC :=
 .seq (.seq (.ops [⟨some 11, .move (.tmp 0), false, none⟩,
  ⟨some 12, .binOp .eql 84 (.tmp 11) (.const (.pointer none)) 84, false, none⟩,
  ⟨some 13, .move (.tmp 12), false, none⟩,
  ⟨some 14, .move (.tmp 2), false, some (13, false)⟩,
  ⟨some 15, .call ⟨.builtin .len, #[(.tmp 14)], #[50]⟩, false, some (13, false)⟩,
  ⟨some 16, .binOp .gtr 3 (.tmp 15) (.const (.int .i64 4194304)) 3, false, some (13, false)⟩,
  ⟨some 17, .pick (.tmp 13) (.const (.bool true)) (.tmp 16), false, none⟩]) <|
 .seq (.keep [0, 1, 2, 17]) <|
 .cond (.tmp 17) (.ret) <|
 .skip) <|
 .seq (.keep [0, 1, 2]) <|
 .block 0 <| .loop <| .seq (.seq (.seq (.ops [⟨some 18, .move (.tmp 2), false, none⟩,
  ⟨some 19, .call ⟨.builtin .len, #[(.tmp 18)], #[50]⟩, false, none⟩,
  ⟨some 20, .binOp .gtr 3 (.tmp 19) (.const (.int .i64 0)) 3, false, none⟩,
  ⟨some 21, .move (.tmp 20), false, none⟩,
  ⟨some 22, .move (.tmp 1), false, some (21, true)⟩,
  ⟨some 23, .binOp .lss 22 (.tmp 22) (.const (.int .u64 274877906944)) 22, false, some (21, true)⟩,
  ⟨some 24, .pick (.tmp 21) (.tmp 23) (.const (.bool false)), false, none⟩]) <|
 .seq (.keep [0, 1, 2, 24]) <|
 .cond (.tmp 24) (.skip) <|
 .exit 0) <|
 .seq (.keep [0, 1, 2]) <|
 .block 1 <| .seq (.ops [⟨some 26, .move (.tmp 1), false, none⟩,
  ⟨some 27, .move (.tmp 2), false, none⟩,
  ⟨some 28, .call ⟨.builtin .len, #[(.tmp 27)], #[50]⟩, false, none⟩,
  ⟨some 29, .call ⟨.value (.func 74), #[(.tmp 26), (.tmp 28)], #[22, 3]⟩, true, none⟩,
  ⟨some 25, .move (.tmp 29), false, none⟩,
  ⟨some 30, .extract (.tmp 25) 0, false, none⟩,
  ⟨some 31, .extract (.tmp 25) 1, false, none⟩,
  ⟨some 6, .assign (.tmp 30), false, none⟩,
  ⟨some 7, .assign (.tmp 31), false, none⟩]) <|
 .seq (.keep [0, 1, 2, 6, 7]) <|
 .seq (.ops [⟨some 32, .move (.tmp 1), false, none⟩,
  ⟨some 33, .binOp .quo 22 (.tmp 32) (.const (.int .u64 4096)) 22, false, none⟩,
  ⟨some 8, .assign (.tmp 33), false, none⟩]) <|
 .seq (.keep [0, 1, 2, 6, 7, 8]) <|
 .seq (.ops [⟨some 35, .move (.tmp 0), false, none⟩,
  ⟨some 36, .nilCheck (.tmp 35), false, none⟩,
  ⟨some 37, .fieldAddr 111 (.tmp 36) 0, false, none⟩,
  ⟨some 38, .load 108 (.tmp 37), false, none⟩,
  ⟨some 39, .move (.tmp 8), false, none⟩,
  ⟨some 40, .lookup 108 (.tmp 38) (.tmp 39) true, false, none⟩,
  ⟨some 34, .move (.tmp 40), false, none⟩,
  ⟨some 41, .extract (.tmp 34) 0, false, none⟩,
  ⟨some 42, .extract (.tmp 34) 1, false, none⟩,
  ⟨some 9, .assign (.tmp 41), false, none⟩,
  ⟨some 10, .assign (.tmp 42), false, none⟩]) <|
 .seq (.keep [0, 1, 2, 6, 7, 8, 9, 10]) <|
 .seq (.seq (.ops [⟨some 43, .move (.tmp 10), false, none⟩,
  ⟨some 44, .unOp .not 4 (.tmp 43), false, none⟩]) <|
 .seq (.keep [0, 1, 2, 6, 7, 8, 9, 44]) <|
 .cond (.tmp 44) (.seq (.ops [⟨some 45, .build 117 #[], false, none⟩,
  ⟨some 46, .box 117 (.tmp 45), true, none⟩,
  ⟨some 9, .assign (.tmp 46), false, none⟩]) <|
 .seq (.keep [0, 1, 2, 6, 7, 8, 9]) <|
 .ops [⟨some 47, .move (.tmp 0), false, none⟩,
  ⟨some 48, .nilCheck (.tmp 47), false, none⟩,
  ⟨some 49, .fieldAddr 111 (.tmp 48) 0, false, none⟩,
  ⟨some 50, .load 108 (.tmp 49), false, none⟩,
  ⟨some 51, .move (.tmp 8), false, none⟩,
  ⟨some 52, .move (.tmp 9), false, none⟩,
  ⟨none, .mapUpdate 108 (.tmp 50) (.tmp 51) (.tmp 52), true, none⟩]) <|
 .skip) <|
 .seq (.keep [0, 1, 2, 6, 7, 8, 9]) <|
 .seq (.seq (.ops [⟨some 53, .move (.tmp 9), false, none⟩]) <|
 .seq (.ops [⟨some 54, .nilCheck (.tmp 53), false, none⟩]) <|
 .seq (.ops [⟨some 55, .move (.tmp 6), false, none⟩]) <|
 .seq (.ops [⟨some 56, .slice 117 (.tmp 54) (some (.tmp 55)) none none, false, none⟩]) <|
 .seq (.ops [⟨some 57, .move (.tmp 2), false, none⟩]) <|
 .seq (.ops [⟨some 58, .move (.tmp 7), false, none⟩]) <|
 .seq (.ops [⟨some 59, .slice 50 (.tmp 57) none (some (.tmp 58)) none, false, none⟩]) <|
 .seq (.ops [⟨some 60, .call ⟨.builtin .copy, #[(.tmp 56), (.tmp 59)], #[50, 50]⟩, true, none⟩]) <|
 .skip) <|
 .seq (.keep [0, 1, 2, 7, 8]) <|
 .seq (.ops [⟨some 61, .move (.tmp 0), false, none⟩,
  ⟨some 62, .move (.tmp 8), false, none⟩,
  ⟨some 63, .call ⟨.value (.func 75), #[(.tmp 61), (.tmp 62)], #[84, 22]⟩, true, none⟩]) <|
 .seq (.keep [0, 1, 2, 7]) <|
 .seq (.ops [⟨some 64, .move (.tmp 2), false, none⟩,
  ⟨some 65, .move (.tmp 7), false, none⟩,
  ⟨some 66, .slice 50 (.tmp 64) (some (.tmp 65)) none none, false, none⟩,
  ⟨some 2, .assign (.tmp 66), false, none⟩]) <|
 .seq (.keep [0, 1, 2, 7]) <|
 .ops [⟨some 67, .move (.tmp 1), false, none⟩,
  ⟨some 68, .move (.tmp 7), false, none⟩,
  ⟨some 69, .convert 3 22 (.tmp 68), false, none⟩,
  ⟨some 70, .binOp .add 22 (.tmp 67) (.tmp 69) 22, false, none⟩,
  ⟨some 1, .assign (.tmp 70), false, none⟩]) <|
 .keep [0, 1, 2]
theorem c47 : Try.f47.body.map (fun c => ((compile Try.prog kp47 [] kp47 c).map (·.1), fits Try.f47.ntmps c)) = some (some s47, true) := by kernel_rfl
theorem r47 : Try.f47.results.toList = [] := by kernel_rfl
-- marionette/word.Put
abbrev kp48 : List Nat := [6]
def s48 : SC :=
 .seq (.ops [⟨some 6, .assign (.const (.slice none 0 0)), false, none⟩]) <|
 .seq (.keep [0, 1, 2]) <|
 .seq (.ops [⟨some 8, .buildSlice 50 0 #[], true, none⟩,
  ⟨some 9, .move (.tmp 0), false, none⟩,
  ⟨some 10, .call ⟨.builtin .append, #[(.tmp 8), (.tmp 9)], #[50, 50]⟩, true, none⟩,
  ⟨some 7, .assign (.tmp 10), false, none⟩]) <|
 .seq (.keep [1, 2, 7]) <|
 .seq (.seq (.ops [⟨some 11, .move (.tmp 2), false, none⟩,
  ⟨some 12, .binOp .lss 3 (.tmp 11) (.const (.int .i64 1)) 3, false, none⟩,
  ⟨some 13, .move (.tmp 12), false, none⟩,
  ⟨some 14, .move (.tmp 2), false, some (13, false)⟩,
  ⟨some 15, .binOp .gtr 3 (.tmp 14) (.const (.int .i64 8)) 3, false, some (13, false)⟩,
  ⟨some 16, .pick (.tmp 13) (.const (.bool true)) (.tmp 15), false, none⟩]) <|
 .seq (.keep [1, 2, 7, 16]) <|
 .cond (.tmp 16) (.seq (.ops [⟨some 17, .move (.tmp 7), false, none⟩,
  ⟨some 6, .assign (.tmp 17), false, none⟩]) <|
 .seq (.keep [6]) <|
 .ret) <|
 .skip) <|
 .seq (.keep [1, 2, 7]) <|
 .seq (.seq (.ops [⟨some 18, .move (.tmp 2), false, none⟩,
  ⟨some 19, .move (.const (.int .i64 0)), false, none⟩]) <|
 .seq (.keep [1, 7, 18, 19]) <|
 .block 0 <| .loop <| .seq (.seq (.ops [⟨some 20, .binOp .lss 3 (.tmp 19) (.tmp 18) 3, false, none⟩]) <|
 .seq (.keep [1, 7, 18, 19, 20]) <|
 .seq (.cond (.tmp 20) (.skip) <|
 .exit 0) <|
 .seq (.keep [1, 7, 18, 19]) <|
 .seq (.block 1 <| .seq (.ops [⟨some 21, .move (.tmp 7), false, none⟩,
  ⟨some 22, .move (.tmp 1), false, none⟩,
  ⟨some 23, .convert 22 5 (.tmp 22), false, none⟩,
  ⟨some 24, .buildSlice 50 1 #[(0, (.tmp 23))], true, none⟩,
  ⟨some 25, .call ⟨.builtin .append, #[(.tmp 21), (.tmp 24)], #[50, 50]⟩, true, none⟩,
  ⟨some 7, .assign (.tmp 25), false, none⟩]) <|
 .seq (.keep [1, 7, 18, 19]) <|
 .ops [⟨some 26, .move (.tmp 1), false, none⟩,
  ⟨some 27, .binOp .shr 22 (.tmp 26) (.const (.int .u64 8)) 45, false, none⟩,
  ⟨some 1, .assign (.tmp 27), false, none⟩]) <|
 .seq (.keep [1, 7, 18, 19]) <|
 .ops [⟨some 28, .binOp .add 3 (.tmp 19) (.const (.int .i64 1)) 3, false, none⟩,
  ⟨some 19, .move (.tmp 28), false, none⟩]) <|
 .keep [1, 7, 18, 19]) <|
 .seq (.keep [7]) <|
 .seq (.ops [⟨some 29, .move (.tmp 7), false, none⟩,
  ⟨some 6, .assign (.tmp 29), false, none⟩]) <|
 .seq (.keep [6]) <|
 .ret
theorem c48 : Try.f48.body.map (fun c => ((compile Try.prog kp48 [] kp48 c).map (·.1), fits Try.f48.ntmps c)) = some (some s48, true) := by kernel_rfl
theorem r48 : Try.f48.results.toList = [.tmp 6] := by kernel_rfl
-- marionette/mem.size
abbrev kp49 : List Nat := [2]
def s49 : SC :=
 .seq (.ops [⟨some 2, .assign (.const (.bool false)), false, none⟩]) <|
 .seq (.keep [0]) <|
 .seq (.ops [⟨some 3, .move (.tmp 0), false, none⟩,
  ⟨some 4, .binOp .eql 3 (.tmp 3) (.const (.int .i64 1)) 3, false, none⟩,
  ⟨some 5, .move (.tmp 4), false, none⟩,
  ⟨some 6, .move (.tmp 0), false, some (5, false)⟩,
  ⟨some 7, .binOp .eql 3 (.tmp 6) (.const (.int .i64 2)) 3, false, some (5, false)⟩,
  ⟨some 8, .pick (.tmp 5) (.const (.bool true)) (.tmp 7), false, none⟩,
  ⟨some 9, .move (.tmp 8), false, none⟩,
  ⟨some 10, .move (.tmp 0), false, some (9, false)⟩,
  ⟨some 11, .binOp .eql 3 (.tmp 10) (.const (.int .i64 4)) 3, false, some (9, false)⟩,
  ⟨some 12, .pick (.tmp 9) (.const (.bool true)) (.tmp 11), false, none⟩,
  ⟨some 13, .move (.tmp 12), false, none⟩,
  ⟨some 14, .move (.tmp 0), false, some (13, false)⟩,
  ⟨some 15, .binOp .eql 3 (.tmp 14) (.const (.int .i64 8)) 3, false, some (13, false)⟩,
  ⟨some 16, .pick (.tmp 13) (.const (.bool true)) (.tmp 15), false, none⟩,
  ⟨some 2, .assign (.tmp 16), false, none⟩]) <|
 .seq (.keep [2]) <|
 .ret
theorem c49 : Try.f49.body.map (fun c => ((compile Try.prog kp49 [] kp49 c).map (·.1), fits Try.f49.ntmps c)) = some (some s49, true) := by kernel_rfl
theorem r49 : Try.f49.results.toList = [.tmp 2] := by kernel_rfl
-- (*marionette/mem.Space).first
abbrev kp50 : List Nat := [8, 9]
def s50 : SC :=
 .seq (.ops [⟨some 8, .assign (.const (.int .u64 0)), false, none⟩,
  ⟨some 9, .assign (.const (.bool false)), false, none⟩]) <|
 .seq (.keep [0, 1, 2, 3]) <|
 .seq (.seq (.ops [⟨some 13, .move (.tmp 2), false, none⟩,
  ⟨some 14, .convert 3 22 (.tmp 13), false, none⟩,
  ⟨some 15, .move (.const (.int .u64 0)), false, none⟩]) <|
 .seq (.keep [0, 1, 3, 14, 15]) <|
 .block 0 <| .loop <| .seq (.seq (.ops [⟨some 16, .binOp .lss 22 (.tmp 15) (.tmp 14) 22, false, none⟩]) <|
 .seq (.keep [0, 1, 3, 14, 15, 16]) <|
 .seq (.cond (.tmp 16) (.skip) <|
 .exit 0) <|
 .seq (.keep [0, 1, 3, 14, 15]) <|
 .seq (.block 1 <| .seq (.ops [⟨some 17, .move (.tmp 15), false, none⟩,
  ⟨some 10, .assign (.tmp 17), false, none⟩]) <|
 .seq (.keep [0, 1, 3, 10, 14, 15]) <|
 .seq (.ops [⟨some 19, .move (.tmp 0), false, none⟩,
  ⟨some 20, .nilCheck (.tmp 19), false, none⟩,
  ⟨some 21, .fieldAddr 87 (.tmp 20) 0, false, none⟩,
  ⟨some 22, .load 82 (.tmp 21), false, none⟩,
  ⟨some 23, .move (.tmp 1), false, none⟩,
  ⟨some 24, .move (.tmp 10), false, none⟩,
  ⟨some 25, .binOp .add 22 (.tmp 23) (.tmp 24) 22, false, none⟩,
  ⟨some 26, .call ⟨.value (.func 56), #[(.tmp 22), (.tmp 25)], #[82, 22]⟩, true, none⟩,
  ⟨some 18, .move (.tmp 26), false, none⟩,
  ⟨some 27, .extract (.tmp 18) 0, false, none⟩,
  ⟨some 28, .extract (.tmp 18) 1, false, none⟩,
  ⟨some 11, .alloc 95, true, none⟩,
  ⟨none, .store 95 (.tmp 11) (.tmp 27), true, none⟩,
  ⟨some 12, .assign (.tmp 28), false, none⟩]) <|
 .seq (.keep [0, 1, 3, 10, 11, 12, 14, 15]) <|
 .seq (.ops [⟨some 29, .move (.tmp 12), false, none⟩,
  ⟨some 30, .unOp .not 4 (.tmp 29), false, none⟩,
  ⟨some 31, .move (.tmp 30), false, none⟩,
  ⟨some 32, .fieldAddr 95 (.tmp 11) 2, false, some (31, false)⟩,
  ⟨some 33, .load 3 (.tmp 32), false, some (31, false)⟩,
  ⟨some 34, .move (.tmp 3), false, some (31, false)⟩,
  ⟨some 35, .binOp .and 3 (.tmp 33) (.tmp 34) 3, false, some (31, false)⟩,
  ⟨some 36, .move (.tmp 3), false, some (31, false)⟩,
  ⟨some 37, .binOp .neq 3 (.tmp 35) (.tmp 36) 3, false, some (31, false)⟩,
  ⟨some 38, .pick (.tmp 31) (.const (.bool true)) (.tmp 37), false, none⟩]) <|
 .seq (.keep [0, 1, 3, 10, 14, 15, 38]) <|
 .cond (.tmp 38) (.seq (.ops [⟨some 39, .move (.tmp 1), false, none⟩,
  ⟨some 40, .move (.tmp 10), false, none⟩,
  ⟨some 41, .binOp .add 22 (.tmp 39) (.tmp 40) 22, false, none⟩,
  ⟨some 8, .assign (.tmp 41), false, none⟩,
  ⟨some 9, .assign (.const (.bool true)), false, none⟩]) <|
 .seq (.keep [8, 9]) <|
 .ret) <|
 .skip) <|
 .seq (.keep [0, 1, 3, 14, 15]) <|
 .ops [⟨some 42, .binOp .add 22 (.tmp 15) (.const (.int .u64 1)) 22, false, none⟩,
  ⟨some 15, .move (.tmp 42), false, none⟩]) <|
 .keep [0, 1, 3, 14, 15]) <|
 .seq (.keep []) <|
 .seq (.ops [⟨some 8, .assign (.const (.int .u64 0)), false, none⟩,
  ⟨some 9, .assign (.const (.bool false)), false, none⟩]) <|
 .seq (.keep [8, 9]) <|
 .ret
theorem c50 : Try.f50.body.map (fun c => ((compile Try.prog kp50 [] kp50 c).map (·.1), fits Try.f50.ntmps c)) = some (some s50, true) := by kernel_rfl
theorem r50 : Try.f50.results.toList = [.tmp 8, .tmp 9] := by kernel_rfl
-- marionette/word.Get
abbrev kp51 : List Nat := [4]
def s51 : SC :=
 .seq (.ops [⟨some 4, .assign (.const (.int .u64 0)), false, none⟩]) <|
 .seq (.keep [0, 1]) <|
 .seq (.seq (.ops [⟨some 8, .move (.tmp 1), false, none⟩,
  ⟨some 9, .binOp .lss 3 (.tmp 8) (.const (.int .i64 1)) 3, false, none⟩,
  ⟨some 10, .move (.tmp 9), false, none⟩,
  ⟨some 11, .move (.tmp 1), false, some (10, false)⟩,
  ⟨some 12, .binOp .gtr 3 (.tmp 11) (.const (.int .i64 8)) 3, false, some (10, false)⟩,
  ⟨some 13, .pick (.tmp 10) (.const (.bool true)) (.tmp 12), false, none⟩]) <|
 .seq (.keep [0, 1, 13]) <|
 .cond (.tmp 13) (.seq (.ops [⟨some 4, .assign (.const (.int .u64 0)), false, none⟩]) <|
 .seq (.keep [4]) <|
 .ret) <|
 .skip) <|
 .seq (.keep [0, 1]) <|
 .seq (.ops [⟨some 5, .assign (.const (.int .u64 0)), false, none⟩]) <|
 .seq (.keep [0, 1, 5]) <|
 .seq (.seq (.ops [⟨some 14, .move (.tmp 0), false, none⟩,
  ⟨some 15, .move (.tmp 1), false, none⟩,
  ⟨some 16, .move (.tmp 0), false, none⟩,
  ⟨some 17, .call ⟨.builtin .len, #[(.tmp 16)], #[50]⟩, false, none⟩,
  ⟨some 18, .call ⟨.builtin .min, #[(.tmp 15), (.tmp 17)], #[3, 3]⟩, false, none⟩,
  ⟨some 19, .slice 50 (.tmp 14) none (some (.tmp 18)) none, false, none⟩,
  ⟨some 20, .call ⟨.builtin .len, #[(.tmp 19)], #[50]⟩, false, none⟩,
  ⟨some 21, .move (.const (.int .i64 0)), false, none⟩]) <|
 .seq (.keep [5, 19, 20, 21]) <|
 .block 0 <| .loop <| .seq (.seq (.ops [⟨some 22, .binOp .lss 3 (.tmp 21) (.tmp 20) 3, false, none⟩]) <|
 .seq (.keep [5, 19, 20, 21, 22]) <|
 .seq (.cond (.tmp 22) (.skip) <|
 .exit 0) <|
 .seq (.keep [5, 19, 20, 21]) <|
 .seq (.block 1 <| .seq (.ops [⟨some 23, .move (.tmp 21), false, none⟩,
  ⟨some 24, .indexAddr 50 (.tmp 19) (.tmp 21), false, none⟩,
  ⟨some 25, .load 5 (.tmp 24), false, none⟩,
  ⟨some 6, .assign (.tmp 23), false, none⟩,
  ⟨some 7, .assign (.tmp 25), false, none⟩]) <|
 .seq (.keep [5, 6, 7, 19, 20, 21]) <|
 .ops [⟨some 26, .move (.tmp 5), false, none⟩,
  ⟨some 27, .move (.tmp 7), false, none⟩,
  ⟨some 28, .convert 5 22 (.tmp 27), false, none⟩,
  ⟨some 29, .move (.tmp 6), false, none⟩,
  ⟨some 30, .binOp .mul 3 (.const (.int .i64 8)) (.tmp 29) 3, false, none⟩,
  ⟨some 31, .binOp .shl 22 (.tmp 28) (.tmp 30) 3, false, none⟩,
  ⟨some 32, .binOp .or 22 (.tmp 26) (.tmp 31) 22, false, none⟩,
  ⟨some 5, .assign (.tmp 32), false, none⟩]) <|
 .seq (.keep [5, 19, 20, 21]) <|
 .ops [⟨some 33, .binOp .add 3 (.tmp 21) (.const (.int .i64 1)) 3, false, none⟩,
  ⟨some 21, .move (.tmp 33), false, none⟩]) <|
 .keep [5, 19, 20, 21]) <|
 .seq (.keep [5]) <|
 .seq (.ops [⟨some 34, .move (.tmp 5), false, none⟩,
  ⟨some 4, .assign (.tmp 34), false, none⟩]) <|
 .seq (.keep [4]) <|
 .ret
theorem c51 : Try.f51.body.map (fun c => ((compile Try.prog kp51 [] kp51 c).map (·.1), fits Try.f51.ntmps c)) = some (some s51, true) := by kernel_rfl
theorem r51 : Try.f51.results.toList = [.tmp 4] := by kernel_rfl
-- (*marionette/page.Store).Read
abbrev kp52 : List Nat := [6]
def s52 : SC :=
 .seq (.ops [⟨some 6, .assign (.const (.slice none 0 0)), false, none⟩]) <|
 .seq (.keep [0, 1, 2]) <|
 .seq (.seq (.ops [⟨some 13, .move (.tmp 0), false, none⟩,
  ⟨some 14, .binOp .eql 84 (.tmp 13) (.const (.pointer none)) 84, false, none⟩,
  ⟨some 15, .move (.tmp 14), false, none⟩,
  ⟨some 16, .move (.tmp 2), false, some (15, false)⟩,
  ⟨some 17, .binOp .lss 3 (.tmp 16) (.const (.int .i64 1)) 3, false, some (15, false)⟩,
  ⟨some 18, .pick (.tmp 15) (.const (.bool true)) (.tmp 17), false, none⟩,
  ⟨some 19, .move (.tmp 18), false, none⟩,
  ⟨some 20, .move (.tmp 2), false, some (19, false)⟩,
  ⟨some 21, .binOp .gtr 3 (.tmp 20) (.const (.int .i64 4194304)) 3, false, some (19, false)⟩,
  ⟨some 22, .pick (.tmp 19) (.const (.bool true)) (.tmp 21), false, none⟩]) <|
 .seq (.keep [0, 1, 2, 22]) <|
 .cond (.tmp 22) (.seq (.ops [⟨some 6, .assign (.const (.slice none 0 0)), false, none⟩]) <|
 .seq (.keep [6]) <|
 .ret) <|
 .skip) <|
 .seq (.keep [0, 1, 2]) <|
 .seq (.ops [⟨some 23, .move (.tmp 2), false, none⟩,
  ⟨some 24, .makeSlice 50 (.tmp 23) (.tmp 23), true, none⟩,
  ⟨some 7, .assign (.tmp 24), false, none⟩]) <|
 .seq (.keep [0, 1, 7]) <|
 .seq (.seq (.ops [⟨some 25, .move (.tmp 7), false, none⟩,
  ⟨some 8, .assign (.tmp 25), false, none⟩]) <|
 .seq (.keep [0, 1, 7, 8]) <|
 .block 0 <| .loop <| .seq (.seq (.seq (.ops [⟨some 26, .move (.tmp 8), false, none⟩,
  ⟨some 27, .call ⟨.builtin .len, #[(.tmp 26)], #[50]⟩, false, none⟩,
  ⟨some 28, .binOp .gtr 3 (.tmp 27) (.const (.int .i64 0)) 3, false, none⟩,
  ⟨some 29, .move (.tmp 28), false, none⟩,
  ⟨some 30, .move (.tmp 1), false, some (29, true)⟩,
  ⟨some 31, .binOp .lss 22 (.tmp 30) (.const (.int .u64 274877906944)) 22, false, some (29, true)⟩,
  ⟨some 32, .pick (.tmp 29) (.tmp 31) (.const (.bool false)), false, none⟩]) <|
 .seq (.keep [0, 1, 7, 8, 32]) <|
 .cond (.tmp 32) (.skip) <|
 .exit 0) <|
 .seq (.keep [0, 1, 7, 8]) <|
 .block 1 <| .seq (.ops [⟨some 34, .move (.tmp 1), false, none⟩,
  ⟨some 35, .move (.tmp 8), false, none⟩,
  ⟨some 36, .call ⟨.builtin .len, #[(.tmp 35)], #[50]⟩, false, none⟩,
  ⟨some 37, .call ⟨.value (.func 74), #[(.tmp 34), (.tmp 36)], #[22, 3]⟩, true, none⟩,
  ⟨some 33, .move (.tmp 37), false, none⟩,
  ⟨some 38, .extract (.tmp 33) 0, false, none⟩,
  ⟨some 39, .extract (.tmp 33) 1, false, none⟩,
  ⟨some 9, .assign (.tmp 38), false, none⟩,
  ⟨some 10, .assign (.tmp 39), false, none⟩]) <|
 .seq (.keep [0, 1, 7, 8, 9, 10]) <|
 .seq (.seq (.ops [⟨some 41, .move (.tmp 0), false, none⟩,
  ⟨some 42, .nilCheck (.tmp 41), false, none⟩,
  ⟨some 43, .fieldAddr 111 (.tmp 42) 0, false, none⟩,
  ⟨some 44, .load 108 (.tmp 43), false, none⟩,
  ⟨some 45, .move (.tmp 1), false, none⟩,
  ⟨some 46, .binOp .quo 22 (.tmp 45) (.const (.int .u64 4096)) 22, false, none⟩,
  ⟨some 47, .lookup 108 (.tmp 44) (.tmp 46) true, false, none⟩,
  ⟨some 40, .move (.tmp 47), false, none⟩,
  ⟨some 48, .extract (.tmp 40) 0, false, none⟩,
  ⟨some 49, .extract (.tmp 40) 1, false, none⟩,
  ⟨some 11, .assign (.tmp 48), false, none⟩,
  ⟨some 12, .assign (.tmp 49), false, none⟩]) <|
 .seq (.keep [0, 1, 7, 8, 9, 10, 11, 12]) <|
 .seq (.ops [⟨some 50, .move (.tmp 12), false, none⟩]) <|
 .seq (.keep [0, 1, 7, 8, 9, 10, 11, 50]) <|
 .cond (.tmp 50) (.seq (.ops [⟨some 51, .move (.tmp 8), false, none⟩]) <|
 .seq (.ops [⟨some 52, .move (.tmp 10), false, none⟩]) <|
 .seq (.ops [⟨some 53, .slice 50 (.tmp 51) none (some (.tmp 52)) none, false, none⟩]) <|
 .seq (.ops [⟨some 54, .move (.tmp 11), false, none⟩]) <|
 .seq (.ops [⟨some 55, .nilCheck (.tmp 54), false, none⟩]) <|
 .seq (.ops [⟨some 56, .move (.tmp 9), false, none⟩]) <|
 .seq (.ops [⟨some 57, .slice 117 (.tmp 55) (some (.tmp 56)) none none, false, none⟩]) <|
 .seq (.ops [⟨some 58, .call ⟨.builtin .copy, #[(.tmp 53), (.tmp 57)], #[50, 50]⟩, true, none⟩]) <|
 .skip) <|
 .skip) <|
 .seq (.keep [0, 1, 7, 8, 10]) <|
 .seq (.ops [⟨some 59, .move (.tmp 8), false, none⟩,
  ⟨some 60, .move (.tmp 10), false, none⟩,
  ⟨some 61, .slice 50 (.tmp 59) (some (.tmp 60)) none none, false, none⟩,
  ⟨some 8, .assign (.tmp 61), false, none⟩]) <|
 .seq (.keep [0, 1, 7, 8, 10]) <|
 .ops [⟨some 62, .move (.tmp 1), false, none⟩,
  ⟨some 63, .move (.tmp 10), false, none⟩,
  ⟨some 64, .convert 3 22 (.tmp 63), false, none⟩,
  ⟨some 65, .binOp .add 22 (.tmp 62) (.tmp 64) 22, false, none⟩,
  ⟨some 1, .assign (.tmp 65), false, none⟩]) <|
 .keep [0, 1, 7, 8]) <|
 .seq (.keep [7]) <|
 .seq (.ops [⟨some 66, .move (.tmp 7), false, none⟩,
  ⟨some 6, .assign (.tmp 66), false, none⟩]) <|
 .seq (.keep [6]) <|
 .ret
theorem c52 : Try.f52.body.map (fun c => ((compile Try.prog kp52 [] kp52 c).map (·.1), fits Try.f52.ntmps c)) = some (some s52, true) := by kernel_rfl
theorem r52 : Try.f52.results.toList = [.tmp 6] := by kernel_rfl
-- marionette/mem.up
abbrev kp53 : List Nat := [2, 3]
def s53 : SC :=
 .seq (.ops [⟨some 2, .assign (.const (.int .u64 0)), false, none⟩,
  ⟨some 3, .assign (.const (.bool false)), false, none⟩]) <|
 .seq (.keep [0]) <|
 .seq (.seq (.ops [⟨some 4, .move (.tmp 0), false, none⟩,
  ⟨some 5, .binOp .gtr 22 (.tmp 4) (.const (.int .u64 274877906944)) 22, false, none⟩]) <|
 .seq (.keep [0, 5]) <|
 .cond (.tmp 5) (.seq (.ops [⟨some 2, .assign (.const (.int .u64 0)), false, none⟩,
  ⟨some 3, .assign (.const (.bool false)), false, none⟩]) <|
 .seq (.keep [2, 3]) <|
 .ret) <|
 .skip) <|
 .seq (.keep [0]) <|
 .seq (.ops [⟨some 6, .move (.tmp 0), false, none⟩,
  ⟨some 7, .binOp .add 22 (.tmp 6) (.const (.int .u64 4096)) 22, false, none⟩,
  ⟨some 8, .binOp .sub 22 (.tmp 7) (.const (.int .u64 1)) 22, false, none⟩,
  ⟨some 9, .binOp .quo 22 (.tmp 8) (.const (.int .u64 4096)) 22, false, none⟩,
  ⟨some 10, .binOp .mul 22 (.tmp 9) (.const (.int .u64 4096)) 22, false, none⟩,
  ⟨some 2, .assign (.tmp 10), false, none⟩,
  ⟨some 3, .assign (.const (.bool true)), false, none⟩]) <|
 .seq (.keep [2, 3]) <|
 .ret
theorem c53 : Try.f53.body.map (fun c => ((compile Try.prog kp53 [] kp53 c).map (·.1), fits Try.f53.ntmps c)) = some (some s53, true) := by kernel_rfl
theorem r53 : Try.f53.results.toList = [.tmp 2, .tmp 3] := by kernel_rfl
-- (*marionette/region.List).Free
abbrev kp54 : List Nat := [6]
def s54 : SC :=
 .seq (.ops [⟨some 4, .box 22 (.tmp 1), true, none⟩,
  ⟨some 5, .box 22 (.tmp 2), true, none⟩,
  ⟨some 6, .assign (.const (.bool false)), false, none⟩]) <|
 .seq (.keep [0, 4, 5]) <|
 .seq (.ops [⟨some 7, .move (.tmp 0), false, none⟩,
  ⟨some 8, .binOp .neq 82 (.tmp 7) (.const (.pointer none)) 82, false, none⟩,
  ⟨some 9, .move (.tmp 8), false, none⟩,
  ⟨some 10, .load 22 (.tmp 4), false, some (9, true)⟩,
  ⟨some 11, .load 22 (.tmp 5), false, some (9, true)⟩,
  ⟨some 12, .call ⟨.value (.func 76), #[(.tmp 10), (.tmp 11)], #[22, 22]⟩, true, some (9, true)⟩,
  ⟨some 13, .pick (.tmp 9) (.tmp 12) (.const (.bool false)), false, none⟩,
  ⟨some 14, .move (.tmp 13), false, none⟩,
  ⟨some 15, .move (.tmp 0), false, some (14, true)⟩,
  ⟨some 16, .nilCheck (.tmp 15), false, some (14, true)⟩,
  ⟨some 17, .fieldAddr 107 (.tmp 16) 0, false, some (14, true)⟩,
  ⟨some 18, .load 105 (.tmp 17), false, some (14, true)⟩,
  ⟨some 19, .makeFunc (.func 78) #[] #[(.tmp 5), (.tmp 4)], false, some (14, true)⟩,
  ⟨some 20, .call ⟨.value (.func 77), #[(.tmp 18), (.tmp 19)], #[105, 119]⟩, true, some (14, true)⟩,
  ⟨some 21, .unOp .not 4 (.tmp 20), false, some (14, true)⟩,
  ⟨some 22, .pick (.tmp 14) (.tmp 21) (.const (.bool false)), false, none⟩,
  ⟨some 6, .assign (.tmp 22), false, none⟩]) <|
 .seq (.keep [6]) <|
 .ret
theorem c54 : Try.f54.body.map (fun c => ((compile Try.prog kp54 [] kp54 c).map (·.1), fits Try.f54.ntmps c)) = some (some s54, true) := by kernel_rfl
theorem r54 : Try.f54.results.toList = [.tmp 6] := by kernel_rfl
-- (*marionette/mem.Space).Unmap
abbrev kp55 : List Nat := [6]
def s55 : SC :=
 .seq (.ops [⟨some 6, .assign (.const (.int .i64 0)), false, none⟩]) <|
 .seq (.keep [0, 1, 2]) <|
 .seq (.ops [⟨some 11, .move (.tmp 1), false, none⟩,
  ⟨some 12, .move (.tmp 2), false, none⟩,
  ⟨some 13, .call ⟨.value (.func 43), #[(.tmp 11), (.tmp 12)], #[22, 22]⟩, true, none⟩,
  ⟨some 10, .move (.tmp 13), false, none⟩,
  ⟨some 14, .extract (.tmp 10) 0, false, none⟩,
  ⟨some 15, .extract (.tmp 10) 1, false, none⟩,
  ⟨some 7, .assign (.tmp 14), false, none⟩,
  ⟨some 8, .assign (.tmp 15), false, none⟩]) <|
 .seq (.keep [0, 1, 7, 8]) <|
 .seq (.seq (.ops [⟨some 16, .move (.tmp 0), false, none⟩,
  ⟨some 17, .binOp .eql 31 (.tmp 16) (.const (.pointer none)) 31, false, none⟩,
  ⟨some 18, .move (.tmp 17), false, none⟩,
  ⟨some 19, .move (.tmp 8), false, some (18, false)⟩,
  ⟨some 20, .unOp .not 4 (.tmp 19), false, some (18, false)⟩,
  ⟨some 21, .pick (.tmp 18) (.const (.bool true)) (.tmp 20), false, none⟩]) <|
 .seq (.keep [0, 1, 7, 21]) <|
 .cond (.tmp 21) (.seq (.ops [⟨some 6, .assign (.const (.int .i64 22)), false, none⟩]) <|
 .seq (.keep [6]) <|
 .ret) <|
 .skip) <|
 .seq (.keep [0, 1, 7]) <|
 .seq (.ops [⟨some 22, .move (.tmp 0), false, none⟩,
  ⟨some 23, .nilCheck (.tmp 22), false, none⟩,
  ⟨some 24, .fieldAddr 87 (.tmp 23) 0, false, none⟩,
  ⟨some 25, .load 82 (.tmp 24), false, none⟩,
  ⟨some 26, .move (.tmp 1), false, none⟩,
  ⟨some 27, .move (.tmp 7), false, none⟩,
  ⟨some 28, .call ⟨.value (.func 79), #[(.tmp 25), (.tmp 26), (.tmp 27)], #[82, 22, 22]⟩, true, none⟩,
  ⟨some 9, .assign (.tmp 28), false, none⟩]) <|
 .seq (.keep [0, 1, 7, 9]) <|
 .seq (.seq (.ops [⟨some 29, .move (.tmp 9), false, none⟩,
  ⟨some 30, .binOp .eql 34 (.tmp 29) (.const (.int .i64 0)) 34, false, none⟩]) <|
 .seq (.keep [0, 1, 7, 9, 30]) <|
 .cond (.tmp 30) (.ops [⟨some 31, .move (.tmp 0), false, none⟩,
  ⟨some 32, .nilCheck (.tmp 31), false, none⟩,
  ⟨some 33, .fieldAddr 87 (.tmp 32) 1, false, none⟩,
  ⟨some 34, .load 84 (.tmp 33), false, none⟩,
  ⟨some 35, .move (.tmp 1), false, none⟩,
  ⟨some 36, .move (.tmp 7), false, none⟩,
  ⟨some 37, .call ⟨.value (.func 73), #[(.tmp 34), (.tmp 35), (.tmp 36)], #[84, 22, 22]⟩, true, none⟩]) <|
 .skip) <|
 .seq (.keep [9]) <|
 .seq (.ops [⟨some 38, .move (.tmp 9), false, none⟩,
  ⟨some 6, .assign (.tmp 38), false, none⟩]) <|
 .seq (.keep [6]) <|
 .ret
theorem c55 : Try.f55.body.map (fun c => ((compile Try.prog kp55 [] kp55 c).map (·.1), fits Try.f55.ntmps c)) = some (some s55, true) := by kernel_rfl
theorem r55 : Try.f55.results.toList = [.tmp 6] := by kernel_rfl
-- (*marionette/region.List).At
abbrev kp56 : List Nat := [4, 5]
def s56 : SC :=
 .seq (.ops [⟨some 3, .box 22 (.tmp 1), true, none⟩,
  ⟨some 4, .alloc 95, true, none⟩,
  ⟨some 5, .assign (.const (.bool false)), false, none⟩]) <|
 .seq (.keep [0, 3, 4]) <|
 .seq (.seq (.ops [⟨some 7, .move (.tmp 0), false, none⟩,
  ⟨some 8, .binOp .eql 82 (.tmp 7) (.const (.pointer none)) 82, false, none⟩]) <|
 .seq (.keep [0, 3, 4, 8]) <|
 .cond (.tmp 8) (.seq (.ops [⟨some 9, .build 95 #[], false, none⟩,
  ⟨none, .store 95 (.tmp 4) (.tmp 9), true, none⟩,
  ⟨some 5, .assign (.const (.bool false)), false, none⟩]) <|
 .seq (.keep [4, 5]) <|
 .ret) <|
 .skip) <|
 .seq (.keep [0, 3, 4]) <|
 .seq (.ops [⟨some 10, .move (.tmp 0), false, none⟩,
  ⟨some 11, .nilCheck (.tmp 10), false, none⟩,
  ⟨some 12, .fieldAddr 107 (.tmp 11) 0, false, none⟩,
  ⟨some 13, .load 105 (.tmp 12), false, none⟩,
  ⟨some 14, .makeFunc (.func 81) #[] #[(.tmp 3)], false, none⟩,
  ⟨some 15, .call ⟨.value (.func 80), #[(.tmp 13), (.tmp 14)], #[105, 119]⟩, true, none⟩,
  ⟨some 6, .assign (.tmp 15), false, none⟩]) <|
 .seq (.keep [0, 4, 6]) <|
 .seq (.seq (.ops [⟨some 16, .move (.tmp 6), false, none⟩,
  ⟨some 17, .binOp .lss 3 (.tmp 16) (.const (.int .i64 0)) 3, false, none⟩]) <|
 .seq (.keep [0, 4, 6, 17]) <|
 .cond (.tmp 17) (.seq (.ops [⟨some 18, .build 95 #[], false, none⟩,
  ⟨none, .store 95 (.tmp 4) (.tmp 18), true, none⟩,
  ⟨some 5, .assign (.const (.bool false)), false, none⟩]) <|
 .seq (.keep [4, 5]) <|
 .ret) <|
 .skip) <|
 .seq (.keep [0, 4, 6]) <|
 .seq (.ops [⟨some 19, .move (.tmp 0), false, none⟩,
  ⟨some 20, .nilCheck (.tmp 19), false, none⟩,
  ⟨some 21, .fieldAddr 107 (.tmp 20) 0, false, none⟩,
  ⟨some 22, .load 105 (.tmp 21), false, none⟩,
  ⟨some 23, .move (.tmp 6), false, none⟩,
  ⟨some 24, .indexAddr 105 (.tmp 22) (.tmp 23), false, none⟩,
  ⟨some 25, .load 95 (.tmp 24), false, none⟩,
  ⟨none, .store 95 (.tmp 4) (.tmp 25), true, none⟩,
  ⟨some 5, .assign (.const (.bool true)), false, none⟩]) <|
 .seq (.keep [4, 5]) <|
 .ret
theorem c56 : Try.f56.body.map (fun c => ((compile Try.prog kp56 [] kp56 c).map (·.1), fits Try.f56.ntmps c)) = some (some s56, true) := by kernel_rfl
theorem r56 : Try.f56.results.toList = [.cell 4 95, .tmp 5] := by kernel_rfl
-- (*marionette/region.List).Protect
abbrev kp57 : List Nat := [8]
def s57 : SC :=
 .seq (.ops [⟨some 8, .assign (.const (.int .i64 0)), false, none⟩]) <|
 .seq (.keep [0, 1, 2, 3]) <|
 .seq (.seq (.ops [⟨some 11, .move (.tmp 0), false, none⟩,
  ⟨some 12, .binOp .eql 82 (.tmp 11) (.const (.pointer none)) 82, false, none⟩,
  ⟨some 13, .move (.tmp 12), false, none⟩,
  ⟨some 14, .move (.tmp 1), false, some (13, false)⟩,
  ⟨some 15, .move (.tmp 2), false, some (13, false)⟩,
  ⟨some 16, .call ⟨.value (.func 76), #[(.tmp 14), (.tmp 15)], #[22, 22]⟩, true, some (13, false)⟩,
  ⟨some 17, .unOp .not 4 (.tmp 16), false, some (13, false)⟩,
  ⟨some 18, .pick (.tmp 13) (.const (.bool true)) (.tmp 17), false, none⟩,
  ⟨some 19, .move (.tmp 18), false, none⟩,
  ⟨some 20, .move (.tmp 3), false, some (19, false)⟩,
  ⟨some 21, .call ⟨.value (.func 82), #[(.tmp 20)], #[3]⟩, true, some (19, false)⟩,
  ⟨some 22, .unOp .not 4 (.tmp 21), false, some (19, false)⟩,
  ⟨some 23, .pick (.tmp 19) (.const (.bool true)) (.tmp 22), false, none⟩]) <|
 .seq (.keep [0, 1, 2, 3, 23]) <|
 .cond (.tmp 23) (.seq (.ops [⟨some 8, .assign (.const (.int .i64 22)), false, none⟩]) <|
 .seq (.keep [8]) <|
 .ret) <|
 .skip) <|
 .seq (.keep [0, 1, 2, 3]) <|
 .seq (.seq (.ops [⟨some 25, .move (.tmp 0), false, none⟩,
  ⟨some 26, .move (.tmp 1), false, none⟩,
  ⟨some 27, .move (.tmp 2), false, none⟩,
  ⟨some 28, .call ⟨.value (.func 83), #[(.tmp 25), (.tmp 26), (.tmp 27), (.const (.int .i64 0))], #[82, 22, 22, 3]⟩, true, none⟩,
  ⟨some 24, .move (.tmp 28), false, none⟩,
  ⟨some 29, .extract (.tmp 24) 0, false, none⟩,
  ⟨some 30, .extract (.tmp 24) 1, false, none⟩,
  ⟨some 9, .assign (.tmp 29), false, none⟩,
  ⟨some 10, .assign (.tmp 30), false, none⟩]) <|
 .seq (.keep [0, 1, 2, 3, 10]) <|
 .seq (.ops [⟨some 31, .move (.tmp 10), false, none⟩]) <|
 .seq (.keep [0, 1, 2, 3, 31]) <|
 .cond (.tmp 31) (.seq (.ops [⟨some 8, .assign (.const (.int .i64 12)), false, none⟩]) <|
 .seq (.keep [8]) <|
 .ret) <|
 .skip) <|
 .seq (.keep [0, 1, 2, 3]) <|
 .seq (.ops [⟨some 32, .move (.tmp 0), false, none⟩,
  ⟨some 33, .move (.tmp 0), false, none⟩,
  ⟨some 34, .nilCheck (.tmp 33), false, none⟩,
  ⟨some 35, .fieldAddr 107 (.tmp 34) 0, false, none⟩,
  ⟨some 36, .load 105 (.tmp 35), false, none⟩,
  ⟨some 37, .move (.tmp 1), false, none⟩,
  ⟨some 38, .move (.tmp 2), false, none⟩,
  ⟨some 39, .move (.tmp 3), false, none⟩,
  ⟨some 40, .build 95 #[(0, (.tmp 37)), (1, (.tmp 38)), (2, (.tmp 39))], false, none⟩,
  ⟨some 41, .call ⟨.value (.func 85), #[(.tmp 36), (.tmp 40)], #[105, 95]⟩, true, none⟩,
  ⟨some 42, .call ⟨.value (.func 84), #[(.tmp 32), (.tmp 41)], #[82, 105]⟩, true, none⟩,
  ⟨some 8, .assign (.tmp 42), false, none⟩]) <|
 .seq (.keep [8]) <|
 .ret
theorem c57 : Try.f57.body.map (fun c => ((compile Try.prog kp57 [] kp57 c).map (·.1), fits Try.f57.ntmps c)) = some (some s57, true) := by kernel_rfl
theorem r57 : Try.f57.results.toList = [.tmp 8] := by kernel_rfl
-- (*marionette/page.Store).Touch
abbrev kp58 : List Nat := []
def s58 : SC :=
 .seq (.ops [⟨some 7, .move (.tmp 2), false, none⟩,
  ⟨some 8, .call ⟨.builtin .min, #[(.tmp 7), (.const (.int .u64 274877906944))], #[22, 22]⟩, false, none⟩,
  ⟨some 2, .assign (.tmp 8), false, none⟩]) <|
 .seq (.keep [0, 1, 2]) <|
 .seq (.seq (.ops [⟨some 9, .move (.tmp 0), false, none⟩,
  ⟨some 10, .binOp .eql 84 (.tmp 9) (.const (.pointer none)) 84, false, none⟩,
  ⟨some 11, .move (.tmp 10), false, none⟩,
  ⟨some 12, .move (.tmp 2), false, some (11, false)⟩,
  ⟨some 13, .move (.tmp 1), false, some (11, false)⟩,
  ⟨some 14, .binOp .leq 22 (.tmp 12) (.tmp 13) 22, false, some (11, false)⟩,
  ⟨some 15, .pick (.tmp 11) (.const (.bool true)) (.tmp 14), false, none⟩]) <|
 .seq (.keep [0, 1, 2, 15]) <|
 .cond (.tmp 15) (.ret) <|
 .skip) <|
 .seq (.keep [0, 1, 2]) <|
 .seq (.seq (.ops [⟨some 16, .move (.tmp 1), false, none⟩,
  ⟨some 17, .move (.tmp 2), false, none⟩,
  ⟨some 18, .call ⟨.value (.func 86), #[(.tmp 16), (.tmp 17)], #[22, 22]⟩, true, none⟩]) <|
 .seq (.keep [0, 1, 2, 18]) <|
 .cond (.tmp 18) (.seq (.ops [⟨some 19, .move (.tmp 0), false, none⟩,
  ⟨some 20, .nilCheck (.tmp 19), false, none⟩,
  ⟨some 21, .fieldAddr 111 (.tmp 20) 2, false, none⟩,
  ⟨some 22, .load 22 (.tmp 21), false, none⟩,
  ⟨some 23, .binOp .add 22 (.tmp 22) (.const (.int .u64 1)) 22, false, none⟩,
  ⟨some 24, .nilCheck (.tmp 19), false, none⟩,
  ⟨some 25, .fieldAddr 111 (.tmp 24) 2, false, none⟩,
  ⟨none, .store 22 (.tmp 25) (.tmp 23), true, none⟩]) <|
 .seq (.keep [0]) <|
 .seq (.ops [⟨some 26, .move (.tmp 0), false, none⟩,
  ⟨some 27, .move (.tmp 0), false, none⟩,
  ⟨some 28, .nilCheck (.tmp 27), false, none⟩,
  ⟨some 29, .fieldAddr 111 (.tmp 28) 2, false, none⟩,
  ⟨some 30, .load 22 (.tmp 29), false, none⟩,
  ⟨some 31, .nilCheck (.tmp 26), false, none⟩,
  ⟨some 32, .fieldAddr 111 (.tmp 31) 3, false, none⟩,
  ⟨none, .store 22 (.tmp 32) (.tmp 30), true, none⟩]) <|
 .seq (.keep []) <|
 .ret) <|
 .skip) <|
 .seq (.keep [0, 1, 2]) <|
 .seq (.ops [⟨some 33, .move (.tmp 1), false, none⟩,
  ⟨some 34, .binOp .quo 22 (.tmp 33) (.const (.int .u64 4096)) 22, false, none⟩,
  ⟨some 6, .assign (.tmp 34), false, none⟩]) <|
 .seq (.keep [0, 2, 6]) <|
 .block 0 <| .loop <| .seq (.seq (.seq (.ops [⟨some 35, .move (.tmp 6), false, none⟩,
  ⟨some 36, .binOp .mul 22 (.tmp 35) (.const (.int .u64 4096)) 22, false, none⟩,
  ⟨some 37, .move (.tmp 2), false, none⟩,
  ⟨some 38, .binOp .lss 22 (.tmp 36) (.tmp 37) 22, false, none⟩]) <|
 .seq (.keep [0, 2, 6, 38]) <|
 .cond (.tmp 38) (.skip) <|
 .exit 0) <|
 .seq (.keep [0, 2, 6]) <|
 .seq (.block 1 <| .ops [⟨some 41, .move (.tmp 0), false, none⟩,
  ⟨some 42, .move (.tmp 6), false, none⟩,
  ⟨some 43, .call ⟨.value (.func 75), #[(.tmp 41), (.tmp 42)], #[84, 22]⟩, true, none⟩]) <|
 .seq (.keep [0, 2, 6]) <|
 .ops [⟨some 39, .move (.tmp 6), false, none⟩,
  ⟨some 40, .binOp .add 22 (.tmp 39) (.const (.int .u64 1)) 22, false, none⟩,
  ⟨some 6, .assign (.tmp 40), false, none⟩]) <|
 .keep [0, 2, 6]
theorem c58 : Try.f58.body.map (fun c => ((compile Try.prog kp58 [] kp58 c).map (·.1), fits Try.f58.ntmps c)) = some (some s58, true) := by kernel_rfl
theorem r58 : Try.f58.results.toList = [] := by kernel_rfl
-- (*marionette/mem.Space).reach
abbrev kp59 : List Nat := [8]
def s59 : SC :=
 .seq (.ops [⟨some 8, .assign (.const (.int .i64 0)), false, none⟩]) <|
 .seq (.keep [0, 1, 2, 3]) <|
 .seq (.block 0 <| .seq (.ops [⟨some 12, .move (.tmp 2), false, none⟩,
  ⟨some 13, .binOp .lss 3 (.tmp 12) (.const (.int .i64 0)) 3, false, none⟩,
  ⟨some 14, .move (.tmp 13), false, none⟩,
  ⟨some 15, .move (.tmp 2), false, some (14, false)⟩,
  ⟨some 16, .binOp .gtr 3 (.tmp 15) (.const (.int .i64 4194304)) 3, false, some (14, false)⟩,
  ⟨some 17, .pick (.tmp 14) (.const (.bool true)) (.tmp 16), false, none⟩,
  ⟨some 11, .assign (.tmp 17), false, none⟩]) <|
 .seq (.keep [0, 1, 2, 3, 11]) <|
 .cond (.tmp 11) (.seq (.ops [⟨some 8, .assign (.const (.int .i64 22)), false, none⟩]) <|
 .seq (.keep [8]) <|
 .ret) <|
 .seq (.ops [⟨some 19, .move (.tmp 2), false, none⟩,
  ⟨some 20, .binOp .eql 3 (.tmp 19) (.const (.int .i64 0)) 3, false, none⟩,
  ⟨some 18, .assign (.tmp 20), false, none⟩]) <|
 .seq (.keep [0, 1, 2, 3, 18]) <|
 .cond (.tmp 18) (.seq (.ops [⟨some 8, .assign (.const (.int .i64 0)), false, none⟩]) <|
 .seq (.keep [8]) <|
 .ret) <|
 .seq (.ops [⟨some 22, .move (.tmp 1), false, none⟩,
  ⟨some 23, .binOp .geq 22 (.tmp 22) (.const (.int .u64 274877906944)) 22, false, none⟩,
  ⟨some 24, .move (.tmp 23), false, none⟩,
  ⟨some 25, .move (.tmp 2), false, some (24, false)⟩,
  ⟨some 26, .convert 3 22 (.tmp 25), false, some (24, false)⟩,
  ⟨some 27, .move (.tmp 1), false, some (24, false)⟩,
  ⟨some 28, .binOp .sub 22 (.const (.int .u64 274877906944)) (.tmp 27) 22, false, some (24, false)⟩,
  ⟨some 29, .binOp .gtr 22 (.tmp 26) (.tmp 28) 22, false, some (24, false)⟩,
  ⟨some 30, .pick (.tmp 24) (.const (.bool true)) (.tmp 29), false, none⟩,
  ⟨some 21, .assign (.tmp 30), false, none⟩]) <|
 .seq (.keep [0, 1, 2, 3, 21]) <|
 .cond (.tmp 21) (.seq (.ops [⟨some 8, .assign (.const (.int .i64 14)), false, none⟩]) <|
 .seq (.keep [8]) <|
 .ret) <|
 .skip) <|
 .seq (.keep [0, 1, 2, 3]) <|
 .seq (.seq (.ops [⟨some 32, .move (.tmp 0), false, none⟩,
  ⟨some 33, .nilCheck (.tmp 32), false, none⟩,
  ⟨some 34, .fieldAddr 87 (.tmp 33) 0, false, none⟩,
  ⟨some 35, .load 82 (.tmp 34), false, none⟩,
  ⟨some 36, .move (.tmp 1), false, none⟩,
  ⟨some 37, .move (.tmp 1), false, none⟩,
  ⟨some 38, .move (.tmp 2), false, none⟩,
  ⟨some 39, .convert 3 22 (.tmp 38), false, none⟩,
  ⟨some 40, .binOp .add 22 (.tmp 37) (.tmp 39) 22, false, none⟩,
  ⟨some 41, .move (.tmp 3), false, none⟩,
  ⟨some 42, .call ⟨.value (.func 83), #[(.tmp 35), (.tmp 36), (.tmp 40), (.tmp 41)], #[82, 22, 22, 3]⟩, true, none⟩,
  ⟨some 31, .move (.tmp 42), false, none⟩,
  ⟨some 43, .extract (.tmp 31) 0, false, none⟩,
  ⟨some 44, .extract (.tmp 31) 1, false, none⟩,
  ⟨some 9, .assign (.tmp 43), false, none⟩,
  ⟨some 10, .assign (.tmp 44), false, none⟩]) <|
 .seq (.keep [10]) <|
 .seq (.ops [⟨some 45, .move (.tmp 10), false, none⟩]) <|
 .seq (.keep [45]) <|
 .cond (.tmp 45) (.seq (.ops [⟨some 8, .assign (.const (.int .i64 14)), false, none⟩]) <|
 .seq (.keep [8]) <|
 .ret) <|
 .skip) <|
 .seq (.keep []) <|
 .seq (.ops [⟨some 8, .assign (.const (.int .i64 0)), false, none⟩]) <|
 .seq (.keep [8]) <|
 .ret
theorem c59 : Try.f59.body.map (fun c => ((compile Try.prog kp59 [] kp59 c).map (·.1), fits Try.f59.ntmps c)) = some (some s59, true) := by kernel_rfl
theorem r59 : Try.f59.results.toList = [.tmp 8] := by kernel_rfl
-- marionette/marionetteref06.New
abbrev kp60 : List Nat := [2]
def s60 : SC :=
 .seq (.ops [⟨some 2, .assign (.const (.pointer none)), false, none⟩]) <|
 .seq (.keep [0]) <|
 .seq (.seq (.ops [⟨some 3, .move (.tmp 0), false, none⟩,
  ⟨some 4, .binOp .lss 3 (.tmp 3) (.const (.int .i64 0)) 3, false, none⟩]) <|
 .seq (.keep [0, 4]) <|
 .cond (.tmp 4) (.ops [⟨some 0, .assign (.const (.int .i64 0)), false, none⟩]) <|
 .skip) <|
 .seq (.keep [0]) <|
 .seq (.ops [⟨some 5, .move (.tmp 0), false, none⟩,
  ⟨some 6, .build 126 #[(1, (.tmp 5))], false, none⟩,
  ⟨some 7, .box 126 (.tmp 6), true, none⟩,
  ⟨some 2, .assign (.tmp 7), false, none⟩]) <|
 .seq (.keep [2]) <|
 .ret
theorem c60 : Try.f60.body.map (fun c => ((compile Try.prog kp60 [] kp60 c).map (·.1), fits Try.f60.ntmps c)) = some (some s60, true) := by kernel_rfl
theorem r60 : Try.f60.results.toList = [.tmp 2] := by kernel_rfl
-- (*marionette/marionetteref06.Space).Lay
abbrev kp61 : List Nat := [8]
def s61 : SC :=
 .seq (.ops [⟨some 8, .assign (.const (.int .i64 0)), false, none⟩]) <|
 .seq (.keep [0, 1, 2, 3]) <|
 .seq (.seq (.ops [⟨some 13, .move (.tmp 2), false, none⟩,
  ⟨some 14, .move (.tmp 1), false, none⟩,
  ⟨some 15, .binOp .sub 22 (.tmp 13) (.tmp 14) 22, false, none⟩,
  ⟨some 16, .binOp .quo 22 (.tmp 15) (.const (.int .u64 4096)) 22, false, none⟩,
  ⟨some 17, .binOp .gtr 22 (.tmp 16) (.const (.int .u64 8192)) 22, false, none⟩]) <|
 .seq (.keep [0, 1, 2, 3, 17]) <|
 .cond (.tmp 17) (.seq (.ops [⟨some 8, .assign (.const (.int .i64 12)), false, none⟩]) <|
 .seq (.keep [8]) <|
 .ret) <|
 .skip) <|
 .seq (.keep [0, 1, 2, 3]) <|
 .seq (.ops [⟨some 18, .move (.tmp 0), false, none⟩,
  ⟨some 19, .move (.tmp 1), false, none⟩,
  ⟨some 20, .move (.tmp 2), false, none⟩,
  ⟨some 21, .call ⟨.value (.func 87), #[(.tmp 18), (.tmp 19), (.tmp 20)], #[75, 22, 22]⟩, true, none⟩,
  ⟨some 9, .assign (.tmp 21), false, none⟩]) <|
 .seq (.keep [0, 1, 2, 3, 9]) <|
 .seq (.seq (.ops [⟨some 22, .move (.tmp 9), false, none⟩,
  ⟨some 23, .call ⟨.builtin .len, #[(.tmp 22)], #[124]⟩, false, none⟩,
  ⟨some 24, .convert 3 22 (.tmp 23), false, none⟩,
  ⟨some 25, .move (.tmp 2), false, none⟩,
  ⟨some 26, .move (.tmp 1), false, none⟩,
  ⟨some 27, .binOp .sub 22 (.tmp 25) (.tmp 26) 22, false, none⟩,
  ⟨some 28, .binOp .quo 22 (.tmp 27) (.const (.int .u64 4096)) 22, false, none⟩,
  ⟨some 29, .binOp .add 22 (.tmp 24) (.tmp 28) 22, false, none⟩,
  ⟨some 30, .move (.tmp 0), false, none⟩,
  ⟨some 31, .nilCheck (.tmp 30), false, none⟩,
  ⟨some 32, .fieldAddr 126 (.tmp 31) 1, false, none⟩,
  ⟨some 33, .load 3 (.tmp 32), false, none⟩,
  ⟨some 34, .convert 3 22 (.tmp 33), false, none⟩,
  ⟨some 35, .binOp .gtr 22 (.tmp 29) (.tmp 34) 22, false, none⟩]) <|
 .seq (.keep [0, 1, 2, 3, 9, 35]) <|
 .cond (.tmp 35) (.seq (.ops [⟨some 8, .assign (.const (.int .i64 12)), false, none⟩]) <|
 .seq (.keep [8]) <|
 .ret) <|
 .skip) <|
 .seq (.keep [0, 1, 2, 3, 9]) <|
 .seq (.ops [⟨some 10, .assign (.const (.slice none 0 0)), false, none⟩]) <|
 .seq (.keep [0, 1, 2, 3, 9, 10]) <|
 .seq (.ops [⟨some 11, .assign (.const (.int .i64 0)), false, none⟩]) <|
 .seq (.keep [0, 1, 2, 3, 9, 10, 11]) <|
 .seq (.block 0 <| .loop <| .seq (.seq (.seq (.ops [⟨some 36, .move (.tmp 11), false, none⟩,
  ⟨some 37, .move (.tmp 9), false, none⟩,
  ⟨some 38, .call ⟨.builtin .len, #[(.tmp 37)], #[124]⟩, false, none⟩,
  ⟨some 39, .binOp .lss 3 (.tmp 36) (.tmp 38) 3, false, none⟩,
  ⟨some 40, .move (.tmp 39), false, none⟩,
  ⟨some 41, .move (.tmp 9), false, some (40, true)⟩,
  ⟨some 42, .move (.tmp 11), false, some (40, true)⟩,
  ⟨some 43, .indexAddr 124 (.tmp 41) (.tmp 42), false, some (40, true)⟩,
  ⟨some 44, .fieldAddr 129 (.tmp 43) 0, false, some (40, true)⟩,
  ⟨some 45, .load 22 (.tmp 44), false, some (40, true)⟩,
  ⟨some 46, .binOp .mul 22 (.tmp 45) (.const (.int .u64 4096)) 22, false, some (40, true)⟩,
  ⟨some 47, .move (.tmp 1), false, some (40, true)⟩,
  ⟨some 48, .binOp .lss 22 (.tmp 46) (.tmp 47) 22, false, some (40, true)⟩,
  ⟨some 49, .pick (.tmp 40) (.tmp 48) (.const (.bool false)), false, none⟩]) <|
 .seq (.keep [0, 1, 2, 3, 9, 10, 11, 49]) <|
 .cond (.tmp 49) (.skip) <|
 .exit 0) <|
 .seq (.keep [0, 1, 2, 3, 9, 10, 11]) <|
 .seq (.block 1 <| .ops [⟨some 52, .move (.tmp 10), false, none⟩,
  ⟨some 53, .move (.tmp 9), false, none⟩,
  ⟨some 54, .move (.tmp 11), false, none⟩,
  ⟨some 55, .indexAddr 124 (.tmp 53) (.tmp 54), false, none⟩,
  ⟨some 56, .load 129 (.tmp 55), false, none⟩,
  ⟨some 57, .buildSlice 124 1 #[(0, (.tmp 56))], true, none⟩,
  ⟨some 58, .call ⟨.builtin .append, #[(.tmp 52), (.tmp 57)], #[124, 124]⟩, true, none⟩,
  ⟨some 10, .assign (.tmp 58), false, none⟩]) <|
 .seq (.keep [0, 1, 2, 3, 9, 10, 11]) <|
 .ops [⟨some 50, .move (.tmp 11), false, none⟩,
  ⟨some 51, .binOp .add 3 (.tmp 50) (.const (.int .i64 1)) 3, false, none⟩,
  ⟨some 11, .assign (.tmp 51), false, none⟩]) <|
 .keep [0, 1, 2, 3, 9, 10, 11]) <|
 .seq (.keep [0, 1, 2, 3, 9, 10, 11]) <|
 .seq (.seq (.ops [⟨some 59, .move (.tmp 1), false, none⟩,
  ⟨some 12, .assign (.tmp 59), false, none⟩]) <|
 .seq (.keep [0, 2, 3, 9, 10, 11, 12]) <|
 .block 2 <| .loop <| .seq (.seq (.seq (.ops [⟨some 60, .move (.tmp 12), false, none⟩,
  ⟨some 61, .move (.tmp 2), false, none⟩,
  ⟨some 62, .binOp .lss 22 (.tmp 60) (.tmp 61) 22, false, none⟩]) <|
 .seq (.keep [0, 2, 3, 9, 10, 11, 12, 62]) <|
 .cond (.tmp 62) (.skip) <|
 .exit 2) <|
 .seq (.keep [0, 2, 3, 9, 10, 11, 12]) <|
 .seq (.block 3 <| .ops [⟨some 65, .move (.tmp 10), false, none⟩,
  ⟨some 66, .move (.tmp 12), false, none⟩,
  ⟨some 67, .binOp .quo 22 (.tmp 66) (.const (.int .u64 4096)) 22, false, none⟩,
  ⟨some 68, .move (.tmp 3), false, none⟩,
  ⟨some 69, .makeSlice 50 (.const (.int .i64 4096)) (.const (.int .i64 4096)), true, none⟩,
  ⟨some 70, .build 129 #[(0, (.tmp 67)), (1, (.tmp 68)), (2, (.tmp 69))], false, none⟩,
  ⟨some 71, .buildSlice 124 1 #[(0, (.tmp 70))], true, none⟩,
  ⟨some 72, .call ⟨.builtin .append, #[(.tmp 65), (.tmp 71)], #[124, 124]⟩, true, none⟩,
  ⟨some 10, .assign (.tmp 72), false, none⟩]) <|
 .seq (.keep [0, 2, 3, 9, 10, 11, 12]) <|
 .ops [⟨some 63, .move (.tmp 12), false, none⟩,
  ⟨some 64, .binOp .add 22 (.tmp 63) (.const (.int .u64 4096)) 22, false, none⟩,
  ⟨some 12, .assign (.tmp 64), false, none⟩]) <|
 .keep [0, 2, 3, 9, 10, 11, 12]) <|
 .seq (.keep [0, 9, 10, 11]) <|
 .seq (.ops [⟨some 73, .move (.tmp 10), false, none⟩,
  ⟨some 74, .move (.tmp 9), false, none⟩,
  ⟨some 75, .move (.tmp 11), false, none⟩,
  ⟨some 76, .slice 124 (.tmp 74) (some (.tmp 75)) none none, false, none⟩,
  ⟨some 77, .call ⟨.builtin .append, #[(.tmp 73), (.tmp 76)], #[124, 124]⟩, true, none⟩,
  ⟨some 10, .assign (.tmp 77), false, none⟩]) <|
 .seq (.keep [0, 10]) <|
 .seq (.seq (.ops [⟨some 78, .move (.tmp 10), false, none⟩,
  ⟨some 79, .call ⟨.value (.func 88), #[(.tmp 78)], #[124]⟩, true, none⟩,
  ⟨some 80, .call ⟨.builtin .len, #[(.tmp 79)], #[105]⟩, false, none⟩,
  ⟨some 81, .binOp .gtr 3 (.tmp 80) (.const (.int .i64 256)) 3, false, none⟩,
  ⟨some 82, .move (.tmp 81), false, none⟩,
  ⟨some 83, .move (.tmp 10), false, some (82, false)⟩,
  ⟨some 84, .call ⟨.builtin .len, #[(.tmp 83)], #[124]⟩, false, some (82, false)⟩,
  ⟨some 85, .move (.tmp 0), false, some (82, false)⟩,
  ⟨some 86, .nilCheck (.tmp 85), false, some (82, false)⟩,
  ⟨some 87, .fieldAddr 126 (.tmp 86) 1, false, some (82, false)⟩,
  ⟨some 88, .load 3 (.tmp 87), false, some (82, false)⟩,
  ⟨some 89, .binOp .gtr 3 (.tmp 84) (.tmp 88) 3, false, some (82, false)⟩,
  ⟨some 90, .pick (.tmp 82) (.const (.bool true)) (.tmp 89), false, none⟩]) <|
 .seq (.keep [0, 10, 90]) <|
 .cond (.tmp 90) (.seq (.ops [⟨some 8, .assign (.const (.int .i64 12)), false, none⟩]) <|
 .seq (.keep [8]) <|
 .ret) <|
 .skip) <|
 .seq (.keep [0, 10]) <|
 .seq (.ops [⟨some 91, .move (.tmp 0), false, none⟩,
  ⟨some 92, .move (.tmp 10), false, none⟩,
  ⟨some 93, .nilCheck (.tmp 91), false, none⟩,
  ⟨some 94, .fieldAddr 126 (.tmp 93) 0, false, none⟩,
  ⟨none, .store 124 (.tmp 94) (.tmp 92), true, none⟩]) <|
 .seq (.keep []) <|
 .seq (.ops [⟨some 8, .assign (.const (.int .i64 0)), false, none⟩]) <|
 .seq (.keep [8]) <|
 .ret
theorem c61 : Try.f61.body.map (fun c => ((compile Try.prog kp61 [] kp61 c).map (·.1), fits Try.f61.ntmps c)) = some (some s61, true) := by kernel_rfl
theorem r61 : Try.f61.results.toList = [.tmp 8] := by kernel_rfl
-- marionette/atom.conditional
abbrev kp62 : List Nat := [10, 11]
def s62 : SC :=
 .seq (.ops [⟨some 6, .box 62 (.tmp 1), true, none⟩,
  ⟨some 10, .assign (.const (.int .u64 0)), false, none⟩,
  ⟨some 11, .alloc 64, true, none⟩]) <|
 .seq (.keep [0, 2, 3, 4, 6, 11]) <|
 .seq (.seq (.ops [⟨some 13, .move (.tmp 0), false, none⟩,
  ⟨some 14, .move (.tmp 2), false, none⟩,
  ⟨some 15, .move (.tmp 3), false, none⟩,
  ⟨some 16, .call ⟨.value (.func 46), #[(.tmp 13), (.tmp 14), (.tmp 15)], #[31, 22, 3]⟩, true, none⟩,
  ⟨some 12, .alloc 41, true, none⟩,
  ⟨none, .store 41 (.tmp 12) (.tmp 16), true, none⟩]) <|
 .seq (.keep [0, 2, 3, 4, 6, 11, 12]) <|
 .seq (.ops [⟨some 17, .fieldAddr 41 (.tmp 12) 0, false, none⟩,
  ⟨some 18, .load 3 (.tmp 17), false, none⟩,
  ⟨some 19, .binOp .neq 3 (.tmp 18) (.const (.int .i64 0)) 3, false, none⟩]) <|
 .seq (.keep [0, 2, 3, 4, 6, 11, 12, 19]) <|
 .cond (.tmp 19) (.seq (.ops [⟨some 20, .load 41 (.tmp 12), false, none⟩,
  ⟨some 21, .call ⟨.value (.func 63), #[(.tmp 20)], #[41]⟩, true, none⟩,
  ⟨some 10, .assign (.const (.int .u64 0)), false, none⟩,
  ⟨none, .store 64 (.tmp 11) (.tmp 21), true, none⟩]) <|
 .seq (.keep [10, 11]) <|
 .ret) <|
 .skip) <|
 .seq (.keep [0, 2, 3, 4, 6, 11]) <|
 .seq (.seq (.ops [⟨some 22, .load 62 (.tmp 6), false, none⟩,
  ⟨some 23, .move (.tmp 2), false, none⟩,
  ⟨some 24, .move (.tmp 3), false, none⟩,
  ⟨some 25, .build 62 #[(0, (.tmp 23)), (1, (.tmp 24))], false, none⟩,
  ⟨some 26, .binOp .neq 62 (.tmp 22) (.tmp 25) 62, false, none⟩]) <|
 .seq (.keep [0, 2, 3, 4, 11, 26]) <|
 .cond (.tmp 26) (.seq (.ops [⟨some 27, .build 64 #[], false, none⟩,
  ⟨some 10, .assign (.const (.int .u64 1)), false, none⟩,
  ⟨none, .store 64 (.tmp 11) (.tmp 27), true, none⟩]) <|
 .seq (.keep [10, 11]) <|
 .ret) <|
 .skip) <|
 .seq (.keep [0, 2, 3, 4, 11]) <|
 .seq (.ops [⟨some 28, .move (.tmp 0), false, none⟩,
  ⟨some 29, .move (.tmp 2), false, none⟩,
  ⟨some 30, .move (.tmp 3), false, none⟩,
  ⟨some 31, .move (.tmp 4), false, none⟩,
  ⟨some 32, .call ⟨.value (.func 21), #[(.tmp 28), (.tmp 29), (.tmp 30), (.tmp 31)], #[31, 22, 3, 22]⟩, true, none⟩]) <|
 .seq (.keep [11]) <|
 .seq (.ops [⟨some 33, .build 64 #[], false, none⟩,
  ⟨some 10, .assign (.const (.int .u64 0)), false, none⟩,
  ⟨none, .store 64 (.tmp 11) (.tmp 33), true, none⟩]) <|
 .seq (.keep [10, 11]) <|
 .ret
theorem c62 : Try.f62.body.map (fun c => ((compile Try.prog kp62 [] kp62 c).map (·.1), fits Try.f62.ntmps c)) = some (some s62, true) := by kernel_rfl
theorem r62 : Try.f62.results.toList = [.tmp 10, .cell 11 64] := by kernel_rfl
-- marionette/atom.fault
abbrev kp63 : List Nat := [2]
def s63 : SC :=
 .seq (.ops [⟨some 1, .box 41 (.tmp 0), true, none⟩,
  ⟨some 2, .alloc 64, true, none⟩]) <|
 .seq (.keep [1, 2]) <|
 .seq (.ops [⟨some 3, .load 41 (.tmp 1), false, none⟩,
  ⟨some 4, .build 64 #[(0, (.const (.int .i64 4))), (1, (.tmp 3))], false, none⟩,
  ⟨none, .store 64 (.tmp 2) (.tmp 4), true, none⟩]) <|
 .seq (.keep [2]) <|
 .ret
theorem c63 : Try.f63.body.map (fun c => ((compile Try.prog kp63 [] kp63 c).map (·.1), fits Try.f63.ntmps c)) = some (some s63, true) := by kernel_rfl
theorem r63 : Try.f63.results.toList = [.cell 2 64] := by kernel_rfl
-- marionette/marionetteref01.bit
abbrev kp64 : List Nat := [4]
def s64 : SC :=
 .seq (.ops [⟨some 4, .assign (.const (.int .u64 0)), false, none⟩]) <|
 .seq (.keep [0, 1]) <|
 .seq (.ops [⟨some 5, .move (.tmp 0), false, none⟩,
  ⟨some 6, .move (.tmp 1), false, none⟩,
  ⟨some 7, .convert 3 45 (.tmp 6), false, none⟩,
  ⟨some 8, .binOp .shr 22 (.tmp 5) (.tmp 7) 45, false, none⟩,
  ⟨some 9, .binOp .rem 22 (.tmp 8) (.const (.int .u64 2)) 22, false, none⟩,
  ⟨some 4, .assign (.tmp 9), false, none⟩]) <|
 .seq (.keep [4]) <|
 .ret
theorem c64 : Try.f64.body.map (fun c => ((compile Try.prog kp64 [] kp64 c).map (·.1), fits Try.f64.ntmps c)) = some (some s64, true) := by kernel_rfl
theorem r64 : Try.f64.results.toList = [.tmp 4] := by kernel_rfl
-- (*marionette/marionetteref06.Space).Probe
abbrev kp65 : List Nat := [6]
def s65 : SC :=
 .seq (.ops [⟨some 6, .alloc 41, true, none⟩]) <|
 .seq (.keep [0, 1, 2, 6]) <|
 .seq (.seq (.ops [⟨some 9, .move (.tmp 2), false, none⟩,
  ⟨some 10, .call ⟨.value (.func 89), #[(.tmp 9)], #[3]⟩, true, none⟩,
  ⟨some 11, .unOp .not 4 (.tmp 10), false, none⟩]) <|
 .seq (.keep [0, 1, 2, 6, 11]) <|
 .cond (.tmp 11) (.seq (.ops [⟨some 12, .move (.tmp 1), false, none⟩,
  ⟨some 13, .build 41 #[(0, (.const (.int .i64 2))), (1, (.tmp 12))], false, none⟩,
  ⟨none, .store 41 (.tmp 6) (.tmp 13), true, none⟩]) <|
 .seq (.keep [6]) <|
 .ret) <|
 .skip) <|
 .seq (.keep [0, 1, 2, 6]) <|
 .seq (.ops [⟨some 15, .move (.tmp 0), false, none⟩,
  ⟨some 16, .move (.tmp 1), false, none⟩,
  ⟨some 17, .move (.tmp 2), false, none⟩,
  ⟨some 18, .call ⟨.value (.func 90), #[(.tmp 15), (.tmp 16), (.tmp 17), (.const (.int .i64 2))], #[75, 22, 3, 3]⟩, true, none⟩,
  ⟨some 14, .move (.tmp 18), false, none⟩,
  ⟨some 19, .extract (.tmp 14) 0, false, none⟩,
  ⟨some 20, .extract (.tmp 14) 1, false, none⟩,
  ⟨some 7, .assign (.tmp 19), false, none⟩,
  ⟨some 8, .assign (.tmp 20), false, none⟩]) <|
 .seq (.keep [6, 7, 8]) <|
 .seq (.seq (.ops [⟨some 21, .move (.tmp 8), false, none⟩]) <|
 .seq (.keep [6, 7, 21]) <|
 .cond (.tmp 21) (.seq (.ops [⟨some 22, .move (.tmp 7), false, none⟩,
  ⟨some 23, .build 41 #[(0, (.const (.int .i64 2))), (1, (.tmp 22))], false, none⟩,
  ⟨none, .store 41 (.tmp 6) (.tmp 23), true, none⟩]) <|
 .seq (.keep [6]) <|
 .ret) <|
 .skip) <|
 .seq (.keep [6]) <|
 .seq (.ops [⟨some 24, .build 41 #[], false, none⟩,
  ⟨none, .store 41 (.tmp 6) (.tmp 24), true, none⟩]) <|
 .seq (.keep [6]) <|
 .ret
theorem c65 : Try.f65.body.map (fun c => ((compile Try.prog kp65 [] kp65 c).map (·.1), fits Try.f65.ntmps c)) = some (some s65, true) := by kernel_rfl
theorem r65 : Try.f65.results.toList = [.cell 6 41] := by kernel_rfl
-- (*marionette/marionetteref06.Space).Store
abbrev kp66 : List Nat := [8]
def s66 : SC :=
 .seq (.ops [⟨some 8, .alloc 41, true, none⟩]) <|
 .seq (.keep [0, 1, 2, 3, 8]) <|
 .seq (.ops [⟨some 10, .move (.tmp 0), false, none⟩,
  ⟨some 11, .move (.tmp 1), false, none⟩,
  ⟨some 12, .move (.tmp 2), false, none⟩,
  ⟨some 13, .call ⟨.value (.func 65), #[(.tmp 10), (.tmp 11), (.tmp 12)], #[75, 22, 3]⟩, true, none⟩,
  ⟨some 9, .alloc 41, true, none⟩,
  ⟨none, .store 41 (.tmp 9) (.tmp 13), true, none⟩]) <|
 .seq (.keep [0, 1, 2, 3, 8, 9]) <|
 .seq (.seq (.ops [⟨some 14, .fieldAddr 41 (.tmp 9) 0, false, none⟩,
  ⟨some 15, .load 3 (.tmp 14), false, none⟩,
  ⟨some 16, .binOp .eql 3 (.tmp 15) (.const (.int .i64 0)) 3, false, none⟩]) <|
 .seq (.keep [0, 1, 2, 3, 8, 9, 16]) <|
 .cond (.tmp 16) (.ops [⟨some 17, .move (.tmp 0), false, none⟩,
  ⟨some 18, .move (.tmp 1), false, none⟩,
  ⟨some 19, .move (.tmp 3), false, none⟩,
  ⟨some 20, .move (.tmp 2), false, none⟩,
  ⟨some 21, .call ⟨.value (.func 38), #[(.const (.slice none 0 0)), (.tmp 19), (.tmp 20)], #[50, 22, 3]⟩, true, none⟩,
  ⟨some 22, .call ⟨.value (.func 91), #[(.tmp 17), (.tmp 18), (.tmp 21)], #[75, 22, 50]⟩, true, none⟩]) <|
 .skip) <|
 .seq (.keep [8, 9]) <|
 .seq (.ops [⟨some 23, .load 41 (.tmp 9), false, none⟩,
  ⟨none, .store 41 (.tmp 8) (.tmp 23), true, none⟩]) <|
 .seq (.keep [8]) <|
 .ret
theorem c66 : Try.f66.body.map (fun c => ((compile Try.prog kp66 [] kp66 c).map (·.1), fits Try.f66.ntmps c)) = some (some s66, true) := by kernel_rfl
theorem r66 : Try.f66.results.toList = [.cell 8 41] := by kernel_rfl
-- (*marionette/marionetteref06.Space).Load
abbrev kp67 : List Nat := [6, 7]
def s67 : SC :=
 .seq (.ops [⟨some 6, .assign (.const (.int .u64 0)), false, none⟩,
  ⟨some 7, .alloc 41, true, none⟩]) <|
 .seq (.keep [0, 1, 2, 7]) <|
 .seq (.seq (.ops [⟨some 10, .move (.tmp 2), false, none⟩,
  ⟨some 11, .call ⟨.value (.func 89), #[(.tmp 10)], #[3]⟩, true, none⟩,
  ⟨some 12, .unOp .not 4 (.tmp 11), false, none⟩]) <|
 .seq (.keep [0, 1, 2, 7, 12]) <|
 .cond (.tmp 12) (.seq (.ops [⟨some 13, .move (.tmp 1), false, none⟩,
  ⟨some 14, .build 41 #[(0, (.const (.int .i64 1))), (1, (.tmp 13))], false, none⟩,
  ⟨some 6, .assign (.const (.int .u64 0)), false, none⟩,
  ⟨none, .store 41 (.tmp 7) (.tmp 14), true, none⟩]) <|
 .seq (.keep [6, 7]) <|
 .ret) <|
 .skip) <|
 .seq (.keep [0, 1, 2, 7]) <|
 .seq (.ops [⟨some 16, .move (.tmp 0), false, none⟩,
  ⟨some 17, .move (.tmp 1), false, none⟩,
  ⟨some 18, .move (.tmp 2), false, none⟩,
  ⟨some 19, .call ⟨.value (.func 90), #[(.tmp 16), (.tmp 17), (.tmp 18), (.const (.int .i64 1))], #[75, 22, 3, 3]⟩, true, none⟩,
  ⟨some 15, .move (.tmp 19), false, none⟩,
  ⟨some 20, .extract (.tmp 15) 0, false, none⟩,
  ⟨some 21, .extract (.tmp 15) 1, false, none⟩,
  ⟨some 8, .assign (.tmp 20), false, none⟩,
  ⟨some 9, .assign (.tmp 21), false, none⟩]) <|
 .seq (.keep [0, 1, 2, 7, 8, 9]) <|
 .seq (.seq (.ops [⟨some 22, .move (.tmp 9), false, none⟩]) <|
 .seq (.keep [0, 1, 2, 7, 8, 22]) <|
 .cond (.tmp 22) (.seq (.ops [⟨some 23, .move (.tmp 8), false, none⟩,
  ⟨some 24, .build 41 #[(0, (.const (.int .i64 1))), (1, (.tmp 23))], false, none⟩,
  ⟨some 6, .assign (.const (.int .u64 0)), false, none⟩,
  ⟨none, .store 41 (.tmp 7) (.tmp 24), true, none⟩]) <|
 .seq (.keep [6, 7]) <|
 .ret) <|
 .skip) <|
 .seq (.keep [0, 1, 2, 7]) <|
 .seq (.ops [⟨some 25, .move (.tmp 0), false, none⟩,
  ⟨some 26, .move (.tmp 1), false, none⟩,
  ⟨some 27, .move (.tmp 2), false, none⟩,
  ⟨some 28, .call ⟨.value (.func 35), #[(.tmp 25), (.tmp 26), (.tmp 27)], #[75, 22, 3]⟩, true, none⟩,
  ⟨some 29, .move (.tmp 2), false, none⟩,
  ⟨some 30, .call ⟨.value (.func 29), #[(.tmp 28), (.tmp 29)], #[50, 3]⟩, true, none⟩,
  ⟨some 31, .build 41 #[], false, none⟩,
  ⟨some 6, .assign (.tmp 30), false, none⟩,
  ⟨none, .store 41 (.tmp 7) (.tmp 31), true, none⟩]) <|
 .seq (.keep [6, 7]) <|
 .ret
theorem c67 : Try.f67.body.map (fun c => ((compile Try.prog kp67 [] kp67 c).map (·.1), fits Try.f67.ntmps c)) = some (some s67, true) := by kernel_rfl
theorem r67 : Try.f67.results.toList = [.tmp 6, .cell 7 41] := by kernel_rfl
-- (*marionette/marionetteref06.Space).get
abbrev kp68 : List Nat := [4]
def s68 : SC :=
 .seq (.ops [⟨some 4, .assign (.const (.int .u8 0)), false, none⟩]) <|
 .seq (.keep [0, 1]) <|
 .seq (.ops [⟨some 8, .move (.tmp 0), false, none⟩,
  ⟨some 9, .move (.tmp 1), false, none⟩,
  ⟨some 10, .binOp .quo 22 (.tmp 9) (.const (.int .u64 4096)) 22, false, none⟩,
  ⟨some 11, .call ⟨.value (.func 92), #[(.tmp 8), (.tmp 10)], #[75, 22]⟩, true, none⟩,
  ⟨some 7, .move (.tmp 11), false, none⟩,
  ⟨some 12, .extract (.tmp 7) 0, false, none⟩,
  ⟨some 13, .extract (.tmp 7) 1, false, none⟩,
  ⟨some 5, .assign (.tmp 12), false, none⟩,
  ⟨some 6, .assign (.tmp 13), false, none⟩]) <|
 .seq (.keep [0, 1, 5, 6]) <|
 .seq (.seq (.ops [⟨some 14, .move (.tmp 6), false, none⟩,
  ⟨some 15, .unOp .not 4 (.tmp 14), false, none⟩]) <|
 .seq (.keep [0, 1, 5, 15]) <|
 .cond (.tmp 15) (.seq (.ops [⟨some 4, .assign (.const (.int .u8 0)), false, none⟩]) <|
 .seq (.keep [4]) <|
 .ret) <|
 .skip) <|
 .seq (.keep [0, 1, 5]) <|
 .seq (.ops [⟨some 16, .move (.tmp 0), false, none⟩,
  ⟨some 17, .nilCheck (.tmp 16), false, none⟩,
  ⟨some 18, .fieldAddr 126 (.tmp 17) 0, false, none⟩,
  ⟨some 19, .load 124 (.tmp 18), false, none⟩,
  ⟨some 20, .move (.tmp 5), false, none⟩,
  ⟨some 21, .indexAddr 124 (.tmp 19) (.tmp 20), false, none⟩,
  ⟨some 22, .fieldAddr 129 (.tmp 21) 2, false, none⟩,
  ⟨some 23, .load 50 (.tmp 22), false, none⟩,
  ⟨some 24, .move (.tmp 1), false, none⟩,
  ⟨some 25, .binOp .rem 22 (.tmp 24) (.const (.int .u64 4096)) 22, false, none⟩,
  ⟨some 26, .indexAddr 50 (.tmp 23) (.tmp 25), false, none⟩,
  ⟨some 27, .load 5 (.tmp 26), false, none⟩,
  ⟨some 4, .assign (.tmp 27), false, none⟩]) <|
 .seq (.keep [4]) <|
 .ret
theorem c68 : Try.f68.body.map (fun c => ((compile Try.prog kp68 [] kp68 c).map (·.1), fits Try.f68.ntmps c)) = some (some s68, true) := by kernel_rfl
theorem r68 : Try.f68.results.toList = [.tmp 4] := by kernel_rfl
-- marionette/marionetteref01.Minus
abbrev kp69 : List Nat := [2]
def s69 : SC :=
 .seq (.ops [⟨some 2, .assign (.const (.bool false)), false, none⟩]) <|
 .seq (.keep [0]) <|
 .seq (.ops [⟨some 3, .move (.tmp 0), false, none⟩,
  ⟨some 4, .call ⟨.value (.func 64), #[(.tmp 3), (.const (.int .i64 63))], #[22, 3]⟩, true, none⟩,
  ⟨some 5, .binOp .eql 22 (.tmp 4) (.const (.int .u64 1)) 22, false, none⟩,
  ⟨some 2, .assign (.tmp 5), false, none⟩]) <|
 .seq (.keep [2]) <|
 .ret
theorem c69 : Try.f69.body.map (fun c => ((compile Try.prog kp69 [] kp69 c).map (·.1), fits Try.f69.ntmps c)) = some (some s69, true) := by kernel_rfl
theorem r69 : Try.f69.results.toList = [.tmp 2] := by kernel_rfl
-- (*marionette/region.List).Room
abbrev kp70 : List Nat := [6, 7]
def s70 : SC :=
 .seq (.ops [⟨some 6, .assign (.const (.int .u64 0)), false, none⟩,
  ⟨some 7, .assign (.const (.bool false)), false, none⟩]) <|
 .seq (.keep [0, 1, 2]) <|
 .seq (.seq (.ops [⟨some 11, .move (.tmp 0), false, none⟩,
  ⟨some 12, .binOp .eql 82 (.tmp 11) (.const (.pointer none)) 82, false, none⟩,
  ⟨some 13, .move (.tmp 12), false, none⟩,
  ⟨some 14, .move (.tmp 1), false, some (13, false)⟩,
  ⟨some 15, .binOp .gtr 22 (.tmp 14) (.const (.int .u64 274877906944)) 22, false, some (13, false)⟩,
  ⟨some 16, .pick (.tmp 13) (.const (.bool true)) (.tmp 15), false, none⟩]) <|
 .seq (.keep [0, 1, 2, 16]) <|
 .cond (.tmp 16) (.seq (.ops [⟨some 6, .assign (.const (.int .u64 0)), false, none⟩,
  ⟨some 7, .assign (.const (.bool false)), false, none⟩]) <|
 .seq (.keep [6, 7]) <|
 .ret) <|
 .skip) <|
 .seq (.keep [0, 1, 2]) <|
 .seq (.ops [⟨some 17, .move (.tmp 1), false, none⟩,
  ⟨some 18, .binOp .add 22 (.tmp 17) (.const (.int .u64 4096)) 22, false, none⟩,
  ⟨some 19, .binOp .sub 22 (.tmp 18) (.const (.int .u64 1)) 22, false, none⟩,
  ⟨some 20, .binOp .quo 22 (.tmp 19) (.const (.int .u64 4096)) 22, false, none⟩,
  ⟨some 21, .call ⟨.builtin .max, #[(.tmp 20), (.const (.int .u64 1))], #[22, 22]⟩, false, none⟩,
  ⟨some 22, .binOp .mul 22 (.tmp 21) (.const (.int .u64 4096)) 22, false, none⟩,
  ⟨some 1, .assign (.tmp 22), false, none⟩]) <|
 .seq (.keep [0, 1, 2]) <|
 .seq (.ops [⟨some 23, .move (.tmp 2), false, none⟩,
  ⟨some 24, .call ⟨.builtin .min, #[(.tmp 23), (.const (.int .u64 274877906944))], #[22, 22]⟩, false, none⟩,
  ⟨some 25, .binOp .quo 22 (.tmp 24) (.const (.int .u64 4096)) 22, false, none⟩,
  ⟨some 26, .binOp .mul 22 (.tmp 25) (.const (.int .u64 4096)) 22, false, none⟩,
  ⟨some 8, .assign (.tmp 26), false, none⟩]) <|
 .seq (.keep [0, 1, 8]) <|
 .seq (.seq (.ops [⟨some 27, .move (.tmp 0), false, none⟩,
  ⟨some 28, .nilCheck (.tmp 27), false, none⟩,
  ⟨some 29, .fieldAddr 107 (.tmp 28) 0, false, none⟩,
  ⟨some 30, .load 105 (.tmp 29), false, none⟩,
  ⟨some 31, .call ⟨.builtin .len, #[(.tmp 30)], #[105]⟩, false, none⟩,
  ⟨some 9, .assign (.tmp 31), false, none⟩]) <|
 .seq (.keep [0, 1, 8, 9]) <|
 .block 0 <| .loop <| .seq (.seq (.seq (.ops [⟨some 32, .move (.tmp 9), false, none⟩,
  ⟨some 33, .binOp .geq 3 (.tmp 32) (.const (.int .i64 0)) 3, false, none⟩]) <|
 .seq (.keep [0, 1, 8, 9, 33]) <|
 .cond (.tmp 33) (.skip) <|
 .exit 0) <|
 .seq (.keep [0, 1, 8, 9]) <|
 .seq (.block 1 <| .seq (.ops [⟨some 10, .assign (.const (.int .u64 4096)), false, none⟩]) <|
 .seq (.keep [0, 1, 8, 9, 10]) <|
 .seq (.seq (.ops [⟨some 36, .move (.tmp 9), false, none⟩,
  ⟨some 37, .binOp .gtr 3 (.tmp 36) (.const (.int .i64 0)) 3, false, none⟩]) <|
 .seq (.keep [0, 1, 8, 9, 10, 37]) <|
 .cond (.tmp 37) (.ops [⟨some 38, .move (.tmp 10), false, none⟩,
  ⟨some 39, .move (.tmp 0), false, none⟩,
  ⟨some 40, .nilCheck (.tmp 39), false, none⟩,
  ⟨some 41, .fieldAddr 107 (.tmp 40) 0, false, none⟩,
  ⟨some 42, .load 105 (.tmp 41), false, none⟩,
  ⟨some 43, .move (.tmp 9), false, none⟩,
  ⟨some 44, .binOp .sub 3 (.tmp 43) (.const (.int .i64 1)) 3, false, none⟩,
  ⟨some 45, .indexAddr 105 (.tmp 42) (.tmp 44), false, none⟩,
  ⟨some 46, .fieldAddr 95 (.tmp 45) 1, false, none⟩,
  ⟨some 47, .load 22 (.tmp 46), false, none⟩,
  ⟨some 48, .call ⟨.builtin .max, #[(.tmp 38), (.tmp 47)], #[22, 22]⟩, false, none⟩,
  ⟨some 10, .assign (.tmp 48), false, none⟩]) <|
 .skip) <|
 .seq (.keep [0, 1, 8, 9, 10]) <|
 .seq (.seq (.ops [⟨some 49, .move (.tmp 8), false, none⟩,
  ⟨some 50, .move (.tmp 10), false, none⟩,
  ⟨some 51, .binOp .geq 22 (.tmp 49) (.tmp 50) 22, false, none⟩,
  ⟨some 52, .move (.tmp 51), false, none⟩,
  ⟨some 53, .move (.tmp 8), false, some (52, true)⟩,
  ⟨some 54, .move (.tmp 10), false, some (52, true)⟩,
  ⟨some 55, .binOp .sub 22 (.tmp 53) (.tmp 54) 22, false, some (52, true)⟩,
  ⟨some 56, .move (.tmp 1), false, some (52, true)⟩,
  ⟨some 57, .binOp .geq 22 (.tmp 55) (.tmp 56) 22, false, some (52, true)⟩,
  ⟨some 58, .pick (.tmp 52) (.tmp 57) (.const (.bool false)), false, none⟩]) <|
 .seq (.keep [0, 1, 8, 9, 58]) <|
 .cond (.tmp 58) (.seq (.ops [⟨some 59, .move (.tmp 8), false, none⟩,
  ⟨some 60, .move (.tmp 1), false, none⟩,
  ⟨some 61, .binOp .sub 22 (.tmp 59) (.tmp 60) 22, false, none⟩,
  ⟨some 6, .assign (.tmp 61), false, none⟩,
  ⟨some 7, .assign (.const (.bool true)), false, none⟩]) <|
 .seq (.keep [6, 7]) <|
 .ret) <|
 .skip) <|
 .seq (.keep [0, 1, 8, 9]) <|
 .seq (.ops [⟨some 62, .move (.tmp 9), false, none⟩,
  ⟨some 63, .binOp .gtr 3 (.tmp 62) (.const (.int .i64 0)) 3, false, none⟩]) <|
 .seq (.keep [0, 1, 8, 9, 63]) <|
 .cond (.tmp 63) (.ops [⟨some 64, .move (.tmp 8), false, none⟩,
  ⟨some 65, .move (.tmp 0), false, none⟩,
  ⟨some 66, .nilCheck (.tmp 65), false, none⟩,
  ⟨some 67, .fieldAddr 107 (.tmp 66) 0, false, none⟩,
  ⟨some 68, .load 105 (.tmp 67), false, none⟩,
  ⟨some 69, .move (.tmp 9), false, none⟩,
  ⟨some 70, .binOp .sub 3 (.tmp 69) (.const (.int .i64 1)) 3, false, none⟩,
  ⟨some 71, .indexAddr 105 (.tmp 68) (.tmp 70), false, none⟩,
  ⟨some 72, .fieldAddr 95 (.tmp 71) 0, false, none⟩,
  ⟨some 73, .load 22 (.tmp 72), false, none⟩,
  ⟨some 74, .call ⟨.builtin .min, #[(.tmp 64), (.tmp 73)], #[22, 22]⟩, false, none⟩,
  ⟨some 8, .assign (.tmp 74), false, none⟩]) <|
 .skip) <|
 .seq (.keep [0, 1, 8, 9]) <|
 .ops [⟨some 34, .move (.tmp 9), false, none⟩,
  ⟨some 35, .binOp .sub 3 (.tmp 34) (.const (.int .i64 1)) 3, false, none⟩,
  ⟨some 9, .assign (.tmp 35), false, none⟩]) <|
 .keep [0, 1, 8, 9]) <|
 .seq (.keep []) <|
 .seq (.ops [⟨some 6, .assign (.const (.int .u64 0)), false, none⟩,
  ⟨some 7, .assign (.const (.bool false)), false, none⟩]) <|
 .seq (.keep [6, 7]) <|
 .ret
theorem c70 : Try.f70.body.map (fun c => ((compile Try.prog kp70 [] kp70 c).map (·.1), fits Try.f70.ntmps c)) = some (some s70, true) := by kernel_rfl
theorem r70 : Try.f70.results.toList = [.tmp 6, .tmp 7] := by kernel_rfl
-- (*marionette/region.List).Copy
abbrev kp71 : List Nat := [2]
def s71 : SC :=
 .seq (.ops [⟨some 2, .assign (.const (.pointer none)), false, none⟩]) <|
 .seq (.keep [0]) <|
 .seq (.seq (.ops [⟨some 3, .move (.tmp 0), false, none⟩,
  ⟨some 4, .binOp .eql 82 (.tmp 3) (.const (.pointer none)) 82, false, none⟩]) <|
 .seq (.keep [0, 4]) <|
 .cond (.tmp 4) (.seq (.ops [⟨some 2, .assign (.const (.pointer none)), false, none⟩]) <|
 .seq (.keep [2]) <|
 .ret) <|
 .skip) <|
 .seq (.keep [0]) <|
 .seq (.ops [⟨some 5, .move (.tmp 0), false, none⟩,
  ⟨some 6, .nilCheck (.tmp 5), false, none⟩,
  ⟨some 7, .fieldAddr 107 (.tmp 6) 0, false, none⟩,
  ⟨some 8, .load 105 (.tmp 7), false, none⟩,
  ⟨some 9, .call ⟨.value (.func 93), #[(.tmp 8)], #[105]⟩, true, none⟩,
  ⟨some 10, .build 107 #[(0, (.tmp 9))], false, none⟩,
  ⟨some 11, .box 107 (.tmp 10), true, none⟩,
  ⟨some 2, .assign (.tmp 11), false, none⟩]) <|
 .seq (.keep [2]) <|
 .ret
theorem c71 : Try.f71.body.map (fun c => ((compile Try.prog kp71 [] kp71 c).map (·.1), fits Try.f71.ntmps c)) = some (some s71, true) := by kernel_rfl
theorem r71 : Try.f71.results.toList = [.tmp 2] := by kernel_rfl
-- (*marionette/region.List).Map
abbrev kp72 : List Nat := [8]
def s72 : SC :=
 .seq (.ops [⟨some 8, .assign (.const (.int .i64 0)), false, none⟩]) <|
 .seq (.keep [0, 1, 2, 3]) <|
 .seq (.seq (.ops [⟨some 9, .move (.tmp 0), false, none⟩,
  ⟨some 10, .binOp .eql 82 (.tmp 9) (.const (.pointer none)) 82, false, none⟩,
  ⟨some 11, .move (.tmp 10), false, none⟩,
  ⟨some 12, .move (.tmp 1), false, some (11, false)⟩,
  ⟨some 13, .move (.tmp 2), false, some (11, false)⟩,
  ⟨some 14, .call ⟨.value (.func 76), #[(.tmp 12), (.tmp 13)], #[22, 22]⟩, true, some (11, false)⟩,
  ⟨some 15, .unOp .not 4 (.tmp 14), false, some (11, false)⟩,
  ⟨some 16, .pick (.tmp 11) (.const (.bool true)) (.tmp 15), false, none⟩,
  ⟨some 17, .move (.tmp 16), false, none⟩,
  ⟨some 18, .move (.tmp 3), false, some (17, false)⟩,
  ⟨some 19, .call ⟨.value (.func 82), #[(.tmp 18)], #[3]⟩, true, some (17, false)⟩,
  ⟨some 20, .unOp .not 4 (.tmp 19), false, some (17, false)⟩,
  ⟨some 21, .pick (.tmp 17) (.const (.bool true)) (.tmp 20), false, none⟩]) <|
 .seq (.keep [0, 1, 2, 3, 21]) <|
 .cond (.tmp 21) (.seq (.ops [⟨some 8, .assign (.const (.int .i64 22)), false, none⟩]) <|
 .seq (.keep [8]) <|
 .ret) <|
 .skip) <|
 .seq (.keep [0, 1, 2, 3]) <|
 .seq (.ops [⟨some 22, .move (.tmp 0), false, none⟩,
  ⟨some 23, .move (.tmp 0), false, none⟩,
  ⟨some 24, .nilCheck (.tmp 23), false, none⟩,
  ⟨some 25, .fieldAddr 107 (.tmp 24) 0, false, none⟩,
  ⟨some 26, .load 105 (.tmp 25), false, none⟩,
  ⟨some 27, .move (.tmp 1), false, none⟩,
  ⟨some 28, .move (.tmp 2), false, none⟩,
  ⟨some 29, .move (.tmp 3), false, none⟩,
  ⟨some 30, .build 95 #[(0, (.tmp 27)), (1, (.tmp 28)), (2, (.tmp 29))], false, none⟩,
  ⟨some 31, .call ⟨.value (.func 85), #[(.tmp 26), (.tmp 30)], #[105, 95]⟩, true, none⟩,
  ⟨some 32, .call ⟨.value (.func 84), #[(.tmp 22), (.tmp 31)], #[82, 105]⟩, true, none⟩,
  ⟨some 8, .assign (.tmp 32), false, none⟩]) <|
 .seq (.keep [8]) <|
 .ret
theorem c72 : Try.f72.body.map (fun c => ((compile Try.prog kp72 [] kp72 c).map (·.1), fits Try.f72.ntmps c)) = some (some s72, true) := by kernel_rfl
theorem r72 : Try.f72.results.toList = [.tmp 8] := by kernel_rfl
-- (*marionette/page.Store).Clear
abbrev kp73 : List Nat := []
def s73 : SC :=
 .seq (.ops [⟨some 11, .move (.tmp 2), false, none⟩,
  ⟨some 12, .call ⟨.builtin .min, #[(.tmp 11), (.const (.int .u64 274877906944))], #[22, 22]⟩, false, none⟩,
  ⟨some 2, .assign (.tmp 12), false, none⟩]) <|
 .seq (.keep [0, 1, 2]) <|
 .seq (.seq (.ops [⟨some 13, .move (.tmp 0), false, none⟩,
  ⟨some 14, .binOp .eql 84 (.tmp 13) (.const (.pointer none)) 84, false, none⟩,
  ⟨some 15, .move (.tmp 14), false, none⟩,
  ⟨some 16, .move (.tmp 2), false, some (15, false)⟩,
  ⟨some 17, .move (.tmp 1), false, some (15, false)⟩,
  ⟨some 18, .binOp .leq 22 (.tmp 16) (.tmp 17) 22, false, some (15, false)⟩,
  ⟨some 19, .pick (.tmp 15) (.const (.bool true)) (.tmp 18), false, none⟩]) <|
 .seq (.keep [0, 1, 2, 19]) <|
 .cond (.tmp 19) (.ret) <|
 .skip) <|
 .seq (.keep [0, 1, 2]) <|
 .seq (.ops [⟨some 20, .move (.tmp 0), false, none⟩,
  ⟨some 21, .move (.tmp 1), false, none⟩,
  ⟨some 22, .move (.tmp 2), false, none⟩,
  ⟨some 23, .call ⟨.value (.func 58), #[(.tmp 20), (.tmp 21), (.tmp 22)], #[84, 22, 22]⟩, true, none⟩]) <|
 .seq (.keep [0, 1, 2]) <|
 .seq (.ops [⟨some 24, .move (.tmp 0), false, none⟩,
  ⟨some 25, .nilCheck (.tmp 24), false, none⟩,
  ⟨some 26, .fieldAddr 111 (.tmp 25) 0, false, none⟩,
  ⟨some 27, .load 108 (.tmp 26), false, none⟩,
  ⟨some 28, .range 108 (.tmp 27), true, none⟩]) <|
 .seq (.keep [0, 1, 2, 28]) <|
 .block 0 <| .loop <| .seq (.seq (.ops [⟨some 29, .next (.tmp 28) false, true, none⟩,
  ⟨some 30, .extract (.tmp 29) 0, false, none⟩]) <|
 .seq (.keep [0, 1, 2, 28, 30]) <|
 .seq (.cond (.tmp 30) (.skip) <|
 .exit 0) <|
 .seq (.keep [0, 1, 2, 28]) <|
 .block 1 <| .seq (.ops [⟨some 31, .entry (.tmp 28), false, none⟩,
  ⟨some 32, .extract (.tmp 31) 0, false, none⟩,
  ⟨some 33, .extract (.tmp 31) 1, false, none⟩,
  ⟨some 6, .assign (.tmp 32), false, none⟩,
  ⟨some 7, .assign (.tmp 33), false, none⟩]) <|
 .seq (.keep [0, 1, 2, 6, 7, 28]) <|
 .seq (.ops [⟨some 34, .move (.tmp 6), false, none⟩,
  ⟨some 35, .binOp .mul 22 (.tmp 34) (.const (.int .u64 4096)) 22, false, none⟩,
  ⟨some 8, .assign (.tmp 35), false, none⟩]) <|
 .seq (.keep [0, 1, 2, 6, 7, 8, 28]) <|
 .seq (.seq (.ops [⟨some 36, .move (.tmp 8), false, none⟩,
  ⟨some 37, .move (.tmp 2), false, none⟩,
  ⟨some 38, .binOp .geq 22 (.tmp 36) (.tmp 37) 22, false, none⟩,
  ⟨some 39, .move (.tmp 38), false, none⟩,
  ⟨some 40, .move (.tmp 8), false, some (39, false)⟩,
  ⟨some 41, .binOp .add 22 (.tmp 40) (.const (.int .u64 4096)) 22, false, some (39, false)⟩,
  ⟨some 42, .move (.tmp 1), false, some (39, false)⟩,
  ⟨some 43, .binOp .leq 22 (.tmp 41) (.tmp 42) 22, false, some (39, false)⟩,
  ⟨some 44, .pick (.tmp 39) (.const (.bool true)) (.tmp 43), false, none⟩]) <|
 .seq (.keep [0, 1, 2, 6, 7, 8, 28, 44]) <|
 .cond (.tmp 44) (.exit 1) <|
 .skip) <|
 .seq (.keep [0, 1, 2, 6, 7, 8, 28]) <|
 .seq (.seq (.ops [⟨some 45, .move (.tmp 1), false, none⟩,
  ⟨some 46, .move (.tmp 8), false, none⟩,
  ⟨some 47, .binOp .leq 22 (.tmp 45) (.tmp 46) 22, false, none⟩,
  ⟨some 48, .move (.tmp 47), false, none⟩,
  ⟨some 49, .move (.tmp 2), false, some (48, true)⟩,
  ⟨some 50, .move (.tmp 8), false, some (48, true)⟩,
  ⟨some 51, .binOp .add 22 (.tmp 50) (.const (.int .u64 4096)) 22, false, some (48, true)⟩,
  ⟨some 52, .binOp .geq 22 (.tmp 49) (.tmp 51) 22, false, some (48, true)⟩,
  ⟨some 53, .pick (.tmp 48) (.tmp 52) (.const (.bool false)), false, none⟩]) <|
 .seq (.keep [0, 1, 2, 6, 7, 8, 28, 53]) <|
 .cond (.tmp 53) (.seq (.ops [⟨some 54, .move (.tmp 0), false, none⟩,
  ⟨some 55, .nilCheck (.tmp 54), false, none⟩,
  ⟨some 56, .fieldAddr 111 (.tmp 55) 0, false, none⟩,
  ⟨some 57, .load 108 (.tmp 56), false, none⟩,
  ⟨some 58, .move (.tmp 6), false, none⟩,
  ⟨none, .call ⟨.builtin .delete, #[(.tmp 57), (.tmp 58)], #[108, 22]⟩, true, none⟩]) <|
 .seq (.keep [0, 1, 2, 28]) <|
 .exit 1) <|
 .skip) <|
 .seq (.keep [0, 1, 2, 7, 8, 28]) <|
 .seq (.ops [⟨some 59, .move (.tmp 1), false, none⟩,
  ⟨some 60, .move (.tmp 8), false, none⟩,
  ⟨some 61, .call ⟨.builtin .max, #[(.tmp 59), (.tmp 60)], #[22, 22]⟩, false, none⟩,
  ⟨some 62, .move (.tmp 8), false, none⟩,
  ⟨some 63, .binOp .sub 22 (.tmp 61) (.tmp 62) 22, false, none⟩,
  ⟨some 64, .move (.tmp 2), false, none⟩,
  ⟨some 65, .move (.tmp 8), false, none⟩,
  ⟨some 66, .binOp .add 22 (.tmp 65) (.const (.int .u64 4096)) 22, false, none⟩,
  ⟨some 67, .call ⟨.builtin .min, #[(.tmp 64), (.tmp 66)], #[22, 22]⟩, false, none⟩,
  ⟨some 68, .move (.tmp 8), false, none⟩,
  ⟨some 69, .binOp .sub 22 (.tmp 67) (.tmp 68) 22, false, none⟩,
  ⟨some 9, .assign (.tmp 63), false, none⟩,
  ⟨some 10, .assign (.tmp 69), false, none⟩]) <|
 .seq (.keep [0, 1, 2, 7, 9, 10, 28]) <|
 .ops [⟨some 70, .move (.tmp 7), false, none⟩,
  ⟨some 71, .nilCheck (.tmp 70), false, none⟩,
  ⟨some 72, .move (.tmp 9), false, none⟩,
  ⟨some 73, .move (.tmp 10), false, none⟩,
  ⟨some 74, .slice 117 (.tmp 71) (some (.tmp 72)) (some (.tmp 73)) none, false, none⟩,
  ⟨none, .call ⟨.builtin .clear, #[(.tmp 74)], #[50]⟩, true, none⟩]) <|
 .keep [0, 1, 2, 28]
theorem c73 : Try.f73.body.map (fun c => ((compile Try.prog kp73 [] kp73 c).map (·.1), fits Try.f73.ntmps c)) = some (some s73, true) := by kernel_rfl
theorem r73 : Try.f73.results.toList = [] := by kernel_rfl
-- marionette/page.part
abbrev kp74 : List Nat := [4, 5]
def s74 : SC :=
 .seq (.ops [⟨some 4, .assign (.const (.int .i64 0)), false, none⟩,
  ⟨some 5, .assign (.const (.int .i64 0)), false, none⟩]) <|
 .seq (.keep [0, 1]) <|
 .seq (.ops [⟨some 6, .move (.tmp 0), false, none⟩,
  ⟨some 7, .binOp .rem 22 (.tmp 6) (.const (.int .u64 4096)) 22, false, none⟩,
  ⟨some 8, .convert 22 3 (.tmp 7), false, none⟩,
  ⟨some 4, .assign (.tmp 8), false, none⟩]) <|
 .seq (.keep [1, 4]) <|
 .seq (.ops [⟨some 9, .move (.tmp 4), false, none⟩,
  ⟨some 10, .move (.tmp 1), false, none⟩,
  ⟨some 11, .move (.tmp 4), false, none⟩,
  ⟨some 12, .binOp .sub 3 (.const (.int .i64 4096)) (.tmp 11) 3, false, none⟩,
  ⟨some 13, .call ⟨.builtin .min, #[(.tmp 10), (.tmp 12)], #[3, 3]⟩, false, none⟩,
  ⟨some 4, .assign (.tmp 9), false, none⟩,
  ⟨some 5, .assign (.tmp 13), false, none⟩]) <|
 .seq (.keep [4, 5]) <|
 .ret
theorem c74 : Try.f74.body.map (fun c => ((compile Try.prog kp74 [] kp74 c).map (·.1), fits Try.f74.ntmps c)) = some (some s74, true) := by kernel_rfl
theorem r74 : Try.f74.results.toList = [.tmp 4, .tmp 5] := by kernel_rfl
-- (*marionette/page.Store).mark
abbrev kp75 : List Nat := []
def s75 : SC :=
 .seq (.ops [⟨some 4, .move (.tmp 0), false, none⟩,
  ⟨some 5, .nilCheck (.tmp 4), false, none⟩,
  ⟨some 6, .fieldAddr 111 (.tmp 5) 2, false, none⟩,
  ⟨some 7, .load 22 (.tmp 6), false, none⟩,
  ⟨some 8, .binOp .add 22 (.tmp 7) (.const (.int .u64 1)) 22, false, none⟩,
  ⟨some 9, .nilCheck (.tmp 4), false, none⟩,
  ⟨some 10, .fieldAddr 111 (.tmp 9) 2, false, none⟩,
  ⟨none, .store 22 (.tmp 10) (.tmp 8), true, none⟩]) <|
 .seq (.keep [0, 1]) <|
 .seq (.ops [⟨some 11, .move (.tmp 0), false, none⟩]) <|
 .seq (.ops [⟨some 12, .nilCheck (.tmp 11), false, none⟩]) <|
 .seq (.ops [⟨some 13, .fieldAddr 111 (.tmp 12) 1, false, none⟩]) <|
 .seq (.ops [⟨some 14, .load 109 (.tmp 13), false, none⟩]) <|
 .seq (.ops [⟨some 15, .move (.tmp 1), false, none⟩]) <|
 .seq (.ops [⟨some 16, .move (.tmp 0), false, none⟩]) <|
 .seq (.ops [⟨some 17, .nilCheck (.tmp 16), false, none⟩]) <|
 .seq (.ops [⟨some 18, .fieldAddr 111 (.tmp 17) 2, false, none⟩]) <|
 .seq (.ops [⟨some 19, .load 22 (.tmp 18), false, none⟩]) <|
 .seq (.ops [⟨none, .mapUpdate 109 (.tmp 14) (.tmp 15) (.tmp 19), true, none⟩]) <|
 .skip
theorem c75 : Try.f75.body.map (fun c => ((compile Try.prog kp75 [] kp75 c).map (·.1), fits Try.f75.ntmps c)) = some (some s75, true) := by kernel_rfl
theorem r75 : Try.f75.results.toList = [] := by kernel_rfl
-- marionette/region.span
abbrev kp76 : List Nat := [4]
def s76 : SC :=
 .seq (.ops [⟨some 4, .assign (.const (.bool false)), false, none⟩]) <|
 .seq (.keep [0, 1]) <|
 .seq (.ops [⟨some 5, .move (.tmp 0), false, none⟩,
  ⟨some 6, .binOp .rem 22 (.tmp 5) (.const (.int .u64 4096)) 22, false, none⟩,
  ⟨some 7, .binOp .eql 22 (.tmp 6) (.const (.int .u64 0)) 22, false, none⟩,
  ⟨some 8, .move (.tmp 7), false, none⟩,
  ⟨some 9, .move (.tmp 1), false, some (8, true)⟩,
  ⟨some 10, .binOp .rem 22 (.tmp 9) (.const (.int .u64 4096)) 22, false, some (8, true)⟩,
  ⟨some 11, .binOp .eql 22 (.tmp 10) (.const (.int .u64 0)) 22, false, some (8, true)⟩,
  ⟨some 12, .pick (.tmp 8) (.tmp 11) (.const (.bool false)), false, none⟩,
  ⟨some 13, .move (.tmp 12), false, none⟩,
  ⟨some 14, .move (.tmp 0), false, some (13, true)⟩,
  ⟨some 15, .move (.tmp 1), false, some (13, true)⟩,
  ⟨some 16, .binOp .lss 22 (.tmp 14) (.tmp 15) 22, false, some (13, true)⟩,
  ⟨some 17, .pick (.tmp 13) (.tmp 16) (.const (.bool false)), false, none⟩,
  ⟨some 18, .move (.tmp 17), false, none⟩,
  ⟨some 19, .move (.tmp 1), false, some (18, true)⟩,
  ⟨some 20, .binOp .leq 22 (.tmp 19) (.const (.int .u64 274877906944)) 22, false, some (18, true)⟩,
  ⟨some 21, .pick (.tmp 18) (.tmp 20) (.const (.bool false)), false, none⟩,
  ⟨some 4, .assign (.tmp 21), false, none⟩]) <|
 .seq (.keep [4]) <|
 .ret
theorem c76 : Try.f76.body.map (fun c => ((compile Try.prog kp76 [] kp76 c).map (·.1), fits Try.f76.ntmps c)) = some (some s76, true) := by kernel_rfl
theorem r76 : Try.f76.results.toList = [.tmp 4] := by kernel_rfl
-- slices.ContainsFunc[[]marionette/api.Region,marionette/api.Region]
abbrev kp77 : List Nat := [4]
def s77 : SC :=
 .seq (.ops [⟨some 4, .assign (.const (.bool false)), false, none⟩]) <|
 .seq (.keep [0, 1]) <|
 .seq (.ops [⟨some 5, .move (.tmp 0), false, none⟩,
  ⟨some 6, .move (.tmp 1), false, none⟩,
  ⟨some 7, .call ⟨.value (.func 80), #[(.tmp 5), (.tmp 6)], #[105, 119]⟩, true, none⟩,
  ⟨some 8, .binOp .geq 3 (.tmp 7) (.const (.int .i64 0)) 3, false, none⟩,
  ⟨some 4, .assign (.tmp 8), false, none⟩]) <|
 .seq (.keep [4]) <|
 .ret
theorem c77 : Try.f77.body.map (fun c => ((compile Try.prog kp77 [] kp77 c).map (·.1), fits Try.f77.ntmps c)) = some (some s77, true) := by kernel_rfl
theorem r77 : Try.f77.results.toList = [.tmp 4] := by kernel_rfl
-- (*marionette/region.List).Free$1
abbrev kp78 : List Nat := [4]
def s78 : SC :=
 .seq (.ops [⟨some 3, .box 95 (.tmp 0), true, none⟩,
  ⟨some 4, .assign (.const (.bool false)), false, none⟩]) <|
 .seq (.keep [1, 2, 3]) <|
 .seq (.ops [⟨some 5, .fieldAddr 95 (.tmp 3) 0, false, none⟩,
  ⟨some 6, .load 22 (.tmp 5), false, none⟩,
  ⟨some 7, .load 22 (.tmp 1), false, none⟩,
  ⟨some 8, .binOp .lss 22 (.tmp 6) (.tmp 7) 22, false, none⟩,
  ⟨some 9, .move (.tmp 8), false, none⟩,
  ⟨some 10, .fieldAddr 95 (.tmp 3) 1, false, some (9, true)⟩,
  ⟨some 11, .load 22 (.tmp 10), false, some (9, true)⟩,
  ⟨some 12, .load 22 (.tmp 2), false, some (9, true)⟩,
  ⟨some 13, .binOp .gtr 22 (.tmp 11) (.tmp 12) 22, false, some (9, true)⟩,
  ⟨some 14, .pick (.tmp 9) (.tmp 13) (.const (.bool false)), false, none⟩,
  ⟨some 4, .assign (.tmp 14), false, none⟩]) <|
 .seq (.keep [4]) <|
 .ret
theorem c78 : Try.f78.body.map (fun c => ((compile Try.prog kp78 [] kp78 c).map (·.1), fits Try.f78.ntmps c)) = some (some s78, true) := by kernel_rfl
theorem r78 : Try.f78.results.toList = [.tmp 4] := by kernel_rfl
-- (*marionette/region.List).Unmap
abbrev kp79 : List Nat := [6]
def s79 : SC :=
 .seq (.ops [⟨some 6, .assign (.const (.int .i64 0)), false, none⟩]) <|
 .seq (.keep [0, 1, 2]) <|
 .seq (.seq (.ops [⟨some 7, .move (.tmp 0), false, none⟩,
  ⟨some 8, .binOp .eql 82 (.tmp 7) (.const (.pointer none)) 82, false, none⟩,
  ⟨some 9, .move (.tmp 8), false, none⟩,
  ⟨some 10, .move (.tmp 1), false, some (9, false)⟩,
  ⟨some 11, .move (.tmp 2), false, some (9, false)⟩,
  ⟨some 12, .call ⟨.value (.func 76), #[(.tmp 10), (.tmp 11)], #[22, 22]⟩, true, some (9, false)⟩,
  ⟨some 13, .unOp .not 4 (.tmp 12), false, some (9, false)⟩,
  ⟨some 14, .pick (.tmp 9) (.const (.bool true)) (.tmp 13), false, none⟩]) <|
 .seq (.keep [0, 1, 2, 14]) <|
 .cond (.tmp 14) (.seq (.ops [⟨some 6, .assign (.const (.int .i64 22)), false, none⟩]) <|
 .seq (.keep [6]) <|
 .ret) <|
 .skip) <|
 .seq (.keep [0, 1, 2]) <|
 .seq (.ops [⟨some 15, .move (.tmp 0), false, none⟩,
  ⟨some 16, .move (.tmp 0), false, none⟩,
  ⟨some 17, .nilCheck (.tmp 16), false, none⟩,
  ⟨some 18, .fieldAddr 107 (.tmp 17) 0, false, none⟩,
  ⟨some 19, .load 105 (.tmp 18), false, none⟩,
  ⟨some 20, .move (.tmp 1), false, none⟩,
  ⟨some 21, .move (.tmp 2), false, none⟩,
  ⟨some 22, .call ⟨.value (.func 94), #[(.tmp 19), (.tmp 20), (.tmp 21)], #[105, 22, 22]⟩, true, none⟩,
  ⟨some 23, .call ⟨.value (.func 84), #[(.tmp 15), (.tmp 22)], #[82, 105]⟩, true, none⟩,
  ⟨some 6, .assign (.tmp 23), false, none⟩]) <|
 .seq (.keep [6]) <|
 .ret
theorem c79 : Try.f79.body.map (fun c => ((compile Try.prog kp79 [] kp79 c).map (·.1), fits Try.f79.ntmps c)) = some (some s79, true) := by kernel_rfl
theorem r79 : Try.f79.results.toList = [.tmp 6] := by kernel_rfl
-- slices.IndexFunc[[]marionette/api.Region,marionette/api.Region]
abbrev kp80 : List Nat := [4]
def s80 : SC :=
 .seq (.ops [⟨some 4, .assign (.const (.int .i64 0)), false, none⟩]) <|
 .seq (.keep [0, 1]) <|
 .seq (.seq (.ops [⟨some 6, .move (.tmp 0), false, none⟩,
  ⟨some 7, .call ⟨.builtin .len, #[(.tmp 6)], #[105]⟩, false, none⟩,
  ⟨some 8, .move (.const (.int .i64 0)), false, none⟩]) <|
 .seq (.keep [0, 1, 7, 8]) <|
 .block 0 <| .loop <| .seq (.seq (.ops [⟨some 9, .binOp .lss 3 (.tmp 8) (.tmp 7) 3, false, none⟩]) <|
 .seq (.keep [0, 1, 7, 8, 9]) <|
 .seq (.cond (.tmp 9) (.skip) <|
 .exit 0) <|
 .seq (.keep [0, 1, 7, 8]) <|
 .seq (.block 1 <| .seq (.ops [⟨some 10, .move (.tmp 8), false, none⟩,
  ⟨some 5, .assign (.tmp 10), false, none⟩]) <|
 .seq (.keep [0, 1, 5, 7, 8]) <|
 .seq (.ops [⟨some 11, .move (.tmp 1), false, none⟩,
  ⟨some 12, .move (.tmp 0), false, none⟩,
  ⟨some 13, .move (.tmp 5), false, none⟩,
  ⟨some 14, .indexAddr 105 (.tmp 12) (.tmp 13), false, none⟩,
  ⟨some 15, .load 95 (.tmp 14), false, none⟩,
  ⟨some 16, .call ⟨.value (.tmp 11), #[(.tmp 15)], #[95]⟩, true, none⟩]) <|
 .seq (.keep [0, 1, 5, 7, 8, 16]) <|
 .cond (.tmp 16) (.seq (.ops [⟨some 17, .move (.tmp 5), false, none⟩,
  ⟨some 4, .assign (.tmp 17), false, none⟩]) <|
 .seq (.keep [4]) <|
 .ret) <|
 .skip) <|
 .seq (.keep [0, 1, 7, 8]) <|
 .ops [⟨some 18, .binOp .add 3 (.tmp 8) (.const (.int .i64 1)) 3, false, none⟩,
  ⟨some 8, .move (.tmp 18), false, none⟩]) <|
 .keep [0, 1, 7, 8]) <|
 .seq (.keep []) <|
 .seq (.ops [⟨some 4, .assign (.const (.int .i64 (-1))), false, none⟩]) <|
 .seq (.keep [4]) <|
 .ret
theorem c80 : Try.f80.body.map (fun c => ((compile Try.prog kp80 [] kp80 c).map (·.1), fits Try.f80.ntmps c)) = some (some s80, true) := by kernel_rfl
theorem r80 : Try.f80.results.toList = [.tmp 4] := by kernel_rfl
-- (*marionette/region.List).At$1
abbrev kp81 : List Nat := [3]
def s81 : SC :=
 .seq (.ops [⟨some 2, .box 95 (.tmp 0), true, none⟩,
  ⟨some 3, .assign (.const (.bool false)), false, none⟩]) <|
 .seq (.keep [1, 2]) <|
 .seq (.ops [⟨some 4, .load 22 (.tmp 1), false, none⟩,
  ⟨some 5, .fieldAddr 95 (.tmp 2) 0, false, none⟩,
  ⟨some 6, .load 22 (.tmp 5), false, none⟩,
  ⟨some 7, .binOp .geq 22 (.tmp 4) (.tmp 6) 22, false, none⟩,
  ⟨some 8, .move (.tmp 7), false, none⟩,
  ⟨some 9, .load 22 (.tmp 1), false, some (8, true)⟩,
  ⟨some 10, .fieldAddr 95 (.tmp 2) 1, false, some (8, true)⟩,
  ⟨some 11, .load 22 (.tmp 10), false, some (8, true)⟩,
  ⟨some 12, .binOp .lss 22 (.tmp 9) (.tmp 11) 22, false, some (8, true)⟩,
  ⟨some 13, .pick (.tmp 8) (.tmp 12) (.const (.bool false)), false, none⟩,
  ⟨some 3, .assign (.tmp 13), false, none⟩]) <|
 .seq (.keep [3]) <|
 .ret
theorem c81 : Try.f81.body.map (fun c => ((compile Try.prog kp81 [] kp81 c).map (·.1), fits Try.f81.ntmps c)) = some (some s81, true) := by kernel_rfl
theorem r81 : Try.f81.results.toList = [.tmp 3] := by kernel_rfl
-- marionette/region.prots
abbrev kp82 : List Nat := [2]
def s82 : SC :=
 .seq (.ops [⟨some 2, .assign (.const (.bool false)), false, none⟩]) <|
 .seq (.keep [0]) <|
 .seq (.ops [⟨some 3, .move (.tmp 0), false, none⟩,
  ⟨some 4, .binOp .geq 3 (.tmp 3) (.const (.int .i64 0)) 3, false, none⟩,
  ⟨some 5, .move (.tmp 4), false, none⟩,
  ⟨some 6, .move (.tmp 0), false, some (5, true)⟩,
  ⟨some 7, .binOp .leq 3 (.tmp 6) (.const (.int .i64 7)) 3, false, some (5, true)⟩,
  ⟨some 8, .pick (.tmp 5) (.tmp 7) (.const (.bool false)), false, none⟩,
  ⟨some 2, .assign (.tmp 8), false, none⟩]) <|
 .seq (.keep [2]) <|
 .ret
theorem c82 : Try.f82.body.map (fun c => ((compile Try.prog kp82 [] kp82 c).map (·.1), fits Try.f82.ntmps c)) = some (some s82, true) := by kernel_rfl
theorem r82 : Try.f82.results.toList = [.tmp 2] := by kernel_rfl
-- (*marionette/region.List).First
abbrev kp83 : List Nat := [8, 9]
def s83 : SC :=
 .seq (.ops [⟨some 8, .assign (.const (.int .u64 0)), false, none⟩,
  ⟨some 9, .assign (.const (.bool false)), false, none⟩]) <|
 .seq (.keep [0, 1, 2, 3]) <|
 .seq (.seq (.ops [⟨some 12, .move (.tmp 0), false, none⟩,
  ⟨some 13, .binOp .eql 82 (.tmp 12) (.const (.pointer none)) 82, false, none⟩,
  ⟨some 14, .move (.tmp 13), false, none⟩,
  ⟨some 15, .move (.tmp 1), false, some (14, false)⟩,
  ⟨some 16, .move (.tmp 2), false, some (14, false)⟩,
  ⟨some 17, .binOp .geq 22 (.tmp 15) (.tmp 16) 22, false, some (14, false)⟩,
  ⟨some 18, .pick (.tmp 14) (.const (.bool true)) (.tmp 17), false, none⟩]) <|
 .seq (.keep [0, 1, 2, 3, 18]) <|
 .cond (.tmp 18) (.seq (.ops [⟨some 8, .assign (.const (.int .u64 0)), false, none⟩,
  ⟨some 9, .assign (.const (.bool false)), false, none⟩]) <|
 .seq (.keep [8, 9]) <|
 .ret) <|
 .skip) <|
 .seq (.keep [0, 1, 2, 3]) <|
 .seq (.block 0 <| .loop <| .seq (.seq (.seq (.ops [⟨some 19, .move (.tmp 1), false, none⟩,
  ⟨some 20, .move (.tmp 2), false, none⟩,
  ⟨some 21, .binOp .lss 22 (.tmp 19) (.tmp 20) 22, false, none⟩]) <|
 .seq (.keep [0, 1, 2, 3, 21]) <|
 .cond (.tmp 21) (.skip) <|
 .exit 0) <|
 .seq (.keep [0, 1, 2, 3]) <|
 .block 1 <| .seq (.ops [⟨some 23, .move (.tmp 0), false, none⟩,
  ⟨some 24, .move (.tmp 1), false, none⟩,
  ⟨some 25, .call ⟨.value (.func 56), #[(.tmp 23), (.tmp 24)], #[82, 22]⟩, true, none⟩,
  ⟨some 22, .move (.tmp 25), false, none⟩,
  ⟨some 26, .extract (.tmp 22) 0, false, none⟩,
  ⟨some 27, .extract (.tmp 22) 1, false, none⟩,
  ⟨some 10, .alloc 95, true, none⟩,
  ⟨none, .store 95 (.tmp 10) (.tmp 26), true, none⟩,
  ⟨some 11, .assign (.tmp 27), false, none⟩]) <|
 .seq (.keep [0, 1, 2, 3, 10, 11]) <|
 .seq (.seq (.ops [⟨some 28, .move (.tmp 11), false, none⟩,
  ⟨some 29, .unOp .not 4 (.tmp 28), false, none⟩,
  ⟨some 30, .move (.tmp 29), false, none⟩,
  ⟨some 31, .fieldAddr 95 (.tmp 10) 2, false, some (30, false)⟩,
  ⟨some 32, .load 3 (.tmp 31), false, some (30, false)⟩,
  ⟨some 33, .move (.tmp 3), false, some (30, false)⟩,
  ⟨some 34, .binOp .and 3 (.tmp 32) (.tmp 33) 3, false, some (30, false)⟩,
  ⟨some 35, .move (.tmp 3), false, some (30, false)⟩,
  ⟨some 36, .binOp .neq 3 (.tmp 34) (.tmp 35) 3, false, some (30, false)⟩,
  ⟨some 37, .pick (.tmp 30) (.const (.bool true)) (.tmp 36), false, none⟩]) <|
 .seq (.keep [0, 1, 2, 3, 10, 37]) <|
 .cond (.tmp 37) (.seq (.ops [⟨some 38, .move (.tmp 1), false, none⟩,
  ⟨some 8, .assign (.tmp 38), false, none⟩,
  ⟨some 9, .assign (.const (.bool true)), false, none⟩]) <|
 .seq (.keep [8, 9]) <|
 .ret) <|
 .skip) <|
 .seq (.keep [0, 2, 3, 10]) <|
 .ops [⟨some 39, .fieldAddr 95 (.tmp 10) 1, false, none⟩,
  ⟨some 40, .load 22 (.tmp 39), false, none⟩,
  ⟨some 1, .assign (.tmp 40), false, none⟩]) <|
 .keep [0, 1, 2, 3]) <|
 .seq (.keep []) <|
 .seq (.ops [⟨some 8, .assign (.const (.int .u64 0)), false, none⟩,
  ⟨some 9, .assign (.const (.bool false)), false, none⟩]) <|
 .seq (.keep [8, 9]) <|
 .ret
theorem c83 : Try.f83.body.map (fun c => ((compile Try.prog kp83 [] kp83 c).map (·.1), fits Try.f83.ntmps c)) = some (some s83, true) := by kernel_rfl
theorem r83 : Try.f83.results.toList = [.tmp 8, .tmp 9] := by kernel_rfl
-- (*marionette/region.List).take
abbrev kp84 : List Nat := [4]
def s84 : SC :=
 .seq (.ops [⟨some 4, .assign (.const (.int .i64 0)), false, none⟩]) <|
 .seq (.keep [0, 1]) <|
 .seq (.ops [⟨some 5, .move (.tmp 1), false, none⟩,
  ⟨some 6, .call ⟨.value (.func 95), #[(.tmp 5)], #[105]⟩, true, none⟩,
  ⟨some 1, .assign (.tmp 6), false, none⟩]) <|
 .seq (.keep [0, 1]) <|
 .seq (.seq (.ops [⟨some 7, .move (.tmp 1), false, none⟩,
  ⟨some 8, .call ⟨.builtin .len, #[(.tmp 7)], #[105]⟩, false, none⟩,
  ⟨some 9, .binOp .gtr 3 (.tmp 8) (.const (.int .i64 256)) 3, false, none⟩]) <|
 .seq (.keep [0, 1, 9]) <|
 .cond (.tmp 9) (.seq (.ops [⟨some 4, .assign (.const (.int .i64 12)), false, none⟩]) <|
 .seq (.keep [4]) <|
 .ret) <|
 .skip) <|
 .seq (.keep [0, 1]) <|
 .seq (.ops [⟨some 10, .move (.tmp 0), false, none⟩,
  ⟨some 11, .move (.tmp 1), false, none⟩,
  ⟨some 12, .nilCheck (.tmp 10), false, none⟩,
  ⟨some 13, .fieldAddr 107 (.tmp 12) 0, false, none⟩,
  ⟨none, .store 105 (.tmp 13) (.tmp 11), true, none⟩]) <|
 .seq (.keep []) <|
 .seq (.ops [⟨some 4, .assign (.const (.int .i64 0)), false, none⟩]) <|
 .seq (.keep [4]) <|
 .ret
theorem c84 : Try.f84.body.map (fun c => ((compile Try.prog kp84 [] kp84 c).map (·.1), fits Try.f84.ntmps c)) = some (some s84, true) := by kernel_rfl
theorem r84 : Try.f84.results.toList = [.tmp 4] := by kernel_rfl
-- marionette/region.with
abbrev kp85 : List Nat := [4]
def s85 : SC :=
 .seq (.ops [⟨some 3, .box 95 (.tmp 1), true, none⟩,
  ⟨some 4, .assign (.const (.slice none 0 0)), false, none⟩]) <|
 .seq (.keep [0, 3]) <|
 .seq (.ops [⟨some 7, .move (.tmp 0), false, none⟩,
  ⟨some 8, .fieldAddr 95 (.tmp 3) 0, false, none⟩,
  ⟨some 9, .load 22 (.tmp 8), false, none⟩,
  ⟨some 10, .fieldAddr 95 (.tmp 3) 1, false, none⟩,
  ⟨some 11, .load 22 (.tmp 10), false, none⟩,
  ⟨some 12, .call ⟨.value (.func 94), #[(.tmp 7), (.tmp 9), (.tmp 11)], #[105, 22, 22]⟩, true, none⟩,
  ⟨some 5, .assign (.tmp 12), false, none⟩]) <|
 .seq (.keep [3, 5]) <|
 .seq (.ops [⟨some 13, .move (.tmp 5), false, none⟩,
  ⟨some 14, .makeFunc (.func 96) #[] #[(.tmp 3)], false, none⟩,
  ⟨some 15, .call ⟨.value (.func 80), #[(.tmp 13), (.tmp 14)], #[105, 119]⟩, true, none⟩,
  ⟨some 6, .assign (.tmp 15), false, none⟩]) <|
 .seq (.keep [3, 5, 6]) <|
 .seq (.seq (.ops [⟨some 16, .move (.tmp 6), false, none⟩,
  ⟨some 17, .binOp .lss 3 (.tmp 16) (.const (.int .i64 0)) 3, false, none⟩]) <|
 .seq (.keep [3, 5, 6, 17]) <|
 .cond (.tmp 17) (.ops [⟨some 18, .move (.tmp 5), false, none⟩,
  ⟨some 19, .call ⟨.builtin .len, #[(.tmp 18)], #[105]⟩, false, none⟩,
  ⟨some 6, .assign (.tmp 19), false, none⟩]) <|
 .skip) <|
 .seq (.keep [3, 5, 6]) <|
 .seq (.ops [⟨some 20, .move (.tmp 5), false, none⟩,
  ⟨some 21, .move (.tmp 6), false, none⟩,
  ⟨some 22, .load 95 (.tmp 3), false, none⟩,
  ⟨some 23, .buildSlice 105 1 #[(0, (.tmp 22))], true, none⟩,
  ⟨some 24, .call ⟨.value (.func 97), #[(.tmp 20), (.tmp 21), (.tmp 23)], #[105, 3, 105]⟩, true, none⟩,
  ⟨some 4, .assign (.tmp 24), false, none⟩]) <|
 .seq (.keep [4]) <|
 .ret
theorem c85 : Try.f85.body.map (fun c => ((compile Try.prog kp85 [] kp85 c).map (·.1), fits Try.f85.ntmps c)) = some (some s85, true) := by kernel_rfl
theorem r85 : Try.f85.results.toList = [.tmp 4] := by kernel_rfl
-- marionette/page.wide
abbrev kp86 : List Nat := [4]
def s86 : SC :=
 .seq (.ops [⟨some 4, .assign (.const (.bool false)), false, none⟩]) <|
 .seq (.keep [0, 1]) <|
 .seq (.ops [⟨some 5, .move (.tmp 1), false, none⟩,
  ⟨some 6, .binOp .add 22 (.tmp 5) (.const (.int .u64 4096)) 22, false, none⟩,
  ⟨some 7, .binOp .sub 22 (.tmp 6) (.const (.int .u64 1)) 22, false, none⟩,
  ⟨some 8, .binOp .quo 22 (.tmp 7) (.const (.int .u64 4096)) 22, false, none⟩,
  ⟨some 9, .move (.tmp 0), false, none⟩,
  ⟨some 10, .binOp .quo 22 (.tmp 9) (.const (.int .u64 4096)) 22, false, none⟩,
  ⟨some 11, .binOp .sub 22 (.tmp 8) (.tmp 10) 22, false, none⟩,
  ⟨some 12, .binOp .gtr 22 (.tmp 11) (.const (.int .u64 4096)) 22, false, none⟩,
  ⟨some 4, .assign (.tmp 12), false, none⟩]) <|
 .seq (.keep [4]) <|
 .ret
theorem c86 : Try.f86.body.map (fun c => ((compile Try.prog kp86 [] kp86 c).map (·.1), fits Try.f86.ntmps c)) = some (some s86, true) := by kernel_rfl
theorem r86 : Try.f86.results.toList = [.tmp 4] := by kernel_rfl
-- (*marionette/marionetteref06.Space).without
abbrev kp87 : List Nat := [6]
def s87 : SC :=
 .seq (.ops [⟨some 6, .assign (.const (.slice none 0 0)), false, none⟩]) <|
 .seq (.keep [0, 1, 2]) <|
 .seq (.ops [⟨some 7, .assign (.const (.slice none 0 0)), false, none⟩]) <|
 .seq (.keep [0, 1, 2, 7]) <|
 .seq (.seq (.ops [⟨some 8, .assign (.const (.int .i64 0)), false, none⟩]) <|
 .seq (.keep [0, 1, 2, 7, 8]) <|
 .block 0 <| .loop <| .seq (.seq (.seq (.ops [⟨some 10, .move (.tmp 8), false, none⟩,
  ⟨some 11, .move (.tmp 0), false, none⟩,
  ⟨some 12, .nilCheck (.tmp 11), false, none⟩,
  ⟨some 13, .fieldAddr 126 (.tmp 12) 0, false, none⟩,
  ⟨some 14, .load 124 (.tmp 13), false, none⟩,
  ⟨some 15, .call ⟨.builtin .len, #[(.tmp 14)], #[124]⟩, false, none⟩,
  ⟨some 16, .binOp .lss 3 (.tmp 10) (.tmp 15) 3, false, none⟩]) <|
 .seq (.keep [0, 1, 2, 7, 8, 16]) <|
 .cond (.tmp 16) (.skip) <|
 .exit 0) <|
 .seq (.keep [0, 1, 2, 7, 8]) <|
 .seq (.block 1 <| .seq (.ops [⟨some 19, .move (.tmp 0), false, none⟩,
  ⟨some 20, .nilCheck (.tmp 19), false, none⟩,
  ⟨some 21, .fieldAddr 126 (.tmp 20) 0, false, none⟩,
  ⟨some 22, .load 124 (.tmp 21), false, none⟩,
  ⟨some 23, .move (.tmp 8), false, none⟩,
  ⟨some 24, .indexAddr 124 (.tmp 22) (.tmp 23), false, none⟩,
  ⟨some 25, .fieldAddr 129 (.tmp 24) 0, false, none⟩,
  ⟨some 26, .load 22 (.tmp 25), false, none⟩,
  ⟨some 27, .binOp .mul 22 (.tmp 26) (.const (.int .u64 4096)) 22, false, none⟩,
  ⟨some 9, .assign (.tmp 27), false, none⟩]) <|
 .seq (.keep [0, 1, 2, 7, 8, 9]) <|
 .seq (.ops [⟨some 28, .move (.tmp 9), false, none⟩,
  ⟨some 29, .move (.tmp 1), false, none⟩,
  ⟨some 30, .binOp .lss 22 (.tmp 28) (.tmp 29) 22, false, none⟩,
  ⟨some 31, .move (.tmp 30), false, none⟩,
  ⟨some 32, .move (.tmp 9), false, some (31, false)⟩,
  ⟨some 33, .move (.tmp 2), false, some (31, false)⟩,
  ⟨some 34, .binOp .geq 22 (.tmp 32) (.tmp 33) 22, false, some (31, false)⟩,
  ⟨some 35, .pick (.tmp 31) (.const (.bool true)) (.tmp 34), false, none⟩]) <|
 .seq (.keep [0, 1, 2, 7, 8, 35]) <|
 .cond (.tmp 35) (.ops [⟨some 36, .move (.tmp 7), false, none⟩,
  ⟨some 37, .move (.tmp 0), false, none⟩,
  ⟨some 38, .nilCheck (.tmp 37), false, none⟩,
  ⟨some 39, .fieldAddr 126 (.tmp 38) 0, false, none⟩,
  ⟨some 40, .load 124 (.tmp 39), false, none⟩,
  ⟨some 41, .move (.tmp 8), false, none⟩,
  ⟨some 42, .indexAddr 124 (.tmp 40) (.tmp 41), false, none⟩,
  ⟨some 43, .load 129 (.tmp 42), false, none⟩,
  ⟨some 44, .buildSlice 124 1 #[(0, (.tmp 43))], true, none⟩,
  ⟨some 45, .call ⟨.builtin .append, #[(.tmp 36), (.tmp 44)], #[124, 124]⟩, true, none⟩,
  ⟨some 7, .assign (.tmp 45), false, none⟩]) <|
 .skip) <|
 .seq (.keep [0, 1, 2, 7, 8]) <|
 .ops [⟨some 17, .move (.tmp 8), false, none⟩,
  ⟨some 18, .binOp .add 3 (.tmp 17) (.const (.int .i64 1)) 3, false, none⟩,
  ⟨some 8, .assign (.tmp 18), false, none⟩]) <|
 .keep [0, 1, 2, 7, 8]) <|
 .seq (.keep [7]) <|
 .seq (.ops [⟨some 46, .move (.tmp 7), false, none⟩,
  ⟨some 6, .assign (.tmp 46), false, none⟩]) <|
 .seq (.keep [6]) <|
 .ret
theorem c87 : Try.f87.body.map (fun c => ((compile Try.prog kp87 [] kp87 c).map (·.1), fits Try.f87.ntmps c)) = some (some s87, true) := by kernel_rfl
theorem r87 : Try.f87.results.toList = [.tmp 6] := by kernel_rfl
-- marionette/marionetteref06.Regions
abbrev kp88 : List Nat := [2]
def s88 : SC :=
 .seq (.ops [⟨some 2, .assign (.const (.slice none 0 0)), false, none⟩]) <|
 .seq (.keep [0]) <|
 .seq (.ops [⟨some 3, .assign (.const (.slice none 0 0)), false, none⟩]) <|
 .seq (.keep [0, 3]) <|
 .seq (.seq (.ops [⟨some 4, .assign (.const (.int .i64 0)), false, none⟩]) <|
 .seq (.keep [0, 3, 4]) <|
 .block 0 <| .loop <| .seq (.seq (.seq (.ops [⟨some 7, .move (.tmp 4), false, none⟩,
  ⟨some 8, .move (.tmp 0), false, none⟩,
  ⟨some 9, .call ⟨.builtin .len, #[(.tmp 8)], #[124]⟩, false, none⟩,
  ⟨some 10, .binOp .lss 3 (.tmp 7) (.tmp 9) 3, false, none⟩]) <|
 .seq (.keep [0, 3, 4, 10]) <|
 .cond (.tmp 10) (.skip) <|
 .exit 0) <|
 .seq (.keep [0, 3, 4]) <|
 .seq (.block 1 <| .seq (.ops [⟨some 13, .move (.tmp 3), false, none⟩,
  ⟨some 14, .call ⟨.builtin .len, #[(.tmp 13)], #[105]⟩, false, none⟩,
  ⟨some 5, .assign (.tmp 14), false, none⟩]) <|
 .seq (.keep [0, 3, 4, 5]) <|
 .seq (.ops [⟨some 15, .move (.tmp 0), false, none⟩,
  ⟨some 16, .move (.tmp 4), false, none⟩,
  ⟨some 17, .indexAddr 124 (.tmp 15) (.tmp 16), false, none⟩,
  ⟨some 18, .fieldAddr 129 (.tmp 17) 0, false, none⟩,
  ⟨some 19, .load 22 (.tmp 18), false, none⟩,
  ⟨some 20, .binOp .mul 22 (.tmp 19) (.const (.int .u64 4096)) 22, false, none⟩,
  ⟨some 6, .assign (.tmp 20), false, none⟩]) <|
 .seq (.keep [0, 3, 4, 5, 6]) <|
 .seq (.seq (.ops [⟨some 21, .move (.tmp 5), false, none⟩]) <|
 .seq (.ops [⟨some 22, .binOp .gtr 3 (.tmp 21) (.const (.int .i64 0)) 3, false, none⟩]) <|
 .seq (.ops [⟨some 23, .move (.tmp 22), false, none⟩]) <|
 .seq (.ops [⟨some 24, .move (.tmp 3), false, some (23, true)⟩]) <|
 .seq (.ops [⟨some 25, .move (.tmp 5), false, some (23, true)⟩]) <|
 .seq (.ops [⟨some 26, .binOp .sub 3 (.tmp 25) (.const (.int .i64 1)) 3, false, some (23, true)⟩]) <|
 .seq (.ops [⟨some 27, .indexAddr 105 (.tmp 24) (.tmp 26), false, some (23, true)⟩]) <|
 .seq (.ops [⟨some 28, .fieldAddr 95 (.tmp 27) 1, false, some (23, true)⟩]) <|
 .seq (.ops [⟨some 29, .load 22 (.tmp 28), false, some (23, true)⟩]) <|
 .seq (.ops [⟨some 30, .move (.tmp 6), false, some (23, true)⟩]) <|
 .seq (.ops [⟨some 31, .binOp .eql 22 (.tmp 29) (.tmp 30) 22, false, some (23, true)⟩]) <|
 .seq (.ops [⟨some 32, .pick (.tmp 23) (.tmp 31) (.const (.bool false)), false, none⟩]) <|
 .seq (.ops [⟨some 33, .move (.tmp 32), false, none⟩]) <|
 .seq (.ops [⟨some 34, .move (.tmp 3), false, some (33, true)⟩]) <|
 .seq (.ops [⟨some 35, .move (.tmp 5), false, some (33, true)⟩]) <|
 .seq (.ops [⟨some 36, .binOp .sub 3 (.tmp 35) (.const (.int .i64 1)) 3, false, some (33, true)⟩]) <|
 .seq (.ops [⟨some 37, .indexAddr 105 (.tmp 34) (.tmp 36), false, some (33, true)⟩]) <|
 .seq (.ops [⟨some 38, .fieldAddr 95 (.tmp 37) 2, false, some (33, true)⟩]) <|
 .seq (.ops [⟨some 39, .load 3 (.tmp 38), false, some (33, true)⟩]) <|
 .seq (.ops [⟨some 40, .move (.tmp 0), false, some (33, true)⟩]) <|
 .seq (.ops [⟨some 41, .move (.tmp 4), false, some (33, true)⟩]) <|
 .seq (.ops [⟨some 42, .indexAddr 124 (.tmp 40) (.tmp 41), false, some (33, true)⟩]) <|
 .seq (.ops [⟨some 43, .fieldAddr 129 (.tmp 42) 1, false, some (33, true)⟩]) <|
 .seq (.ops [⟨some 44, .load 3 (.tmp 43), false, some (33, true)⟩]) <|
 .seq (.ops [⟨some 45, .binOp .eql 3 (.tmp 39) (.tmp 44) 3, false, some (33, true)⟩]) <|
 .seq (.ops [⟨some 46, .pick (.tmp 33) (.tmp 45) (.const (.bool false)), false, none⟩]) <|
 .skip) <|
 .seq (.keep [0, 3, 4, 5, 6, 46]) <|
 .cond (.tmp 46) (.ops [⟨some 47, .move (.tmp 3), false, none⟩,
  ⟨some 48, .move (.tmp 5), false, none⟩,
  ⟨some 49, .binOp .sub 3 (.tmp 48) (.const (.int .i64 1)) 3, false, none⟩,
  ⟨some 50, .move (.tmp 6), false, none⟩,
  ⟨some 51, .binOp .add 22 (.tmp 50) (.const (.int .u64 4096)) 22, false, none⟩,
  ⟨some 52, .indexAddr 105 (.tmp 47) (.tmp 49), false, none⟩,
  ⟨some 53, .fieldAddr 95 (.tmp 52) 1, false, none⟩,
  ⟨none, .store 22 (.tmp 53) (.tmp 51), true, none⟩]) <|
 .ops [⟨some 54, .move (.tmp 3), false, none⟩,
  ⟨some 55, .move (.tmp 6), false, none⟩,
  ⟨some 56, .move (.tmp 6), false, none⟩,
  ⟨some 57, .binOp .add 22 (.tmp 56) (.const (.int .u64 4096)) 22, false, none⟩,
  ⟨some 58, .move (.tmp 0), false, none⟩,
  ⟨some 59, .move (.tmp 4), false, none⟩,
  ⟨some 60, .indexAddr 124 (.tmp 58) (.tmp 59), false, none⟩,
  ⟨some 61, .fieldAddr 129 (.tmp 60) 1, false, none⟩,
  ⟨some 62, .load 3 (.tmp 61), false, none⟩,
  ⟨some 63, .build 95 #[(0, (.tmp 55)), (1, (.tmp 57)), (2, (.tmp 62))], false, none⟩,
  ⟨some 64, .buildSlice 105 1 #[(0, (.tmp 63))], true, none⟩,
  ⟨some 65, .call ⟨.builtin .append, #[(.tmp 54), (.tmp 64)], #[105, 105]⟩, true, none⟩,
  ⟨some 3, .assign (.tmp 65), false, none⟩]) <|
 .seq (.keep [0, 3, 4]) <|
 .ops [⟨some 11, .move (.tmp 4), false, none⟩,
  ⟨some 12, .binOp .add 3 (.tmp 11) (.const (.int .i64 1)) 3, false, none⟩,
  ⟨some 4, .assign (.tmp 12), false, none⟩]) <|
 .keep [0, 3, 4]) <|
 .seq (.keep [3]) <|
 .seq (.ops [⟨some 66, .move (.tmp 3), false, none⟩,
  ⟨some 2, .assign (.tmp 66), false, none⟩]) <|
 .seq (.keep [2]) <|
 .ret
theorem c88 : Try.f88.body.map (fun c => ((compile Try.prog kp88 [] kp88 c).map (·.1), fits Try.f88.ntmps c)) = some (some s88, true) := by kernel_rfl
theorem r88 : Try.f88.results.toList = [.tmp 2] := by kernel_rfl
-- marionette/marionetteref06.wide
abbrev kp89 : List Nat := [2]
def s89 : SC :=
 .seq (.ops [⟨some 2, .assign (.const (.bool false)), false, none⟩]) <|
 .seq (.keep [0]) <|
 .seq (.ops [⟨some 3, .move (.tmp 0), false, none⟩,
  ⟨some 4, .binOp .eql 3 (.tmp 3) (.const (.int .i64 1)) 3, false, none⟩,
  ⟨some 5, .move (.tmp 4), false, none⟩,
  ⟨some 6, .move (.tmp 0), false, some (5, false)⟩,
  ⟨some 7, .binOp .eql 3 (.tmp 6) (.const (.int .i64 2)) 3, false, some (5, false)⟩,
  ⟨some 8, .pick (.tmp 5) (.const (.bool true)) (.tmp 7), false, none⟩,
  ⟨some 9, .move (.tmp 8), false, none⟩,
  ⟨some 10, .move (.tmp 0), false, some (9, false)⟩,
  ⟨some 11, .binOp .eql 3 (.tmp 10) (.const (.int .i64 4)) 3, false, some (9, false)⟩,
  ⟨some 12, .pick (.tmp 9) (.const (.bool true)) (.tmp 11), false, none⟩,
  ⟨some 13, .move (.tmp 12), false, none⟩,
  ⟨some 14, .move (.tmp 0), false, some (13, false)⟩,
  ⟨some 15, .binOp .eql 3 (.tmp 14) (.const (.int .i64 8)) 3, false, some (13, false)⟩,
  ⟨some 16, .pick (.tmp 13) (.const (.bool true)) (.tmp 15), false, none⟩,
  ⟨some 2, .assign (.tmp 16), false, none⟩]) <|
 .seq (.keep [2]) <|
 .ret
theorem c89 : Try.f89.body.map (fun c => ((compile Try.prog kp89 [] kp89 c).map (·.1), fits Try.f89.ntmps c)) = some (some s89, true) := by kernel_rfl
theorem r89 : Try.f89.results.toList = [.tmp 2] := by kernel_rfl
-- (*marionette/marionetteref06.Space).First
abbrev kp90 : List Nat := [8, 9]
def s90 : SC :=
 .seq (.ops [⟨some 8, .assign (.const (.int .u64 0)), false, none⟩,
  ⟨some 9, .assign (.const (.bool false)), false, none⟩]) <|
 .seq (.keep [0, 1, 2, 3]) <|
 .seq (.seq (.ops [⟨some 10, .assign (.const (.int .i64 0)), false, none⟩]) <|
 .seq (.keep [0, 1, 2, 3, 10]) <|
 .block 0 <| .loop <| .seq (.seq (.seq (.ops [⟨some 12, .move (.tmp 10), false, none⟩,
  ⟨some 13, .move (.tmp 2), false, none⟩,
  ⟨some 14, .binOp .lss 3 (.tmp 12) (.tmp 13) 3, false, none⟩]) <|
 .seq (.keep [0, 1, 2, 3, 10, 14]) <|
 .cond (.tmp 14) (.skip) <|
 .exit 0) <|
 .seq (.keep [0, 1, 2, 3, 10]) <|
 .seq (.block 1 <| .seq (.ops [⟨some 17, .move (.tmp 0), false, none⟩,
  ⟨some 18, .move (.tmp 1), false, none⟩,
  ⟨some 19, .move (.tmp 10), false, none⟩,
  ⟨some 20, .convert 3 22 (.tmp 19), false, none⟩,
  ⟨some 21, .binOp .add 22 (.tmp 18) (.tmp 20) 22, false, none⟩,
  ⟨some 22, .call ⟨.value (.func 98), #[(.tmp 17), (.tmp 21)], #[75, 22]⟩, true, none⟩,
  ⟨some 11, .assign (.tmp 22), false, none⟩]) <|
 .seq (.keep [0, 1, 2, 3, 10, 11]) <|
 .seq (.ops [⟨some 23, .move (.tmp 11), false, none⟩,
  ⟨some 24, .binOp .lss 3 (.tmp 23) (.const (.int .i64 0)) 3, false, none⟩,
  ⟨some 25, .move (.tmp 24), false, none⟩,
  ⟨some 26, .move (.tmp 11), false, some (25, false)⟩,
  ⟨some 27, .move (.tmp 3), false, some (25, false)⟩,
  ⟨some 28, .binOp .and 3 (.tmp 26) (.tmp 27) 3, false, some (25, false)⟩,
  ⟨some 29, .move (.tmp 3), false, some (25, false)⟩,
  ⟨some 30, .binOp .neq 3 (.tmp 28) (.tmp 29) 3, false, some (25, false)⟩,
  ⟨some 31, .pick (.tmp 25) (.const (.bool true)) (.tmp 30), false, none⟩]) <|
 .seq (.keep [0, 1, 2, 3, 10, 31]) <|
 .cond (.tmp 31) (.seq (.ops [⟨some 32, .move (.tmp 1), false, none⟩,
  ⟨some 33, .move (.tmp 10), false, none⟩,
  ⟨some 34, .convert 3 22 (.tmp 33), false, none⟩,
  ⟨some 35, .binOp .add 22 (.tmp 32) (.tmp 34) 22, false, none⟩,
  ⟨some 8, .assign (.tmp 35), false, none⟩,
  ⟨some 9, .assign (.const (.bool true)), false, none⟩]) <|
 .seq (.keep [8, 9]) <|
 .ret) <|
 .skip) <|
 .seq (.keep [0, 1, 2, 3, 10]) <|
 .ops [⟨some 15, .move (.tmp 10), false, none⟩,
  ⟨some 16, .binOp .add 3 (.tmp 15) (.const (.int .i64 1)) 3, false, none⟩,
  ⟨some 10, .assign (.tmp 16), false, none⟩]) <|
 .keep [0, 1, 2, 3, 10]) <|
 .seq (.keep []) <|
 .seq (.ops [⟨some 8, .assign (.const (.int .u64 0)), false, none⟩,
  ⟨some 9, .assign (.const (.bool false)), false, none⟩]) <|
 .seq (.keep [8, 9]) <|
 .ret
theorem c90 : Try.f90.body.map (fun c => ((compile Try.prog kp90 [] kp90 c).map (·.1), fits Try.f90.ntmps c)) = some (some s90, true) := by kernel_rfl
theorem r90 : Try.f90.results.toList = [.tmp 8, .tmp 9] := by kernel_rfl
-- (*marionette/marionetteref06.Space).Lays
abbrev kp91 : List Nat := []
def s91 : SC :=
 .seq (.ops [⟨some 6, .assign (.const (.int .i64 0)), false, none⟩]) <|
 .seq (.keep [0, 1, 2, 6]) <|
 .block 0 <| .loop <| .seq (.seq (.seq (.ops [⟨some 7, .move (.tmp 6), false, none⟩,
  ⟨some 8, .move (.tmp 2), false, none⟩,
  ⟨some 9, .call ⟨.builtin .len, #[(.tmp 8)], #[50]⟩, false, none⟩,
  ⟨some 10, .binOp .lss 3 (.tmp 7) (.tmp 9) 3, false, none⟩,
  ⟨some 11, .move (.tmp 10), false, none⟩,
  ⟨some 12, .move (.tmp 1), false, some (11, true)⟩,
  ⟨some 13, .binOp .lss 22 (.tmp 12) (.const (.int .u64 274877906944)) 22, false, some (11, true)⟩,
  ⟨some 14, .pick (.tmp 11) (.tmp 13) (.const (.bool false)), false, none⟩,
  ⟨some 15, .move (.tmp 14), false, none⟩,
  ⟨some 16, .move (.tmp 1), false, some (15, true)⟩,
  ⟨some 17, .move (.tmp 6), false, some (15, true)⟩,
  ⟨some 18, .convert 3 22 (.tmp 17), false, some (15, true)⟩,
  ⟨some 19, .binOp .add 22 (.tmp 16) (.tmp 18) 22, false, some (15, true)⟩,
  ⟨some 20, .binOp .lss 22 (.tmp 19) (.const (.int .u64 274877906944)) 22, false, some (15, true)⟩,
  ⟨some 21, .pick (.tmp 15) (.tmp 20) (.const (.bool false)), false, none⟩]) <|
 .seq (.keep [0, 1, 2, 6, 21]) <|
 .cond (.tmp 21) (.skip) <|
 .exit 0) <|
 .seq (.keep [0, 1, 2, 6]) <|
 .seq (.block 1 <| .ops [⟨some 24, .move (.tmp 0), false, none⟩,
  ⟨some 25, .move (.tmp 1), false, none⟩,
  ⟨some 26, .move (.tmp 6), false, none⟩,
  ⟨some 27, .convert 3 22 (.tmp 26), false, none⟩,
  ⟨some 28, .binOp .add 22 (.tmp 25) (.tmp 27) 22, false, none⟩,
  ⟨some 29, .move (.tmp 2), false, none⟩,
  ⟨some 30, .move (.tmp 6), false, none⟩,
  ⟨some 31, .indexAddr 50 (.tmp 29) (.tmp 30), false, none⟩,
  ⟨some 32, .load 5 (.tmp 31), false, none⟩,
  ⟨some 33, .call ⟨.value (.func 99), #[(.tmp 24), (.tmp 28), (.tmp 32)], #[75, 22, 5]⟩, true, none⟩]) <|
 .seq (.keep [0, 1, 2, 6]) <|
 .ops [⟨some 22, .move (.tmp 6), false, none⟩,
  ⟨some 23, .binOp .add 3 (.tmp 22) (.const (.int .i64 1)) 3, false, none⟩,
  ⟨some 6, .assign (.tmp 23), false, none⟩]) <|
 .keep [0, 1, 2, 6]
theorem c91 : Try.f91.body.map (fun c => ((compile Try.prog kp91 [] kp91 c).map (·.1), fits Try.f91.ntmps c)) = some (some s91, true) := by kernel_rfl
theorem r91 : Try.f91.results.toList = [] := by kernel_rfl
-- (*marionette/marionetteref06.Space).at
abbrev kp92 : List Nat := [4, 5]
def s92 : SC :=
 .seq (.ops [⟨some 4, .assign (.const (.int .i64 0)), false, none⟩,
  ⟨some 5, .assign (.const (.bool false)), false, none⟩]) <|
 .seq (.keep [0, 1]) <|
 .seq (.ops [⟨some 6, .assign (.const (.int .i64 0)), false, none⟩]) <|
 .seq (.keep [0, 1, 6]) <|
 .seq (.ops [⟨some 9, .move (.tmp 0), false, none⟩,
  ⟨some 10, .nilCheck (.tmp 9), false, none⟩,
  ⟨some 11, .fieldAddr 126 (.tmp 10) 0, false, none⟩,
  ⟨some 12, .load 124 (.tmp 11), false, none⟩,
  ⟨some 13, .call ⟨.builtin .len, #[(.tmp 12)], #[124]⟩, false, none⟩,
  ⟨some 7, .assign (.tmp 13), false, none⟩]) <|
 .seq (.keep [0, 1, 6, 7]) <|
 .seq (.block 0 <| .loop <| .seq (.seq (.seq (.ops [⟨some 14, .move (.tmp 6), false, none⟩,
  ⟨some 15, .move (.tmp 7), false, none⟩,
  ⟨some 16, .binOp .lss 3 (.tmp 14) (.tmp 15) 3, false, none⟩]) <|
 .seq (.keep [0, 1, 6, 7, 16]) <|
 .cond (.tmp 16) (.skip) <|
 .exit 0) <|
 .seq (.keep [0, 1, 6, 7]) <|
 .block 1 <| .seq (.ops [⟨some 17, .move (.tmp 6), false, none⟩,
  ⟨some 18, .move (.tmp 7), false, none⟩,
  ⟨some 19, .binOp .add 3 (.tmp 17) (.tmp 18) 3, false, none⟩,
  ⟨some 20, .binOp .quo 3 (.tmp 19) (.const (.int .i64 2)) 3, false, none⟩,
  ⟨some 8, .assign (.tmp 20), false, none⟩]) <|
 .seq (.keep [0, 1, 6, 7, 8]) <|
 .seq (.ops [⟨some 21, .move (.tmp 0), false, none⟩,
  ⟨some 22, .nilCheck (.tmp 21), false, none⟩,
  ⟨some 23, .fieldAddr 126 (.tmp 22) 0, false, none⟩,
  ⟨some 24, .load 124 (.tmp 23), false, none⟩,
  ⟨some 25, .move (.tmp 8), false, none⟩,
  ⟨some 26, .indexAddr 124 (.tmp 24) (.tmp 25), false, none⟩,
  ⟨some 27, .fieldAddr 129 (.tmp 26) 0, false, none⟩,
  ⟨some 28, .load 22 (.tmp 27), false, none⟩,
  ⟨some 29, .move (.tmp 1), false, none⟩,
  ⟨some 30, .binOp .lss 22 (.tmp 28) (.tmp 29) 22, false, none⟩]) <|
 .seq (.keep [0, 1, 6, 7, 8, 30]) <|
 .cond (.tmp 30) (.ops [⟨some 31, .move (.tmp 8), false, none⟩,
  ⟨some 32, .binOp .add 3 (.tmp 31) (.const (.int .i64 1)) 3, false, none⟩,
  ⟨some 6, .assign (.tmp 32), false, none⟩]) <|
 .ops [⟨some 33, .move (.tmp 8), false, none⟩,
  ⟨some 7, .assign (.tmp 33), false, none⟩]) <|
 .keep [0, 1, 6, 7]) <|
 .seq (.keep [0, 1, 6]) <|
 .seq (.seq (.ops [⟨some 34, .move (.tmp 6), false, none⟩]) <|
 .seq (.ops [⟨some 35, .move (.tmp 6), false, none⟩]) <|
 .seq (.ops [⟨some 36, .move (.tmp 0), false, none⟩]) <|
 .seq (.ops [⟨some 37, .nilCheck (.tmp 36), false, none⟩]) <|
 .seq (.ops [⟨some 38, .fieldAddr 126 (.tmp 37) 0, false, none⟩]) <|
 .seq (.ops [⟨some 39, .load 124 (.tmp 38), false, none⟩]) <|
 .seq (.ops [⟨some 40, .call ⟨.builtin .len, #[(.tmp 39)], #[124]⟩, false, none⟩]) <|
 .seq (.ops [⟨some 41, .binOp .lss 3 (.tmp 35) (.tmp 40) 3, false, none⟩]) <|
 .seq (.ops [⟨some 42, .move (.tmp 41), false, none⟩]) <|
 .seq (.ops [⟨some 43, .move (.tmp 0), false, some (42, true)⟩]) <|
 .seq (.ops [⟨some 44, .nilCheck (.tmp 43), false, some (42, true)⟩]) <|
 .seq (.ops [⟨some 45, .fieldAddr 126 (.tmp 44) 0, false, some (42, true)⟩]) <|
 .seq (.ops [⟨some 46, .load 124 (.tmp 45), false, some (42, true)⟩]) <|
 .seq (.ops [⟨some 47, .move (.tmp 6), false, some (42, true)⟩]) <|
 .seq (.ops [⟨some 48, .indexAddr 124 (.tmp 46) (.tmp 47), false, some (42, true)⟩]) <|
 .seq (.ops [⟨some 49, .fieldAddr 129 (.tmp 48) 0, false, some (42, true)⟩]) <|
 .seq (.ops [⟨some 50, .load 22 (.tmp 49), false, some (42, true)⟩]) <|
 .seq (.ops [⟨some 51, .move (.tmp 1), false, some (42, true)⟩]) <|
 .seq (.ops [⟨some 52, .binOp .eql 22 (.tmp 50) (.tmp 51) 22, false, some (42, true)⟩]) <|
 .seq (.ops [⟨some 53, .pick (.tmp 42) (.tmp 52) (.const (.bool false)), false, none⟩]) <|
 .seq (.ops [⟨some 4, .assign (.tmp 34), false, none⟩]) <|
 .seq (.ops [⟨some 5, .assign (.tmp 53), false, none⟩]) <|
 .skip) <|
 .seq (.keep [4, 5]) <|
 .ret
theorem c92 : Try.f92.body.map (fun c => ((compile Try.prog kp92 [] kp92 c).map (·.1), fits Try.f92.ntmps c)) = some (some s92, true) := by kernel_rfl
theorem r92 : Try.f92.results.toList = [.tmp 4, .tmp 5] := by kernel_rfl
-- slices.Clone[[]marionette/api.Region,marionette/api.Region]
abbrev kp93 : List Nat := [2]
def s93 : SC :=
 .seq (.ops [⟨some 2, .assign (.const (.slice none 0 0)), false, none⟩]) <|
 .seq (.keep [0]) <|
 .seq (.seq (.ops [⟨some 3, .move (.tmp 0), false, none⟩,
  ⟨some 4, .binOp .eql 105 (.tmp 3) (.const (.slice none 0 0)) 105, false, none⟩]) <|
 .seq (.keep [0, 4]) <|
 .cond (.tmp 4) (.seq (.ops [⟨some 2, .assign (.const (.slice none 0 0)), false, none⟩]) <|
 .seq (.keep [2]) <|
 .ret) <|
 .skip) <|
 .seq (.keep [0]) <|
 .seq (.ops [⟨some 5, .buildSlice 105 0 #[], true, none⟩,
  ⟨some 6, .move (.tmp 0), false, none⟩,
  ⟨some 7, .call ⟨.builtin .append, #[(.tmp 5), (.tmp 6)], #[105, 105]⟩, true, none⟩,
  ⟨some 2, .assign (.tmp 7), false, none⟩]) <|
 .seq (.keep [2]) <|
 .ret
theorem c93 : Try.f93.body.map (fun c => ((compile Try.prog kp93 [] kp93 c).map (·.1), fits Try.f93.ntmps c)) = some (some s93, true) := by kernel_rfl
theorem r93 : Try.f93.results.toList = [.tmp 2] := by kernel_rfl
-- marionette/region.without
abbrev kp94 : List Nat := [6]
def s94 : SC :=
 .seq (.ops [⟨some 6, .assign (.const (.slice none 0 0)), false, none⟩]) <|
 .seq (.keep [0, 1, 2]) <|
 .seq (.ops [⟨some 7, .assign (.const (.slice none 0 0)), false, none⟩]) <|
 .seq (.keep [0, 1, 2, 7]) <|
 .seq (.seq (.ops [⟨some 10, .move (.tmp 0), false, none⟩,
  ⟨some 11, .call ⟨.builtin .len, #[(.tmp 10)], #[105]⟩, false, none⟩,
  ⟨some 12, .move (.const (.int .i64 0)), false, none⟩]) <|
 .seq (.keep [1, 2, 7, 10, 11, 12]) <|
 .block 0 <| .loop <| .seq (.seq (.ops [⟨some 13, .binOp .lss 3 (.tmp 12) (.tmp 11) 3, false, none⟩]) <|
 .seq (.keep [1, 2, 7, 10, 11, 12, 13]) <|
 .seq (.cond (.tmp 13) (.skip) <|
 .exit 0) <|
 .seq (.keep [1, 2, 7, 10, 11, 12]) <|
 .seq (.block 1 <| .seq (.ops [⟨some 14, .indexAddr 105 (.tmp 10) (.tmp 12), false, none⟩,
  ⟨some 15, .load 95 (.tmp 14), false, none⟩,
  ⟨some 9, .alloc 95, true, none⟩,
  ⟨none, .store 95 (.tmp 9) (.tmp 15), true, none⟩]) <|
 .seq (.keep [1, 2, 7, 9, 10, 11, 12]) <|
 .seq (.seq (.ops [⟨some 16, .fieldAddr 95 (.tmp 9) 1, false, none⟩,
  ⟨some 17, .load 22 (.tmp 16), false, none⟩,
  ⟨some 18, .move (.tmp 1), false, none⟩,
  ⟨some 19, .binOp .leq 22 (.tmp 17) (.tmp 18) 22, false, none⟩,
  ⟨some 20, .move (.tmp 19), false, none⟩,
  ⟨some 21, .fieldAddr 95 (.tmp 9) 0, false, some (20, false)⟩,
  ⟨some 22, .load 22 (.tmp 21), false, some (20, false)⟩,
  ⟨some 23, .move (.tmp 2), false, some (20, false)⟩,
  ⟨some 24, .binOp .geq 22 (.tmp 22) (.tmp 23) 22, false, some (20, false)⟩,
  ⟨some 25, .pick (.tmp 20) (.const (.bool true)) (.tmp 24), false, none⟩]) <|
 .seq (.keep [1, 2, 7, 9, 10, 11, 12, 25]) <|
 .cond (.tmp 25) (.seq (.ops [⟨some 26, .move (.tmp 7), false, none⟩,
  ⟨some 27, .load 95 (.tmp 9), false, none⟩,
  ⟨some 28, .buildSlice 105 1 #[(0, (.tmp 27))], true, none⟩,
  ⟨some 29, .call ⟨.builtin .append, #[(.tmp 26), (.tmp 28)], #[105, 105]⟩, true, none⟩,
  ⟨some 7, .assign (.tmp 29), false, none⟩]) <|
 .seq (.keep [1, 2, 7, 10, 11, 12]) <|
 .exit 1) <|
 .skip) <|
 .seq (.keep [1, 2, 7, 9, 10, 11, 12]) <|
 .seq (.seq (.ops [⟨some 30, .fieldAddr 95 (.tmp 9) 0, false, none⟩,
  ⟨some 31, .load 22 (.tmp 30), false, none⟩,
  ⟨some 32, .move (.tmp 1), false, none⟩,
  ⟨some 33, .binOp .lss 22 (.tmp 31) (.tmp 32) 22, false, none⟩]) <|
 .seq (.keep [1, 2, 7, 9, 10, 11, 12, 33]) <|
 .cond (.tmp 33) (.ops [⟨some 34, .move (.tmp 7), false, none⟩,
  ⟨some 35, .fieldAddr 95 (.tmp 9) 0, false, none⟩,
  ⟨some 36, .load 22 (.tmp 35), false, none⟩,
  ⟨some 37, .move (.tmp 1), false, none⟩,
  ⟨some 38, .fieldAddr 95 (.tmp 9) 2, false, none⟩,
  ⟨some 39, .load 3 (.tmp 38), false, none⟩,
  ⟨some 40, .build 95 #[(0, (.tmp 36)), (1, (.tmp 37)), (2, (.tmp 39))], false, none⟩,
  ⟨some 41, .buildSlice 105 1 #[(0, (.tmp 40))], true, none⟩,
  ⟨some 42, .call ⟨.builtin .append, #[(.tmp 34), (.tmp 41)], #[105, 105]⟩, true, none⟩,
  ⟨some 7, .assign (.tmp 42), false, none⟩]) <|
 .skip) <|
 .seq (.keep [1, 2, 7, 9, 10, 11, 12]) <|
 .seq (.ops [⟨some 43, .fieldAddr 95 (.tmp 9) 1, false, none⟩,
  ⟨some 44, .load 22 (.tmp 43), false, none⟩,
  ⟨some 45, .move (.tmp 2), false, none⟩,
  ⟨some 46, .binOp .gtr 22 (.tmp 44) (.tmp 45) 22, false, none⟩]) <|
 .seq (.keep [1, 2, 7, 9, 10, 11, 12, 46]) <|
 .cond (.tmp 46) (.ops [⟨some 47, .move (.tmp 7), false, none⟩,
  ⟨some 48, .move (.tmp 2), false, none⟩,
  ⟨some 49, .fieldAddr 95 (.tmp 9) 1, false, none⟩,
  ⟨some 50, .load 22 (.tmp 49), false, none⟩,
  ⟨some 51, .fieldAddr 95 (.tmp 9) 2, false, none⟩,
  ⟨some 52, .load 3 (.tmp 51), false, none⟩,
  ⟨some 53, .build 95 #[(0, (.tmp 48)), (1, (.tmp 50)), (2, (.tmp 52))], false, none⟩,
  ⟨some 54, .buildSlice 105 1 #[(0, (.tmp 53))], true, none⟩,
  ⟨some 55, .call ⟨.builtin .append, #[(.tmp 47), (.tmp 54)], #[105, 105]⟩, true, none⟩,
  ⟨some 7, .assign (.tmp 55), false, none⟩]) <|
 .skip) <|
 .seq (.keep [1, 2, 7, 10, 11, 12]) <|
 .ops [⟨some 56, .binOp .add 3 (.tmp 12) (.const (.int .i64 1)) 3, false, none⟩,
  ⟨some 12, .move (.tmp 56), false, none⟩]) <|
 .keep [1, 2, 7, 10, 11, 12]) <|
 .seq (.keep [7]) <|
 .seq (.ops [⟨some 57, .move (.tmp 7), false, none⟩,
  ⟨some 6, .assign (.tmp 57), false, none⟩]) <|
 .seq (.keep [6]) <|
 .ret
theorem c94 : Try.f94.body.map (fun c => ((compile Try.prog kp94 [] kp94 c).map (·.1), fits Try.f94.ntmps c)) = some (some s94, true) := by kernel_rfl
theorem r94 : Try.f94.results.toList = [.tmp 6] := by kernel_rfl
-- marionette/region.joined
abbrev kp95 : List Nat := [2]
def s95 : SC :=
 .seq (.ops [⟨some 2, .assign (.const (.slice none 0 0)), false, none⟩]) <|
 .seq (.keep [0]) <|
 .seq (.ops [⟨some 3, .assign (.const (.slice none 0 0)), false, none⟩]) <|
 .seq (.keep [0, 3]) <|
 .seq (.seq (.ops [⟨some 7, .move (.tmp 0), false, none⟩,
  ⟨some 8, .call ⟨.builtin .len, #[(.tmp 7)], #[105]⟩, false, none⟩,
  ⟨some 9, .move (.const (.int .i64 0)), false, none⟩]) <|
 .seq (.keep [3, 7, 8, 9]) <|
 .block 0 <| .loop <| .seq (.seq (.ops [⟨some 10, .binOp .lss 3 (.tmp 9) (.tmp 8) 3, false, none⟩]) <|
 .seq (.keep [3, 7, 8, 9, 10]) <|
 .seq (.cond (.tmp 10) (.skip) <|
 .exit 0) <|
 .seq (.keep [3, 7, 8, 9]) <|
 .seq (.block 1 <| .seq (.ops [⟨some 11, .indexAddr 105 (.tmp 7) (.tmp 9), false, none⟩,
  ⟨some 12, .load 95 (.tmp 11), false, none⟩,
  ⟨some 5, .alloc 95, true, none⟩,
  ⟨none, .store 95 (.tmp 5) (.tmp 12), true, none⟩]) <|
 .seq (.keep [3, 5, 7, 8, 9]) <|
 .seq (.seq (.ops [⟨some 13, .move (.tmp 3), false, none⟩,
  ⟨some 14, .call ⟨.builtin .len, #[(.tmp 13)], #[105]⟩, false, none⟩,
  ⟨some 6, .assign (.tmp 14), false, none⟩]) <|
 .seq (.keep [3, 5, 6, 7, 8, 9]) <|
 .seq (.seq (.ops [⟨some 15, .move (.tmp 6), false, none⟩]) <|
 .seq (.ops [⟨some 16, .binOp .gtr 3 (.tmp 15) (.const (.int .i64 0)) 3, false, none⟩]) <|
 .seq (.ops [⟨some 17, .move (.tmp 16), false, none⟩]) <|
 .seq (.ops [⟨some 18, .move (.tmp 3), false, some (17, true)⟩]) <|
 .seq (.ops [⟨some 19, .move (.tmp 6), false, some (17, true)⟩]) <|
 .seq (.ops [⟨some 20, .binOp .sub 3 (.tmp 19) (.const (.int .i64 1)) 3, false, some (17, true)⟩]) <|
 .seq (.ops [⟨some 21, .indexAddr 105 (.tmp 18) (.tmp 20), false, some (17, true)⟩]) <|
 .seq (.ops [⟨some 22, .fieldAddr 95 (.tmp 21) 1, false, some (17, true)⟩]) <|
 .seq (.ops [⟨some 23, .load 22 (.tmp 22), false, some (17, true)⟩]) <|
 .seq (.ops [⟨some 24, .fieldAddr 95 (.tmp 5) 0, false, some (17, true)⟩]) <|
 .seq (.ops [⟨some 25, .load 22 (.tmp 24), false, some (17, true)⟩]) <|
 .seq (.ops [⟨some 26, .binOp .eql 22 (.tmp 23) (.tmp 25) 22, false, some (17, true)⟩]) <|
 .seq (.ops [⟨some 27, .pick (.tmp 17) (.tmp 26) (.const (.bool false)), false, none⟩]) <|
 .seq (.ops [⟨some 28, .move (.tmp 27), false, none⟩]) <|
 .seq (.ops [⟨some 29, .move (.tmp 3), false, some (28, true)⟩]) <|
 .seq (.ops [⟨some 30, .move (.tmp 6), false, some (28, true)⟩]) <|
 .seq (.ops [⟨some 31, .binOp .sub 3 (.tmp 30) (.const (.int .i64 1)) 3, false, some (28, true)⟩]) <|
 .seq (.ops [⟨some 32, .indexAddr 105 (.tmp 29) (.tmp 31), false, some (28, true)⟩]) <|
 .seq (.ops [⟨some 33, .fieldAddr 95 (.tmp 32) 2, false, some (28, true)⟩]) <|
 .seq (.ops [⟨some 34, .load 3 (.tmp 33), false, some (28, true)⟩]) <|
 .seq (.ops [⟨some 35, .fieldAddr 95 (.tmp 5) 2, false, some (28, true)⟩]) <|
 .seq (.ops [⟨some 36, .load 3 (.tmp 35), false, some (28, true)⟩]) <|
 .seq (.ops [⟨some 37, .binOp .eql 3 (.tmp 34) (.tmp 36) 3, false, some (28, true)⟩]) <|
 .seq (.ops [⟨some 38, .pick (.tmp 28) (.tmp 37) (.const (.bool false)), false, none⟩]) <|
 .skip) <|
 .seq (.keep [3, 5, 6, 7, 8, 9, 38]) <|
 .cond (.tmp 38) (.seq (.ops [⟨some 39, .move (.tmp 3), false, none⟩,
  ⟨some 40, .move (.tmp 6), false, none⟩,
  ⟨some 41, .binOp .sub 3 (.tmp 40) (.const (.int .i64 1)) 3, false, none⟩,
  ⟨some 42, .fieldAddr 95 (.tmp 5) 1, false, none⟩,
  ⟨some 43, .load 22 (.tmp 42), false, none⟩,
  ⟨some 44, .indexAddr 105 (.tmp 39) (.tmp 41), false, none⟩,
  ⟨some 45, .fieldAddr 95 (.tmp 44) 1, false, none⟩,
  ⟨none, .store 22 (.tmp 45) (.tmp 43), true, none⟩]) <|
 .seq (.keep [3, 7, 8, 9]) <|
 .exit 1) <|
 .skip) <|
 .seq (.keep [3, 5, 7, 8, 9]) <|
 .ops [⟨some 46, .move (.tmp 3), false, none⟩,
  ⟨some 47, .load 95 (.tmp 5), false, none⟩,
  ⟨some 48, .buildSlice 105 1 #[(0, (.tmp 47))], true, none⟩,
  ⟨some 49, .call ⟨.builtin .append, #[(.tmp 46), (.tmp 48)], #[105, 105]⟩, true, none⟩,
  ⟨some 3, .assign (.tmp 49), false, none⟩]) <|
 .seq (.keep [3, 7, 8, 9]) <|
 .ops [⟨some 50, .binOp .add 3 (.tmp 9) (.const (.int .i64 1)) 3, false, none⟩,
  ⟨some 9, .move (.tmp 50), false, none⟩]) <|
 .keep [3, 7, 8, 9]) <|
 .seq (.keep [3]) <|
 .seq (.ops [⟨some 51, .move (.tmp 3), false, none⟩,
  ⟨some 2, .assign (.tmp 51), false, none⟩]) <|
 .seq (.keep [2]) <|
 .ret
theorem c95 : Try.f95.body.map (fun c => ((compile Try.prog kp95 [] kp95 c).map (·.1), fits Try.f95.ntmps c)) = some (some s95, true) := by kernel_rfl
theorem r95 : Try.f95.results.toList = [.tmp 2] := by kernel_rfl
-- marionette/region.with$1
abbrev kp96 : List Nat := [3]
def s96 : SC :=
 .seq (.ops [⟨some 2, .box 95 (.tmp 0), true, none⟩,
  ⟨some 3, .assign (.const (.bool false)), false, none⟩]) <|
 .seq (.keep [1, 2]) <|
 .seq (.ops [⟨some 4, .fieldAddr 95 (.tmp 2) 0, false, none⟩,
  ⟨some 5, .load 22 (.tmp 4), false, none⟩,
  ⟨some 6, .fieldAddr 95 (.tmp 1) 0, false, none⟩,
  ⟨some 7, .load 22 (.tmp 6), false, none⟩,
  ⟨some 8, .binOp .gtr 22 (.tmp 5) (.tmp 7) 22, false, none⟩,
  ⟨some 3, .assign (.tmp 8), false, none⟩]) <|
 .seq (.keep [3]) <|
 .ret
theorem c96 : Try.f96.body.map (fun c => ((compile Try.prog kp96 [] kp96 c).map (·.1), fits Try.f96.ntmps c)) = some (some s96, true) := by kernel_rfl
theorem r96 : Try.f96.results.toList = [.tmp 3] := by kernel_rfl
-- slices.Insert[[]marionette/api.Region,marionette/api.Region]
abbrev kp97 : List Nat := [6]
def s97 : SC :=
 .seq (.ops [⟨some 6, .assign (.const (.slice none 0 0)), false, none⟩]) <|
 .seq (.keep [0, 1, 2]) <|
 .seq (.ops [⟨some 10, .move (.tmp 0), false, none⟩,
  ⟨some 11, .move (.tmp 1), false, none⟩,
  ⟨some 12, .slice 105 (.tmp 10) (some (.tmp 11)) none none, false, none⟩]) <|
 .seq (.keep [0, 1, 2]) <|
 .seq (.ops [⟨some 13, .move (.tmp 2), false, none⟩,
  ⟨some 14, .call ⟨.builtin .len, #[(.tmp 13)], #[105]⟩, false, none⟩,
  ⟨some 7, .assign (.tmp 14), false, none⟩]) <|
 .seq (.keep [0, 1, 2, 7]) <|
 .seq (.seq (.ops [⟨some 15, .move (.tmp 7), false, none⟩,
  ⟨some 16, .binOp .eql 3 (.tmp 15) (.const (.int .i64 0)) 3, false, none⟩]) <|
 .seq (.keep [0, 1, 2, 7, 16]) <|
 .cond (.tmp 16) (.seq (.ops [⟨some 17, .move (.tmp 0), false, none⟩,
  ⟨some 6, .assign (.tmp 17), false, none⟩]) <|
 .seq (.keep [6]) <|
 .ret) <|
 .skip) <|
 .seq (.keep [0, 1, 2, 7]) <|
 .seq (.ops [⟨some 18, .move (.tmp 0), false, none⟩,
  ⟨some 19, .call ⟨.builtin .len, #[(.tmp 18)], #[105]⟩, false, none⟩,
  ⟨some 8, .assign (.tmp 19), false, none⟩]) <|
 .seq (.keep [0, 1, 2, 7, 8]) <|
 .seq (.seq (.ops [⟨some 20, .move (.tmp 1), false, none⟩,
  ⟨some 21, .move (.tmp 8), false, none⟩,
  ⟨some 22, .binOp .eql 3 (.tmp 20) (.tmp 21) 3, false, none⟩]) <|
 .seq (.keep [0, 1, 2, 7, 8, 22]) <|
 .cond (.tmp 22) (.seq (.ops [⟨some 23, .move (.tmp 0), false, none⟩,
  ⟨some 24, .move (.tmp 2), false, none⟩,
  ⟨some 25, .call ⟨.builtin .append, #[(.tmp 23), (.tmp 24)], #[105, 105]⟩, true, none⟩,
  ⟨some 6, .assign (.tmp 25), false, none⟩]) <|
 .seq (.keep [6]) <|
 .ret) <|
 .skip) <|
 .seq (.keep [0, 1, 2, 7, 8]) <|
 .seq (.seq (.ops [⟨some 26, .move (.tmp 8), false, none⟩,
  ⟨some 27, .move (.tmp 7), false, none⟩,
  ⟨some 28, .binOp .add 3 (.tmp 26) (.tmp 27) 3, false, none⟩,
  ⟨some 29, .move (.tmp 0), false, none⟩,
  ⟨some 30, .call ⟨.builtin .cap, #[(.tmp 29)], #[105]⟩, false, none⟩,
  ⟨some 31, .binOp .gtr 3 (.tmp 28) (.tmp 30) 3, false, none⟩]) <|
 .seq (.keep [0, 1, 2, 7, 8, 31]) <|
 .cond (.tmp 31) (.seq (.ops [⟨some 32, .move (.tmp 0), false, none⟩,
  ⟨some 33, .move (.tmp 1), false, none⟩,
  ⟨some 34, .slice 105 (.tmp 32) none (some (.tmp 33)) none, false, none⟩,
  ⟨some 35, .move (.tmp 8), false, none⟩,
  ⟨some 36, .move (.tmp 7), false, none⟩,
  ⟨some 37, .binOp .add 3 (.tmp 35) (.tmp 36) 3, false, none⟩,
  ⟨some 38, .move (.tmp 1), false, none⟩,
  ⟨some 39, .binOp .sub 3 (.tmp 37) (.tmp 38) 3, false, none⟩,
  ⟨some 40, .call ⟨.builtin .append, #[(.tmp 34), (.tmp 39)], #[105, 3]⟩, true, none⟩,
  ⟨some 9, .assign (.tmp 40), false, none⟩]) <|
 .seq (.keep [0, 1, 2, 7, 9]) <|
 .seq (.ops [⟨some 41, .move (.tmp 9), false, none⟩,
  ⟨some 42, .move (.tmp 1), false, none⟩,
  ⟨some 43, .slice 105 (.tmp 41) (some (.tmp 42)) none none, false, none⟩,
  ⟨some 44, .move (.tmp 2), false, none⟩,
  ⟨some 45, .call ⟨.builtin .copy, #[(.tmp 43), (.tmp 44)], #[105, 105]⟩, true, none⟩]) <|
 .seq (.keep [0, 1, 7, 9]) <|
 .seq (.seq (.ops [⟨some 46, .move (.tmp 9), false, none⟩]) <|
 .seq (.ops [⟨some 47, .move (.tmp 1), false, none⟩]) <|
 .seq (.ops [⟨some 48, .move (.tmp 7), false, none⟩]) <|
 .seq (.ops [⟨some 49, .binOp .add 3 (.tmp 47) (.tmp 48) 3, false, none⟩]) <|
 .seq (.ops [⟨some 50, .slice 105 (.tmp 46) (some (.tmp 49)) none none, false, none⟩]) <|
 .seq (.ops [⟨some 51, .move (.tmp 0), false, none⟩]) <|
 .seq (.ops [⟨some 52, .move (.tmp 1), false, none⟩]) <|
 .seq (.ops [⟨some 53, .slice 105 (.tmp 51) (some (.tmp 52)) none none, false, none⟩]) <|
 .seq (.ops [⟨some 54, .call ⟨.builtin .copy, #[(.tmp 50), (.tmp 53)], #[105, 105]⟩, true, none⟩]) <|
 .skip) <|
 .seq (.keep [9]) <|
 .seq (.ops [⟨some 55, .move (.tmp 9), false, none⟩,
  ⟨some 6, .assign (.tmp 55), false, none⟩]) <|
 .seq (.keep [6]) <|
 .ret) <|
 .skip) <|
 .seq (.keep [0, 1, 2, 7, 8]) <|
 .seq (.ops [⟨some 56, .move (.tmp 0), false, none⟩,
  ⟨some 57, .move (.tmp 8), false, none⟩,
  ⟨some 58, .move (.tmp 7), false, none⟩,
  ⟨some 59, .binOp .add 3 (.tmp 57) (.tmp 58) 3, false, none⟩,
  ⟨some 60, .slice 105 (.tmp 56) none (some (.tmp 59)) none, false, none⟩,
  ⟨some 0, .assign (.tmp 60), false, none⟩]) <|
 .seq (.keep [0, 1, 2, 7, 8]) <|
 .seq (.seq (.ops [⟨some 61, .move (.tmp 2), false, none⟩,
  ⟨some 62, .move (.tmp 0), false, none⟩,
  ⟨some 63, .move (.tmp 1), false, none⟩,
  ⟨some 64, .move (.tmp 7), false, none⟩,
  ⟨some 65, .binOp .add 3 (.tmp 63) (.tmp 64) 3, false, none⟩,
  ⟨some 66, .slice 105 (.tmp 62) (some (.tmp 65)) none none, false, none⟩,
  ⟨some 67, .call ⟨.value (.func 100), #[(.tmp 61), (.tmp 66)], #[105, 105]⟩, true, none⟩,
  ⟨some 68, .unOp .not 4 (.tmp 67), false, none⟩]) <|
 .seq (.keep [0, 1, 2, 7, 8, 68]) <|
 .cond (.tmp 68) (.seq (.seq (.ops [⟨some 69, .move (.tmp 0), false, none⟩]) <|
 .seq (.ops [⟨some 70, .move (.tmp 1), false, none⟩]) <|
 .seq (.ops [⟨some 71, .move (.tmp 7), false, none⟩]) <|
 .seq (.ops [⟨some 72, .binOp .add 3 (.tmp 70) (.tmp 71) 3, false, none⟩]) <|
 .seq (.ops [⟨some 73, .slice 105 (.tmp 69) (some (.tmp 72)) none none, false, none⟩]) <|
 .seq (.ops [⟨some 74, .move (.tmp 0), false, none⟩]) <|
 .seq (.ops [⟨some 75, .move (.tmp 1), false, none⟩]) <|
 .seq (.ops [⟨some 76, .slice 105 (.tmp 74) (some (.tmp 75)) none none, false, none⟩]) <|
 .seq (.ops [⟨some 77, .call ⟨.builtin .copy, #[(.tmp 73), (.tmp 76)], #[105, 105]⟩, true, none⟩]) <|
 .skip) <|
 .seq (.keep [0, 1, 2]) <|
 .seq (.ops [⟨some 78, .move (.tmp 0), false, none⟩,
  ⟨some 79, .move (.tmp 1), false, none⟩,
  ⟨some 80, .slice 105 (.tmp 78) (some (.tmp 79)) none none, false, none⟩,
  ⟨some 81, .move (.tmp 2), false, none⟩,
  ⟨some 82, .call ⟨.builtin .copy, #[(.tmp 80), (.tmp 81)], #[105, 105]⟩, true, none⟩]) <|
 .seq (.keep [0]) <|
 .seq (.ops [⟨some 83, .move (.tmp 0), false, none⟩,
  ⟨some 6, .assign (.tmp 83), false, none⟩]) <|
 .seq (.keep [6]) <|
 .ret) <|
 .skip) <|
 .seq (.keep [0, 1, 2, 7, 8]) <|
 .seq (.ops [⟨some 84, .move (.tmp 0), false, none⟩,
  ⟨some 85, .move (.tmp 8), false, none⟩,
  ⟨some 86, .slice 105 (.tmp 84) (some (.tmp 85)) none none, false, none⟩,
  ⟨some 87, .move (.tmp 2), false, none⟩,
  ⟨some 88, .call ⟨.builtin .copy, #[(.tmp 86), (.tmp 87)], #[105, 105]⟩, true, none⟩]) <|
 .seq (.keep [0, 1, 7]) <|
 .seq (.ops [⟨some 89, .move (.tmp 0), false, none⟩,
  ⟨some 90, .move (.tmp 1), false, none⟩,
  ⟨some 91, .slice 105 (.tmp 89) (some (.tmp 90)) none none, false, none⟩,
  ⟨some 92, .move (.tmp 7), false, none⟩,
  ⟨some 93, .call ⟨.value (.func 101), #[(.tmp 91), (.tmp 92)], #[105, 3]⟩, true, none⟩]) <|
 .seq (.keep [0]) <|
 .seq (.ops [⟨some 94, .move (.tmp 0), false, none⟩,
  ⟨some 6, .assign (.tmp 94), false, none⟩]) <|
 .seq (.keep [6]) <|
 .ret
theorem c97 : Try.f97.body.map (fun c => ((compile Try.prog kp97 [] kp97 c).map (·.1), fits Try.f97.ntmps c)) = some (some s97, true) := by kernel_rfl
theorem r97 : Try.f97.results.toList = [.tmp 6] := by kernel_rfl
-- (*marionette/marionetteref06.Space).prot
abbrev kp98 : List Nat := [4]
def s98 : SC :=
 .seq (.ops [⟨some 4, .assign (.const (.int .i64 0)), false, none⟩]) <|
 .seq (.keep [0, 1]) <|
 .seq (.ops [⟨some 8, .move (.tmp 0), false, none⟩,
  ⟨some 9, .move (.tmp 1), false, none⟩,
  ⟨some 10, .binOp .quo 22 (.tmp 9) (.const (.int .u64 4096)) 22, false, none⟩,
  ⟨some 11, .call ⟨.value (.func 92), #[(.tmp 8), (.tmp 10)], #[75, 22]⟩, true, none⟩,
  ⟨some 7, .move (.tmp 11), false, none⟩,
  ⟨some 12, .extract (.tmp 7) 0, false, none⟩,
  ⟨some 13, .extract (.tmp 7) 1, false, none⟩,
  ⟨some 5, .assign (.tmp 12), false, none⟩,
  ⟨some 6, .assign (.tmp 13), false, none⟩]) <|
 .seq (.keep [0, 5, 6]) <|
 .seq (.seq (.ops [⟨some 14, .move (.tmp 6), false, none⟩,
  ⟨some 15, .unOp .not 4 (.tmp 14), false, none⟩]) <|
 .seq (.keep [0, 5, 15]) <|
 .cond (.tmp 15) (.seq (.ops [⟨some 4, .assign (.const (.int .i64 (-1))), false, none⟩]) <|
 .seq (.keep [4]) <|
 .ret) <|
 .skip) <|
 .seq (.keep [0, 5]) <|
 .seq (.ops [⟨some 16, .move (.tmp 0), false, none⟩,
  ⟨some 17, .nilCheck (.tmp 16), false, none⟩,
  ⟨some 18, .fieldAddr 126 (.tmp 17) 0, false, none⟩,
  ⟨some 19, .load 124 (.tmp 18), false, none⟩,
  ⟨some 20, .move (.tmp 5), false, none⟩,
  ⟨some 21, .indexAddr 124 (.tmp 19) (.tmp 20), false, none⟩,
  ⟨some 22, .fieldAddr 129 (.tmp 21) 1, false, none⟩,
  ⟨some 23, .load 3 (.tmp 22), false, none⟩,
  ⟨some 4, .assign (.tmp 23), false, none⟩]) <|
 .seq (.keep [4]) <|
 .ret
theorem c98 : Try.f98.body.map (fun c => ((compile Try.prog kp98 [] kp98 c).map (·.1), fits Try.f98.ntmps c)) = some (some s98, true) := by kernel_rfl
theorem r98 : Try.f98.results.toList = [.tmp 4] := by kernel_rfl
-- (*marionette/marionetteref06.Space).set
abbrev kp99 : List Nat := []
def s99 : SC :=
 .seq (.ops [⟨some 9, .move (.tmp 0), false, none⟩,
  ⟨some 10, .move (.tmp 1), false, none⟩,
  ⟨some 11, .binOp .quo 22 (.tmp 10) (.const (.int .u64 4096)) 22, false, none⟩,
  ⟨some 12, .call ⟨.value (.func 92), #[(.tmp 9), (.tmp 11)], #[75, 22]⟩, true, none⟩,
  ⟨some 8, .move (.tmp 12), false, none⟩,
  ⟨some 13, .extract (.tmp 8) 0, false, none⟩,
  ⟨some 14, .extract (.tmp 8) 1, false, none⟩,
  ⟨some 6, .assign (.tmp 13), false, none⟩,
  ⟨some 7, .assign (.tmp 14), false, none⟩]) <|
 .seq (.keep [0, 1, 2, 6, 7]) <|
 .seq (.ops [⟨some 15, .move (.tmp 7), false, none⟩]) <|
 .seq (.keep [0, 1, 2, 6, 15]) <|
 .cond (.tmp 15) (.ops [⟨some 16, .move (.tmp 0), false, none⟩,
  ⟨some 17, .nilCheck (.tmp 16), false, none⟩,
  ⟨some 18, .fieldAddr 126 (.tmp 17) 0, false, none⟩,
  ⟨some 19, .load 124 (.tmp 18), false, none⟩,
  ⟨some 20, .move (.tmp 6), false, none⟩,
  ⟨some 21, .indexAddr 124 (.tmp 19) (.tmp 20), false, none⟩,
  ⟨some 22, .fieldAddr 129 (.tmp 21) 2, false, none⟩,
  ⟨some 23, .load 50 (.tmp 22), false, none⟩,
  ⟨some 24, .move (.tmp 1), false, none⟩,
  ⟨some 25, .binOp .rem 22 (.tmp 24) (.const (.int .u64 4096)) 22, false, none⟩,
  ⟨some 26, .move (.tmp 2), false, none⟩,
  ⟨some 27, .indexAddr 50 (.tmp 23) (.tmp 25), false, none⟩,
  ⟨none, .store 5 (.tmp 27) (.tmp 26), true, none⟩]) <|
 .skip
theorem c99 : Try.f99.body.map (fun c => ((compile Try.prog kp99 [] kp99 c).map (·.1), fits Try.f99.ntmps c)) = some (some s99, true) := by kernel_rfl
theorem r99 : Try.f99.results.toList = [] := by kernel_rfl
end Go.SX.G
