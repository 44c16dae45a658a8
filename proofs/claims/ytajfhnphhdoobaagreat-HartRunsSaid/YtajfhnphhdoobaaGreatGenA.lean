/- The compiled texts of the functions that are walked here, each checked against the loaded program; facts on its types. Printed by a program of this session. -/
import Derived.Test.YtajfhnphhdoobaaGreatSxSimp
import Derived.Test.YtajfhnphhdoobaaGreatProg
set_option linter.unusedVariables false
set_option linter.unusedSimpArgs false
namespace Go.SX.G
open Go Go.SX Go.Proofs
theorem mixed : Tryz.prog.follows .mixedOrders = true := by kernel_rfl
theorem ar148 : arE Tryz.prog 148 = some (4096, 5, 1) := by kernel_rfl
theorem ar59 : arE Tryz.prog 59 = some (32, 29, 1) := by kernel_rfl
theorem by5 : byP Tryz.prog 5 = some 1 := by kernel_rfl
theorem by92 : byP Tryz.prog 92 = some 40 := by kernel_rfl
theorem by96 : byP Tryz.prog 96 = some 24 := by kernel_rfl
theorem fd49_0 : fdO Tryz.prog 49 0 = some (0, none) := by kernel_rfl
theorem fd63_1 : fdO Tryz.prog 63 1 = some (1, some 32) := by kernel_rfl
theorem fo102_0 : foff Tryz.prog 102 0 = some 0 := by kernel_rfl
theorem fo102_1 : foff Tryz.prog 102 1 = some 1 := by kernel_rfl
theorem fo102_2 : foff Tryz.prog 102 2 = some 2 := by kernel_rfl
theorem fo107_0 : foff Tryz.prog 107 0 = some 0 := by kernel_rfl
theorem fo107_1 : foff Tryz.prog 107 1 = some 7 := by kernel_rfl
theorem fo107_2 : foff Tryz.prog 107 2 = some 8 := by kernel_rfl
theorem fo117_1 : foff Tryz.prog 117 1 = some 1 := by kernel_rfl
theorem fo120_0 : foff Tryz.prog 120 0 = some 0 := by kernel_rfl
theorem fo120_1 : foff Tryz.prog 120 1 = some 35 := by kernel_rfl
theorem fo120_2 : foff Tryz.prog 120 2 = some 36 := by kernel_rfl
theorem fo135_0 : foff Tryz.prog 135 0 = some 0 := by kernel_rfl
theorem fo139_0 : foff Tryz.prog 139 0 = some 0 := by kernel_rfl
theorem fo139_1 : foff Tryz.prog 139 1 = some 1 := by kernel_rfl
theorem fo139_2 : foff Tryz.prog 139 2 = some 2 := by kernel_rfl
theorem fo139_3 : foff Tryz.prog 139 3 = some 3 := by kernel_rfl
theorem fo41_0 : foff Tryz.prog 41 0 = some 0 := by kernel_rfl
theorem fo47_0 : foff Tryz.prog 47 0 = some 0 := by kernel_rfl
theorem fo47_1 : foff Tryz.prog 47 1 = some 1 := by kernel_rfl
theorem fo47_2 : foff Tryz.prog 47 2 = some 2 := by kernel_rfl
theorem fo47_3 : foff Tryz.prog 47 3 = some 3 := by kernel_rfl
theorem fo47_4 : foff Tryz.prog 47 4 = some 4 := by kernel_rfl
theorem fo47_6 : foff Tryz.prog 47 6 = some 6 := by kernel_rfl
theorem fo49_0 : foff Tryz.prog 49 0 = some 0 := by kernel_rfl
theorem fo63_0 : foff Tryz.prog 63 0 = some 0 := by kernel_rfl
theorem fo63_1 : foff Tryz.prog 63 1 = some 1 := by kernel_rfl
theorem fo63_2 : foff Tryz.prog 63 2 = some 33 := by kernel_rfl
theorem fo84_0 : foff Tryz.prog 84 0 = some 0 := by kernel_rfl
theorem fo84_1 : foff Tryz.prog 84 1 = some 1 := by kernel_rfl
theorem fo84_2 : foff Tryz.prog 84 2 = some 2 := by kernel_rfl
theorem fo87_0 : foff Tryz.prog 87 0 = some 0 := by kernel_rfl
theorem fo87_1 : foff Tryz.prog 87 1 = some 1 := by kernel_rfl
theorem fo92_0 : foff Tryz.prog 92 0 = some 0 := by kernel_rfl
theorem fo92_1 : foff Tryz.prog 92 1 = some 1 := by kernel_rfl
theorem fo92_2 : foff Tryz.prog 92 2 = some 2 := by kernel_rfl
theorem fo96_0 : foff Tryz.prog 96 0 = some 0 := by kernel_rfl
theorem fo96_1 : foff Tryz.prog 96 1 = some 1 := by kernel_rfl
theorem fo96_2 : foff Tryz.prog 96 2 = some 2 := by kernel_rfl
theorem pl102_0 : place Tryz.prog 102 0 = some (0, 1) := by kernel_rfl
theorem pl102_1 : place Tryz.prog 102 1 = some (1, 1) := by kernel_rfl
theorem pl107_0 : place Tryz.prog 107 0 = some (0, 7) := by kernel_rfl
theorem pl107_1 : place Tryz.prog 107 1 = some (7, 1) := by kernel_rfl
theorem pl107_2 : place Tryz.prog 107 2 = some (8, 1) := by kernel_rfl
theorem pl117_0 : place Tryz.prog 117 0 = some (0, 1) := by kernel_rfl
theorem pl117_4 : place Tryz.prog 117 4 = some (35, 1) := by kernel_rfl
theorem pl120_1 : place Tryz.prog 120 1 = some (35, 1) := by kernel_rfl
theorem pl120_2 : place Tryz.prog 120 2 = some (36, 1) := by kernel_rfl
theorem pl135_0 : place Tryz.prog 135 0 = some (0, 1) := by kernel_rfl
theorem pl139_0 : place Tryz.prog 139 0 = some (0, 1) := by kernel_rfl
theorem pl139_1 : place Tryz.prog 139 1 = some (1, 1) := by kernel_rfl
theorem pl41_0 : place Tryz.prog 41 0 = some (0, 1) := by kernel_rfl
theorem pl41_1 : place Tryz.prog 41 1 = some (1, 1) := by kernel_rfl
theorem pl47_0 : place Tryz.prog 47 0 = some (0, 1) := by kernel_rfl
theorem pl47_1 : place Tryz.prog 47 1 = some (1, 1) := by kernel_rfl
theorem pl47_2 : place Tryz.prog 47 2 = some (2, 1) := by kernel_rfl
theorem pl47_3 : place Tryz.prog 47 3 = some (3, 1) := by kernel_rfl
theorem pl47_4 : place Tryz.prog 47 4 = some (4, 1) := by kernel_rfl
theorem pl47_5 : place Tryz.prog 47 5 = some (5, 1) := by kernel_rfl
theorem pl49_0 : place Tryz.prog 49 0 = some (0, 1) := by kernel_rfl
theorem pl49_1 : place Tryz.prog 49 1 = some (1, 2) := by kernel_rfl
theorem pl61_0 : place Tryz.prog 61 0 = some (0, 1) := by kernel_rfl
theorem pl61_1 : place Tryz.prog 61 1 = some (1, 1) := by kernel_rfl
theorem pl63_0 : place Tryz.prog 63 0 = some (0, 1) := by kernel_rfl
theorem pl84_0 : place Tryz.prog 84 0 = some (0, 1) := by kernel_rfl
theorem pl84_1 : place Tryz.prog 84 1 = some (1, 1) := by kernel_rfl
theorem pl84_2 : place Tryz.prog 84 2 = some (2, 1) := by kernel_rfl
theorem pl87_1 : place Tryz.prog 87 1 = some (1, 1) := by kernel_rfl
theorem pl92_0 : place Tryz.prog 92 0 = some (0, 1) := by kernel_rfl
theorem pl92_1 : place Tryz.prog 92 1 = some (1, 1) := by kernel_rfl
theorem pl92_2 : place Tryz.prog 92 2 = some (2, 1) := by kernel_rfl
theorem pl96_0 : place Tryz.prog 96 0 = some (0, 1) := by kernel_rfl
theorem pl96_1 : place Tryz.prog 96 1 = some (1, 1) := by kernel_rfl
theorem pl96_2 : place Tryz.prog 96 2 = some (2, 1) := by kernel_rfl
theorem sd102 : sized Tryz.prog 102 = true := by kernel_rfl
theorem sd107 : sized Tryz.prog 107 = true := by kernel_rfl
theorem sd117 : sized Tryz.prog 117 = true := by kernel_rfl
theorem sd120 : sized Tryz.prog 120 = true := by kernel_rfl
theorem sd135 : sized Tryz.prog 135 = true := by kernel_rfl
theorem sd139 : sized Tryz.prog 139 = true := by kernel_rfl
theorem sd148 : sized Tryz.prog 148 = true := by kernel_rfl
theorem sd198 : sized Tryz.prog 198 = true := by kernel_rfl
theorem sd41 : sized Tryz.prog 41 = true := by kernel_rfl
theorem sd47 : sized Tryz.prog 47 = true := by kernel_rfl
theorem sd49 : sized Tryz.prog 49 = true := by kernel_rfl
theorem sd61 : sized Tryz.prog 61 = true := by kernel_rfl
theorem sd63 : sized Tryz.prog 63 = true := by kernel_rfl
theorem sd84 : sized Tryz.prog 84 = true := by kernel_rfl
theorem sd87 : sized Tryz.prog 87 = true := by kernel_rfl
theorem sd92 : sized Tryz.prog 92 = true := by kernel_rfl
theorem sd96 : sized Tryz.prog 96 = true := by kernel_rfl
theorem sh100 : shP Tryz.prog 100 = some .one := by kernel_rfl
theorem sh136 : shP Tryz.prog 136 = some .one := by kernel_rfl
theorem sh137 : shP Tryz.prog 137 = some .one := by kernel_rfl
theorem sh22 : shP Tryz.prog 22 = some .one := by kernel_rfl
theorem sh24 : shP Tryz.prog 24 = some .one := by kernel_rfl
theorem sh29 : shP Tryz.prog 29 = some .one := by kernel_rfl
theorem sh3 : shP Tryz.prog 3 = some .one := by kernel_rfl
theorem sh35 : shP Tryz.prog 35 = some .one := by kernel_rfl
theorem sh4 : shP Tryz.prog 4 = some .one := by kernel_rfl
theorem sh41 : shP Tryz.prog 41 = some (.agg 2) := by kernel_rfl
theorem sh47 : shP Tryz.prog 47 = some (.agg 7) := by kernel_rfl
theorem sh49 : shP Tryz.prog 49 = some (.agg 3) := by kernel_rfl
theorem sh5 : shP Tryz.prog 5 = some .one := by kernel_rfl
theorem sh61 : shP Tryz.prog 61 = some (.agg 2) := by kernel_rfl
theorem sh63 : shP Tryz.prog 63 = some (.agg 35) := by kernel_rfl
theorem sh79 : shP Tryz.prog 79 = some .one := by kernel_rfl
theorem sh81 : shP Tryz.prog 81 = some .one := by kernel_rfl
theorem sh85 : shP Tryz.prog 85 = some .one := by kernel_rfl
theorem sh92 : shP Tryz.prog 92 = some (.agg 3) := by kernel_rfl
theorem sh93 : shP Tryz.prog 93 = some .one := by kernel_rfl
theorem sh96 : shP Tryz.prog 96 = some (.agg 3) := by kernel_rfl
theorem sl22 : slE Tryz.prog 22 = some (5, 1) := by kernel_rfl
theorem sl54 : slE Tryz.prog 54 = some (29, 1) := by kernel_rfl
theorem sl85 : slE Tryz.prog 85 = some (92, 3) := by kernel_rfl
theorem sl93 : slE Tryz.prog 93 = some (96, 3) := by kernel_rfl
theorem sz107 : szP Tryz.prog 107 = some 9 := by kernel_rfl
theorem sz24 : szP Tryz.prog 24 = some 1 := by kernel_rfl
theorem sz29 : szP Tryz.prog 29 = some 1 := by kernel_rfl
theorem sz3 : szP Tryz.prog 3 = some 1 := by kernel_rfl
theorem sz41 : szP Tryz.prog 41 = some 2 := by kernel_rfl
theorem sz47 : szP Tryz.prog 47 = some 7 := by kernel_rfl
theorem sz49 : szP Tryz.prog 49 = some 3 := by kernel_rfl
theorem sz5 : szP Tryz.prog 5 = some 1 := by kernel_rfl
theorem sz61 : szP Tryz.prog 61 = some 2 := by kernel_rfl
theorem sz63 : szP Tryz.prog 63 = some 35 := by kernel_rfl
theorem sz79 : szP Tryz.prog 79 = some 1 := by kernel_rfl
theorem sz84 : szP Tryz.prog 84 = some 5 := by kernel_rfl
theorem sz85 : szP Tryz.prog 85 = some 1 := by kernel_rfl
theorem sz93 : szP Tryz.prog 93 = some 1 := by kernel_rfl
theorem sz96 : szP Tryz.prog 96 = some 3 := by kernel_rfl
theorem zc102 : zc Tryz.prog 102 = some [(.bool false), (.map none), (.pointer none)] := by kernel_rfl
theorem zc107 : zc Tryz.prog 107 = some [(.int .i64 0), (.int .i64 0), (.int .i64 0), (.int .i64 0), (.int .i64 0), (.int .i64 0), (.int .i64 0), (.int .u64 0), (.int .u64 0)] := by kernel_rfl
theorem zc117 : zc Tryz.prog 117 = some [(.int .u64 0), (.int .u64 0), (.int .u64 0), (.int .u64 0), (.int .u64 0), (.int .u64 0), (.int .u64 0), (.int .u64 0), (.int .u64 0), (.int .u64 0), (.int .u64 0), (.int .u64 0), (.int .u64 0), (.int .u64 0), (.int .u64 0), (.int .u64 0), (.int .u64 0), (.int .u64 0), (.int .u64 0), (.int .u64 0), (.int .u64 0), (.int .u64 0), (.int .u64 0), (.int .u64 0), (.int .u64 0), (.int .u64 0), (.int .u64 0), (.int .u64 0), (.int .u64 0), (.int .u64 0), (.int .u64 0), (.int .u64 0), (.int .u64 0), (.int .u64 0), (.int .i64 0), (.pointer none)] := by kernel_rfl
theorem zc120 : zc Tryz.prog 120 = some [(.int .u64 0), (.int .u64 0), (.int .u64 0), (.int .u64 0), (.int .u64 0), (.int .u64 0), (.int .u64 0), (.int .u64 0), (.int .u64 0), (.int .u64 0), (.int .u64 0), (.int .u64 0), (.int .u64 0), (.int .u64 0), (.int .u64 0), (.int .u64 0), (.int .u64 0), (.int .u64 0), (.int .u64 0), (.int .u64 0), (.int .u64 0), (.int .u64 0), (.int .u64 0), (.int .u64 0), (.int .u64 0), (.int .u64 0), (.int .u64 0), (.int .u64 0), (.int .u64 0), (.int .u64 0), (.int .u64 0), (.int .u64 0), (.int .u64 0), (.int .u64 0), (.int .i64 0), (.pointer none), (.pointer none)] := by kernel_rfl
theorem zc135 : zc Tryz.prog 135 = some [(.slice none 0 0)] := by kernel_rfl
theorem zc139 : zc Tryz.prog 139 = some [(.map none), (.map none), (.int .u64 0), (.int .u64 0)] := by kernel_rfl
theorem zc148 : zc Tryz.prog 148 = some (repV 4096 (.int .u8 0)) := by kernel_rfl
theorem zc198 : zc Tryz.prog 198 = some [(.int .i64 0), (.int .i64 0), (.int .i64 0), (.int .i64 0), (.int .i64 0), (.int .i64 0), (.int .i64 0), (.int .i64 0)] := by kernel_rfl
theorem zc41 : zc Tryz.prog 41 = some [(.int .i64 0), (.int .u64 0)] := by kernel_rfl
theorem zc47 : zc Tryz.prog 47 = some [(.int .i64 0), (.int .i64 0), (.int .i64 0), (.int .i64 0), (.int .i64 0), (.int .i64 0), (.int .i64 0)] := by kernel_rfl
theorem zc49 : zc Tryz.prog 49 = some [(.int .i64 0), (.int .i64 0), (.int .u64 0)] := by kernel_rfl
theorem zc61 : zc Tryz.prog 61 = some [(.int .u64 0), (.int .i64 0)] := by kernel_rfl
theorem zc63 : zc Tryz.prog 63 = some [(.int .u64 0), (.int .u64 0), (.int .u64 0), (.int .u64 0), (.int .u64 0), (.int .u64 0), (.int .u64 0), (.int .u64 0), (.int .u64 0), (.int .u64 0), (.int .u64 0), (.int .u64 0), (.int .u64 0), (.int .u64 0), (.int .u64 0), (.int .u64 0), (.int .u64 0), (.int .u64 0), (.int .u64 0), (.int .u64 0), (.int .u64 0), (.int .u64 0), (.int .u64 0), (.int .u64 0), (.int .u64 0), (.int .u64 0), (.int .u64 0), (.int .u64 0), (.int .u64 0), (.int .u64 0), (.int .u64 0), (.int .u64 0), (.int .u64 0), (.int .u64 0), (.int .i64 0)] := by kernel_rfl
theorem zc84 : zc Tryz.prog 84 = some [(.pointer none), (.pointer none), (.int .i64 0), (.int .u64 0), (.int .u64 0)] := by kernel_rfl
theorem zc87 : zc Tryz.prog 87 = some [(.slice none 0 0), (.int .i64 0), (.int .u64 0), (.int .u64 0)] := by kernel_rfl
theorem zc92 : zc Tryz.prog 92 = some [(.int .u64 0), (.int .i64 0), (.slice none 0 0)] := by kernel_rfl
theorem zc96 : zc Tryz.prog 96 = some [(.int .u64 0), (.int .u64 0), (.int .i64 0)] := by kernel_rfl
theorem ze107 : zeroP Tryz.prog 107 = some (.agg #[(.int .i64 0), (.int .i64 0), (.int .i64 0), (.int .i64 0), (.int .i64 0), (.int .i64 0), (.int .i64 0), (.int .u64 0), (.int .u64 0)]) := by kernel_rfl
theorem ze145 : zeroP Tryz.prog 145 = some (.pointer none) := by kernel_rfl
theorem ze29 : zeroP Tryz.prog 29 = some (.int .u64 0) := by kernel_rfl
theorem ze5 : zeroP Tryz.prog 5 = some (.int .u8 0) := by kernel_rfl
theorem ze92 : zeroP Tryz.prog 92 = some (.agg #[(.int .u64 0), (.int .i64 0), (.slice none 0 0)]) := by kernel_rfl
theorem ze96 : zeroP Tryz.prog 96 = some (.agg #[(.int .u64 0), (.int .u64 0), (.int .i64 0)]) := by kernel_rfl
attribute [go_sem] Tryz.underlying100 Tryz.underlying114 Tryz.underlying136 Tryz.underlying137 Tryz.underlying148 Tryz.underlying189 Tryz.underlying198 Tryz.underlying2 Tryz.underlying21 Tryz.underlying22 Tryz.underlying24 Tryz.underlying29 Tryz.underlying3 Tryz.underlying30 Tryz.underlying35 Tryz.underlying37 Tryz.underlying49 Tryz.underlying5 Tryz.underlying54 Tryz.underlying55 Tryz.underlying59 Tryz.underlying61 Tryz.underlying63 Tryz.underlying79 Tryz.underlying81 Tryz.underlying85 Tryz.underlying93 ar148 ar59 by5 by92 by96 fd49_0 fd63_1 fo102_0 fo102_1 fo102_2 fo107_0 fo107_1 fo107_2 fo117_1 fo120_0 fo120_1 fo120_2 fo135_0 fo139_0 fo139_1 fo139_2 fo139_3 fo41_0 fo47_0 fo47_1 fo47_2 fo47_3 fo47_4 fo47_6 fo49_0 fo63_0 fo63_1 fo63_2 fo84_0 fo84_1 fo84_2 fo87_0 fo87_1 fo92_0 fo92_1 fo92_2 fo96_0 fo96_1 fo96_2 pl102_0 pl102_1 pl107_0 pl107_1 pl107_2 pl117_0 pl117_4 pl120_1 pl120_2 pl135_0 pl139_0 pl139_1 pl41_0 pl41_1 pl47_0 pl47_1 pl47_2 pl47_3 pl47_4 pl47_5 pl49_0 pl49_1 pl61_0 pl61_1 pl63_0 pl84_0 pl84_1 pl84_2 pl87_1 pl92_0 pl92_1 pl92_2 pl96_0 pl96_1 pl96_2 sd102 sd107 sd117 sd120 sd135 sd139 sd148 sd198 sd41 sd47 sd49 sd61 sd63 sd84 sd87 sd92 sd96 sh100 sh136 sh137 sh22 sh24 sh29 sh3 sh35 sh4 sh41 sh47 sh49 sh5 sh61 sh63 sh79 sh81 sh85 sh92 sh93 sh96 sl22 sl54 sl85 sl93 sz107 sz24 sz29 sz3 sz41 sz47 sz49 sz5 sz61 sz63 sz79 sz85 sz93 sz96 zc102 zc107 zc117 zc120 zc135 zc139 zc148 zc198 zc41 zc47 zc49 zc61 zc63 zc84 zc87 zc92 zc96 ze107 ze145 ze29 ze5 ze92 ze96
abbrev kp4 : List Nat := [4]
def s4 : SC :=
 .seq (.ops [⟨some 4, .assign (.const (.bool false)), false, none⟩]) <|
 .seq (.keep [0, 1]) <|
 .seq (.seq (.ops [⟨some 11, .move (.tmp 0), false, none⟩,
  ⟨some 12, .call ⟨.builtin .len, #[(.tmp 11)], #[22]⟩, false, none⟩,
  ⟨some 13, .binOp .gtr 3 (.tmp 12) (.const (.int .i64 8000)) 3, false, none⟩]) <|
 .seq (.keep [0, 1, 13]) <|
 .cond (.tmp 13) (.seq (.ops [⟨some 14, .call ⟨.value (.func 28), #[], #[]⟩, true, none⟩,
  ⟨some 4, .assign (.tmp 14), false, none⟩]) <|
 .seq (.keep [4]) <|
 .ret) <|
 .skip) <|
 .seq (.keep [0, 1]) <|
 .seq (.ops [⟨some 16, .move (.tmp 0), false, none⟩,
  ⟨some 17, .move (.tmp 1), false, none⟩,
  ⟨some 18, .call ⟨.value (.func 29), #[(.tmp 16), (.tmp 17), (.const (.bool true))], #[22, 54, 4]⟩, true, none⟩,
  ⟨some 15, .move (.tmp 18), false, none⟩,
  ⟨some 19, .extract (.tmp 15) 0, false, none⟩,
  ⟨some 20, .extract (.tmp 15) 1, false, none⟩,
  ⟨some 5, .assign (.tmp 19), false, none⟩,
  ⟨some 6, .assign (.tmp 20), false, none⟩]) <|
 .seq (.keep [5]) <|
 .seq (.seq (.ops [⟨some 7, .assign (.const (.int .i64 0)), false, none⟩]) <|
 .seq (.keep [5, 7]) <|
 .block 0 <| .loop <| .seq (.seq (.seq (.ops [⟨some 21, .move (.tmp 7), false, none⟩,
  ⟨some 22, .binOp .lss 3 (.tmp 21) (.const (.int .i64 200)) 3, false, none⟩]) <|
 .seq (.keep [5, 7, 22]) <|
 .cond (.tmp 22) (.skip) <|
 .exit 0) <|
 .seq (.keep [5, 7]) <|
 .seq (.block 1 <| .seq (.ops [⟨some 25, .move (.tmp 5), false, none⟩,
  ⟨some 26, .call ⟨.value (.func 30), #[(.tmp 25)], #[55]⟩, true, none⟩,
  ⟨some 8, .alloc 63, true, none⟩,
  ⟨none, .store 63 (.tmp 8) (.tmp 26), true, none⟩]) <|
 .seq (.keep [5, 7, 8]) <|
 .seq (.ops [⟨some 27, .move (.tmp 5), false, none⟩,
  ⟨some 28, .call ⟨.value (.func 31), #[(.tmp 27)], #[55]⟩, true, none⟩,
  ⟨some 9, .alloc 49, true, none⟩,
  ⟨none, .store 49 (.tmp 9) (.tmp 28), true, none⟩]) <|
 .seq (.keep [5, 7, 8, 9]) <|
 .seq (.ops [⟨some 29, .fieldAddr 49 (.tmp 9) 0, false, none⟩,
  ⟨some 30, .load 3 (.tmp 29), false, none⟩,
  ⟨some 31, .binOp .neq 3 (.tmp 30) (.const (.int .i64 0)) 3, false, none⟩]) <|
 .seq (.keep [5, 7, 8, 9, 31]) <|
 .cond (.tmp 31) (.seq (.ops [⟨some 32, .move (.tmp 5), false, none⟩,
  ⟨some 33, .call ⟨.value (.func 30), #[(.tmp 32)], #[55]⟩, true, none⟩,
  ⟨some 10, .alloc 63, true, none⟩,
  ⟨none, .store 63 (.tmp 10) (.tmp 33), true, none⟩]) <|
 .seq (.keep [5, 8, 9, 10]) <|
 .seq (.ops [⟨some 34, .fieldAddr 63 (.tmp 10) 2, false, none⟩,
  ⟨some 35, .load 61 (.tmp 34), false, none⟩,
  ⟨some 36, .fieldAddr 63 (.tmp 8) 2, false, none⟩,
  ⟨none, .store 61 (.tmp 36) (.tmp 35), true, none⟩]) <|
 .seq (.keep [5, 8, 9, 10]) <|
 .seq (.seq (.ops [⟨some 37, .call ⟨.value (.func 28), #[], #[]⟩, true, none⟩]) <|
 .seq (.ops [⟨some 38, .move (.tmp 37), false, none⟩]) <|
 .seq (.ops [⟨some 39, .load 63 (.tmp 10), false, some (38, true)⟩]) <|
 .seq (.ops [⟨some 40, .load 63 (.tmp 8), false, some (38, true)⟩]) <|
 .seq (.ops [⟨some 41, .binOp .eql 63 (.tmp 39) (.tmp 40) 63, false, some (38, true)⟩]) <|
 .seq (.ops [⟨some 42, .pick (.tmp 38) (.tmp 41) (.const (.bool false)), false, none⟩]) <|
 .seq (.ops [⟨some 43, .move (.tmp 42), false, none⟩]) <|
 .seq (.ops [⟨some 44, .fieldAddr 63 (.tmp 10) 2, false, some (43, true)⟩]) <|
 .seq (.ops [⟨some 45, .fieldAddr 61 (.tmp 44) 1, false, some (43, true)⟩]) <|
 .seq (.ops [⟨some 46, .load 3 (.tmp 45), false, some (43, true)⟩]) <|
 .seq (.ops [⟨some 47, .binOp .eql 3 (.tmp 46) (.const (.int .i64 0)) 3, false, some (43, true)⟩]) <|
 .seq (.ops [⟨some 48, .pick (.tmp 43) (.tmp 47) (.const (.bool false)), false, none⟩]) <|
 .seq (.ops [⟨some 49, .move (.tmp 48), false, none⟩]) <|
 .seq (.ops [⟨some 50, .move (.tmp 5), false, some (49, true)⟩]) <|
 .amb (.seq (.ops [⟨some 51, .call ⟨.value (.func 31), #[(.tmp 50)], #[55]⟩, true, some (49, true)⟩]) <|
 .seq (.ops [⟨some 52, .load 49 (.tmp 9), false, some (49, true)⟩]) <|
 .seq (.ops [⟨some 53, .binOp .eql 49 (.tmp 51) (.tmp 52) 49, false, some (49, true)⟩]) <|
 .seq (.ops [⟨some 54, .pick (.tmp 49) (.tmp 53) (.const (.bool false)), false, none⟩]) <|
 .seq (.ops [⟨some 4, .assign (.tmp 54), false, none⟩]) <|
 .skip) (.seq (.ops [⟨some 52, .load 49 (.tmp 9), false, some (49, true)⟩]) <|
 .seq (.ops [⟨some 51, .call ⟨.value (.func 31), #[(.tmp 50)], #[55]⟩, true, some (49, true)⟩]) <|
 .seq (.ops [⟨some 53, .binOp .eql 49 (.tmp 51) (.tmp 52) 49, false, some (49, true)⟩]) <|
 .seq (.ops [⟨some 54, .pick (.tmp 49) (.tmp 53) (.const (.bool false)), false, none⟩]) <|
 .seq (.ops [⟨some 4, .assign (.tmp 54), false, none⟩]) <|
 .skip)) <|
 .seq (.keep [4]) <|
 .ret) <|
 .skip) <|
 .seq (.keep [5, 7]) <|
 .ops [⟨some 23, .move (.tmp 7), false, none⟩,
  ⟨some 24, .binOp .add 3 (.tmp 23) (.const (.int .i64 1)) 3, false, none⟩,
  ⟨some 7, .assign (.tmp 24), false, none⟩]) <|
 .keep [5, 7]) <|
 .seq (.keep []) <|
 .seq (.ops [⟨some 55, .call ⟨.value (.func 28), #[], #[]⟩, true, none⟩,
  ⟨some 4, .assign (.tmp 55), false, none⟩]) <|
 .seq (.keep [4]) <|
 .ret
theorem c4 : Tryz.f4.body.map (fun c => ((compile Tryz.prog kp4 [] kp4 c).map (·.1), fits Tryz.f4.ntmps c)) = some (some s4, true) := by kernel_rfl
theorem r4 : Tryz.f4.results.toList = [.tmp 4] := by kernel_rfl
attribute [go_sem] s4
abbrev kp8 : List Nat := [8]
def s8 : SC :=
 .seq (.ops [⟨some 8, .assign (.const (.bool false)), false, none⟩]) <|
 .seq (.keep [0, 1, 2, 3]) <|
 .seq (.seq (.ops [⟨some 25, .move (.tmp 0), false, none⟩,
  ⟨some 26, .call ⟨.builtin .len, #[(.tmp 25)], #[22]⟩, false, none⟩,
  ⟨some 27, .binOp .gtr 3 (.tmp 26) (.const (.int .i64 8000)) 3, false, none⟩]) <|
 .seq (.keep [0, 1, 2, 3, 27]) <|
 .cond (.tmp 27) (.seq (.ops [⟨some 28, .call ⟨.value (.func 28), #[], #[]⟩, true, none⟩,
  ⟨some 8, .assign (.tmp 28), false, none⟩]) <|
 .seq (.keep [8]) <|
 .ret) <|
 .skip) <|
 .seq (.keep [0, 1, 2, 3]) <|
 .seq (.ops [⟨some 30, .move (.tmp 0), false, none⟩,
  ⟨some 31, .move (.tmp 1), false, none⟩,
  ⟨some 32, .call ⟨.value (.func 29), #[(.tmp 30), (.tmp 31), (.const (.bool true))], #[22, 54, 4]⟩, true, none⟩,
  ⟨some 29, .move (.tmp 32), false, none⟩,
  ⟨some 33, .extract (.tmp 29) 0, false, none⟩,
  ⟨some 34, .extract (.tmp 29) 1, false, none⟩,
  ⟨some 9, .assign (.tmp 33), false, none⟩,
  ⟨some 10, .assign (.tmp 34), false, none⟩]) <|
 .seq (.keep [0, 1, 2, 3, 9]) <|
 .seq (.ops [⟨some 36, .move (.tmp 0), false, none⟩,
  ⟨some 37, .move (.tmp 1), false, none⟩,
  ⟨some 38, .call ⟨.value (.func 29), #[(.tmp 36), (.tmp 37), (.const (.bool false))], #[22, 54, 4]⟩, true, none⟩,
  ⟨some 35, .move (.tmp 38), false, none⟩,
  ⟨some 39, .extract (.tmp 35) 0, false, none⟩,
  ⟨some 40, .extract (.tmp 35) 1, false, none⟩,
  ⟨some 11, .assign (.tmp 39), false, none⟩,
  ⟨some 12, .assign (.tmp 40), false, none⟩]) <|
 .seq (.keep [0, 1, 2, 3, 9, 11]) <|
 .seq (.ops [⟨some 42, .move (.tmp 0), false, none⟩,
  ⟨some 43, .move (.tmp 1), false, none⟩,
  ⟨some 44, .call ⟨.value (.func 29), #[(.tmp 42), (.tmp 43), (.const (.bool true))], #[22, 54, 4]⟩, true, none⟩,
  ⟨some 41, .move (.tmp 44), false, none⟩,
  ⟨some 45, .extract (.tmp 41) 0, false, none⟩,
  ⟨some 46, .extract (.tmp 41) 1, false, none⟩,
  ⟨some 13, .assign (.tmp 45), false, none⟩,
  ⟨some 14, .assign (.tmp 46), false, none⟩]) <|
 .seq (.keep [2, 3, 9, 11, 13]) <|
 .seq (.ops [⟨some 47, .move (.tmp 2), false, none⟩,
  ⟨some 48, .convert 5 3 (.tmp 47), false, none⟩,
  ⟨some 49, .move (.tmp 3), false, none⟩,
  ⟨some 50, .convert 5 3 (.tmp 49), false, none⟩,
  ⟨some 51, .binOp .add 3 (.tmp 48) (.tmp 50) 3, false, none⟩,
  ⟨some 15, .assign (.tmp 51), false, none⟩]) <|
 .seq (.keep [2, 3, 9, 11, 13, 15]) <|
 .seq (.ops [⟨some 53, .move (.tmp 9), false, none⟩,
  ⟨some 54, .move (.tmp 15), false, none⟩,
  ⟨some 55, .call ⟨.value (.func 38), #[(.tmp 53), (.tmp 54)], #[55, 3]⟩, true, none⟩,
  ⟨some 52, .move (.tmp 55), false, none⟩,
  ⟨some 56, .extract (.tmp 52) 0, false, none⟩,
  ⟨some 57, .extract (.tmp 52) 1, false, none⟩,
  ⟨some 16, .alloc 49, true, none⟩,
  ⟨none, .store 49 (.tmp 16) (.tmp 56), true, none⟩,
  ⟨some 17, .assign (.tmp 57), false, none⟩]) <|
 .seq (.keep [2, 3, 9, 11, 13, 15, 16, 17]) <|
 .seq (.ops [⟨some 59, .move (.tmp 11), false, none⟩,
  ⟨some 60, .move (.tmp 2), false, none⟩,
  ⟨some 61, .convert 5 3 (.tmp 60), false, none⟩,
  ⟨some 62, .call ⟨.value (.func 38), #[(.tmp 59), (.tmp 61)], #[55, 3]⟩, true, none⟩,
  ⟨some 58, .move (.tmp 62), false, none⟩,
  ⟨some 63, .extract (.tmp 58) 0, false, none⟩,
  ⟨some 64, .extract (.tmp 58) 1, false, none⟩,
  ⟨some 18, .alloc 49, true, none⟩,
  ⟨none, .store 49 (.tmp 18) (.tmp 63), true, none⟩,
  ⟨some 19, .assign (.tmp 64), false, none⟩]) <|
 .seq (.keep [3, 9, 11, 13, 15, 16, 17, 18, 19]) <|
 .seq (.seq (.ops [⟨some 65, .fieldAddr 49 (.tmp 18) 0, false, none⟩,
  ⟨some 66, .load 3 (.tmp 65), false, none⟩,
  ⟨some 67, .binOp .eql 3 (.tmp 66) (.const (.int .i64 6)) 3, false, none⟩]) <|
 .seq (.keep [3, 9, 11, 13, 15, 16, 17, 18, 19, 67]) <|
 .cond (.tmp 67) (.seq (.ops [⟨some 69, .move (.tmp 11), false, none⟩,
  ⟨some 70, .move (.tmp 3), false, none⟩,
  ⟨some 71, .convert 5 3 (.tmp 70), false, none⟩,
  ⟨some 72, .call ⟨.value (.func 38), #[(.tmp 69), (.tmp 71)], #[55, 3]⟩, true, none⟩,
  ⟨some 68, .move (.tmp 72), false, none⟩,
  ⟨some 73, .extract (.tmp 68) 0, false, none⟩,
  ⟨some 74, .extract (.tmp 68) 1, false, none⟩,
  ⟨some 20, .alloc 49, true, none⟩,
  ⟨none, .store 49 (.tmp 20) (.tmp 73), true, none⟩,
  ⟨some 21, .assign (.tmp 74), false, none⟩]) <|
 .seq (.keep [9, 11, 13, 15, 16, 17, 18, 19, 20, 21]) <|
 .seq (.ops [⟨some 75, .load 49 (.tmp 20), false, none⟩,
  ⟨none, .store 49 (.tmp 18) (.tmp 75), true, none⟩]) <|
 .seq (.keep [9, 11, 13, 15, 16, 17, 18, 19, 21]) <|
 .ops [⟨some 76, .move (.tmp 19), false, none⟩,
  ⟨some 77, .move (.tmp 21), false, none⟩,
  ⟨some 78, .binOp .add 3 (.tmp 76) (.tmp 77) 3, false, none⟩,
  ⟨some 19, .assign (.tmp 78), false, none⟩]) <|
 .skip) <|
 .seq (.keep [9, 11, 13, 15, 16, 17, 18, 19]) <|
 .seq (.ops [⟨some 79, .build 49 #[(0, (.const (.int .i64 6)))], false, none⟩,
  ⟨some 22, .alloc 49, true, none⟩,
  ⟨none, .store 49 (.tmp 22) (.tmp 79), true, none⟩]) <|
 .seq (.keep [9, 11, 13, 15, 16, 17, 18, 19, 22]) <|
 .seq (.ops [⟨some 23, .assign (.const (.int .i64 0)), false, none⟩]) <|
 .seq (.keep [9, 11, 13, 15, 16, 17, 18, 19, 22, 23]) <|
 .seq (.block 0 <| .loop <| .seq (.seq (.seq (.ops [⟨some 80, .move (.tmp 23), false, none⟩,
  ⟨some 81, .move (.tmp 15), false, none⟩,
  ⟨some 82, .binOp .lss 3 (.tmp 80) (.tmp 81) 3, false, none⟩]) <|
 .seq (.keep [9, 11, 13, 15, 16, 17, 18, 19, 22, 23, 82]) <|
 .cond (.tmp 82) (.skip) <|
 .exit 0) <|
 .seq (.keep [9, 11, 13, 15, 16, 17, 18, 19, 22, 23]) <|
 .block 1 <| .seq (.ops [⟨some 83, .move (.tmp 13), false, none⟩,
  ⟨some 84, .call ⟨.value (.func 31), #[(.tmp 83)], #[55]⟩, true, none⟩,
  ⟨some 24, .alloc 49, true, none⟩,
  ⟨none, .store 49 (.tmp 24) (.tmp 84), true, none⟩]) <|
 .seq (.keep [9, 11, 13, 15, 16, 17, 18, 19, 22, 23, 24]) <|
 .seq (.seq (.ops [⟨some 85, .fieldAddr 49 (.tmp 24) 0, false, none⟩,
  ⟨some 86, .load 3 (.tmp 85), false, none⟩,
  ⟨some 87, .binOp .neq 3 (.tmp 86) (.const (.int .i64 0)) 3, false, none⟩]) <|
 .seq (.keep [9, 11, 13, 15, 16, 17, 18, 19, 22, 23, 24, 87]) <|
 .cond (.tmp 87) (.seq (.ops [⟨some 88, .load 49 (.tmp 24), false, none⟩,
  ⟨none, .store 49 (.tmp 22) (.tmp 88), true, none⟩]) <|
 .seq (.keep [9, 11, 13, 16, 17, 18, 19, 22, 23]) <|
 .exit 0) <|
 .skip) <|
 .seq (.keep [9, 11, 13, 15, 16, 17, 18, 19, 22, 23]) <|
 .ops [⟨some 89, .move (.tmp 23), false, none⟩,
  ⟨some 90, .binOp .add 3 (.tmp 89) (.const (.int .i64 1)) 3, false, none⟩,
  ⟨some 23, .assign (.tmp 90), false, none⟩]) <|
 .keep [9, 11, 13, 15, 16, 17, 18, 19, 22, 23]) <|
 .seq (.keep [9, 11, 13, 16, 17, 18, 19, 22, 23]) <|
 .seq (.ops [⟨some 91, .call ⟨.value (.func 28), #[], #[]⟩, true, none⟩,
  ⟨some 92, .move (.tmp 91), false, none⟩,
  ⟨some 93, .load 49 (.tmp 16), false, some (92, true)⟩,
  ⟨some 94, .load 49 (.tmp 18), false, some (92, true)⟩,
  ⟨some 95, .binOp .eql 49 (.tmp 93) (.tmp 94) 49, false, some (92, true)⟩,
  ⟨some 96, .pick (.tmp 92) (.tmp 95) (.const (.bool false)), false, none⟩,
  ⟨some 97, .move (.tmp 96), false, none⟩,
  ⟨some 98, .load 49 (.tmp 16), false, some (97, true)⟩,
  ⟨some 99, .load 49 (.tmp 22), false, some (97, true)⟩,
  ⟨some 100, .binOp .eql 49 (.tmp 98) (.tmp 99) 49, false, some (97, true)⟩,
  ⟨some 101, .pick (.tmp 97) (.tmp 100) (.const (.bool false)), false, none⟩,
  ⟨some 102, .move (.tmp 101), false, none⟩,
  ⟨some 103, .move (.tmp 17), false, some (102, true)⟩,
  ⟨some 104, .move (.tmp 19), false, some (102, true)⟩,
  ⟨some 105, .binOp .eql 3 (.tmp 103) (.tmp 104) 3, false, some (102, true)⟩,
  ⟨some 106, .pick (.tmp 102) (.tmp 105) (.const (.bool false)), false, none⟩,
  ⟨some 107, .move (.tmp 106), false, none⟩,
  ⟨some 108, .move (.tmp 17), false, some (107, true)⟩,
  ⟨some 109, .move (.tmp 23), false, some (107, true)⟩,
  ⟨some 110, .binOp .eql 3 (.tmp 108) (.tmp 109) 3, false, some (107, true)⟩,
  ⟨some 111, .pick (.tmp 107) (.tmp 110) (.const (.bool false)), false, none⟩,
  ⟨some 112, .move (.tmp 111), false, none⟩,
  ⟨some 113, .move (.tmp 9), false, some (112, true)⟩,
  ⟨some 114, .call ⟨.value (.func 30), #[(.tmp 113)], #[55]⟩, true, some (112, true)⟩,
  ⟨some 115, .move (.tmp 11), false, some (112, true)⟩,
  ⟨some 116, .call ⟨.value (.func 30), #[(.tmp 115)], #[55]⟩, true, some (112, true)⟩,
  ⟨some 117, .binOp .eql 63 (.tmp 114) (.tmp 116) 63, false, some (112, true)⟩,
  ⟨some 118, .pick (.tmp 112) (.tmp 117) (.const (.bool false)), false, none⟩,
  ⟨some 119, .move (.tmp 118), false, none⟩,
  ⟨some 120, .move (.tmp 9), false, some (119, true)⟩,
  ⟨some 121, .call ⟨.value (.func 30), #[(.tmp 120)], #[55]⟩, true, some (119, true)⟩,
  ⟨some 122, .move (.tmp 13), false, some (119, true)⟩,
  ⟨some 123, .call ⟨.value (.func 30), #[(.tmp 122)], #[55]⟩, true, some (119, true)⟩,
  ⟨some 124, .binOp .eql 63 (.tmp 121) (.tmp 123) 63, false, some (119, true)⟩,
  ⟨some 125, .pick (.tmp 119) (.tmp 124) (.const (.bool false)), false, none⟩,
  ⟨some 8, .assign (.tmp 125), false, none⟩]) <|
 .seq (.keep [8]) <|
 .ret
theorem c8 : Tryz.f8.body.map (fun c => ((compile Tryz.prog kp8 [] kp8 c).map (·.1), fits Tryz.f8.ntmps c)) = some (some s8, true) := by kernel_rfl
theorem r8 : Tryz.f8.results.toList = [.tmp 8] := by kernel_rfl
attribute [go_sem] s8
abbrev kp9 : List Nat := [2]
def s9 : SC :=
 .seq (.ops [⟨some 2, .assign (.const (.pointer none)), false, none⟩]) <|
 .seq (.keep [0]) <|
 .seq (.ops [⟨some 3, .call ⟨.value (.func 39), #[], #[]⟩, true, none⟩,
  ⟨some 4, .call ⟨.value (.func 40), #[], #[]⟩, true, none⟩,
  ⟨some 5, .move (.tmp 0), false, none⟩,
  ⟨some 6, .call ⟨.builtin .max, #[(.tmp 5), (.const (.int .i64 0))], #[3, 3]⟩, false, none⟩,
  ⟨some 7, .build 84 #[(0, (.tmp 3)), (1, (.tmp 4)), (2, (.tmp 6))], false, none⟩,
  ⟨some 8, .box 84 (.tmp 7), true, none⟩,
  ⟨some 2, .assign (.tmp 8), false, none⟩]) <|
 .seq (.keep [2]) <|
 .ret
theorem c9 : Tryz.f9.body.map (fun c => ((compile Tryz.prog kp9 [] kp9 c).map (·.1), fits Tryz.f9.ntmps c)) = some (some s9, true) := by kernel_rfl
theorem r9 : Tryz.f9.results.toList = [.tmp 2] := by kernel_rfl
attribute [go_sem] s9
abbrev kp10 : List Nat := [2]
def s10 : SC :=
 .seq (.ops [⟨some 2, .assign (.const (.pointer none)), false, none⟩]) <|
 .seq (.keep [0]) <|
 .seq (.seq (.ops [⟨some 3, .move (.tmp 0), false, none⟩,
  ⟨some 4, .binOp .lss 3 (.tmp 3) (.const (.int .i64 0)) 3, false, none⟩]) <|
 .seq (.keep [0, 4]) <|
 .cond (.tmp 4) (.ops [⟨some 0, .assign (.const (.int .i64 0)), false, none⟩]) <|
 .skip) <|
 .seq (.keep [0]) <|
 .seq (.ops [⟨some 5, .move (.tmp 0), false, none⟩,
  ⟨some 6, .build 87 #[(1, (.tmp 5))], false, none⟩,
  ⟨some 7, .box 87 (.tmp 6), true, none⟩,
  ⟨some 2, .assign (.tmp 7), false, none⟩]) <|
 .seq (.keep [2]) <|
 .ret
theorem c10 : Tryz.f10.body.map (fun c => ((compile Tryz.prog kp10 [] kp10 c).map (·.1), fits Tryz.f10.ntmps c)) = some (some s10, true) := by kernel_rfl
theorem r10 : Tryz.f10.results.toList = [.tmp 2] := by kernel_rfl
attribute [go_sem] s10
abbrev kp12 : List Nat := [10, 11]
def s12 : SC :=
 .seq (.ops [⟨some 10, .assign (.const (.int .u64 0)), false, none⟩,
  ⟨some 11, .assign (.const (.int .i64 0)), false, none⟩]) <|
 .seq (.keep [0, 1, 2, 3, 4]) <|
 .seq (.seq (.ops [⟨some 16, .move (.tmp 0), false, none⟩,
  ⟨some 17, .binOp .eql 24 (.tmp 16) (.const (.pointer none)) 24, false, none⟩,
  ⟨some 18, .move (.tmp 17), false, none⟩,
  ⟨some 19, .move (.tmp 1), false, some (18, false)⟩,
  ⟨some 20, .binOp .rem 29 (.tmp 19) (.const (.int .u64 4096)) 29, false, some (18, false)⟩,
  ⟨some 21, .binOp .neq 29 (.tmp 20) (.const (.int .u64 0)) 29, false, some (18, false)⟩,
  ⟨some 22, .pick (.tmp 18) (.const (.bool true)) (.tmp 21), false, none⟩,
  ⟨some 23, .move (.tmp 22), false, none⟩,
  ⟨some 24, .move (.tmp 2), false, some (23, false)⟩,
  ⟨some 25, .binOp .eql 29 (.tmp 24) (.const (.int .u64 0)) 29, false, some (23, false)⟩,
  ⟨some 26, .pick (.tmp 23) (.const (.bool true)) (.tmp 25), false, none⟩,
  ⟨some 27, .move (.tmp 26), false, none⟩,
  ⟨some 28, .move (.tmp 2), false, some (27, false)⟩,
  ⟨some 29, .binOp .gtr 29 (.tmp 28) (.const (.int .u64 274877906944)) 29, false, some (27, false)⟩,
  ⟨some 30, .pick (.tmp 27) (.const (.bool true)) (.tmp 29), false, none⟩,
  ⟨some 31, .move (.tmp 30), false, none⟩,
  ⟨some 32, .move (.tmp 3), false, some (31, false)⟩,
  ⟨some 33, .binOp .lss 3 (.tmp 32) (.const (.int .i64 0)) 3, false, some (31, false)⟩,
  ⟨some 34, .pick (.tmp 31) (.const (.bool true)) (.tmp 33), false, none⟩,
  ⟨some 35, .move (.tmp 34), false, none⟩,
  ⟨some 36, .move (.tmp 3), false, some (35, false)⟩,
  ⟨some 37, .binOp .gtr 3 (.tmp 36) (.const (.int .i64 7)) 3, false, some (35, false)⟩,
  ⟨some 38, .pick (.tmp 35) (.const (.bool true)) (.tmp 37), false, none⟩]) <|
 .seq (.keep [0, 1, 2, 3, 4, 38]) <|
 .cond (.tmp 38) (.seq (.ops [⟨some 10, .assign (.const (.int .u64 0)), false, none⟩,
  ⟨some 11, .assign (.const (.int .i64 22)), false, none⟩]) <|
 .seq (.keep [10, 11]) <|
 .ret) <|
 .skip) <|
 .seq (.keep [0, 1, 2, 3, 4]) <|
 .seq (.seq (.ops [⟨some 39, .move (.tmp 4), false, none⟩,
  ⟨some 40, .unOp .not 4 (.tmp 39), false, none⟩]) <|
 .seq (.keep [0, 1, 2, 3, 40]) <|
 .cond (.tmp 40) (.seq (.ops [⟨some 12, .assign (.const (.bool false)), false, none⟩]) <|
 .seq (.keep [0, 1, 2, 3]) <|
 .seq (.ops [⟨some 42, .move (.tmp 0), false, none⟩,
  ⟨some 43, .move (.tmp 1), false, none⟩,
  ⟨some 44, .move (.tmp 2), false, none⟩,
  ⟨some 45, .call ⟨.value (.func 41), #[(.tmp 42), (.tmp 43), (.tmp 44)], #[24, 29, 29]⟩, true, none⟩,
  ⟨some 41, .move (.tmp 45), false, none⟩,
  ⟨some 46, .extract (.tmp 41) 0, false, none⟩,
  ⟨some 47, .extract (.tmp 41) 1, false, none⟩,
  ⟨some 1, .assign (.tmp 46), false, none⟩,
  ⟨some 12, .assign (.tmp 47), false, none⟩]) <|
 .seq (.keep [0, 1, 2, 3, 12]) <|
 .seq (.ops [⟨some 48, .move (.tmp 12), false, none⟩,
  ⟨some 49, .unOp .not 4 (.tmp 48), false, none⟩]) <|
 .seq (.keep [0, 1, 2, 3, 49]) <|
 .cond (.tmp 49) (.seq (.ops [⟨some 10, .assign (.const (.int .u64 0)), false, none⟩,
  ⟨some 11, .assign (.const (.int .i64 12)), false, none⟩]) <|
 .seq (.keep [10, 11]) <|
 .ret) <|
 .skip) <|
 .skip) <|
 .seq (.keep [0, 1, 2, 3]) <|
 .seq (.ops [⟨some 51, .move (.tmp 1), false, none⟩,
  ⟨some 52, .move (.tmp 2), false, none⟩,
  ⟨some 53, .call ⟨.value (.func 42), #[(.tmp 51), (.tmp 52)], #[29, 29]⟩, true, none⟩,
  ⟨some 50, .move (.tmp 53), false, none⟩,
  ⟨some 54, .extract (.tmp 50) 0, false, none⟩,
  ⟨some 55, .extract (.tmp 50) 1, false, none⟩,
  ⟨some 13, .assign (.tmp 54), false, none⟩,
  ⟨some 14, .assign (.tmp 55), false, none⟩]) <|
 .seq (.keep [0, 1, 3, 13, 14]) <|
 .seq (.seq (.ops [⟨some 56, .move (.tmp 14), false, none⟩,
  ⟨some 57, .unOp .not 4 (.tmp 56), false, none⟩]) <|
 .seq (.keep [0, 1, 3, 13, 57]) <|
 .cond (.tmp 57) (.seq (.ops [⟨some 10, .assign (.const (.int .u64 0)), false, none⟩,
  ⟨some 11, .assign (.const (.int .i64 22)), false, none⟩]) <|
 .seq (.keep [10, 11]) <|
 .ret) <|
 .skip) <|
 .seq (.keep [0, 1, 3, 13]) <|
 .seq (.seq (.ops [⟨some 58, .move (.tmp 0), false, none⟩,
  ⟨some 59, .move (.tmp 1), false, none⟩,
  ⟨some 60, .move (.tmp 13), false, none⟩,
  ⟨some 61, .move (.tmp 3), false, none⟩,
  ⟨some 62, .call ⟨.value (.func 43), #[(.tmp 58), (.tmp 59), (.tmp 60), (.tmp 61)], #[24, 29, 29, 3]⟩, true, none⟩,
  ⟨some 15, .assign (.tmp 62), false, none⟩]) <|
 .seq (.keep [1, 15]) <|
 .seq (.ops [⟨some 63, .move (.tmp 15), false, none⟩,
  ⟨some 64, .binOp .neq 30 (.tmp 63) (.const (.int .i64 0)) 30, false, none⟩]) <|
 .seq (.keep [1, 15, 64]) <|
 .cond (.tmp 64) (.seq (.ops [⟨some 65, .move (.tmp 15), false, none⟩,
  ⟨some 10, .assign (.const (.int .u64 0)), false, none⟩,
  ⟨some 11, .assign (.tmp 65), false, none⟩]) <|
 .seq (.keep [10, 11]) <|
 .ret) <|
 .skip) <|
 .seq (.keep [1]) <|
 .seq (.ops [⟨some 66, .move (.tmp 1), false, none⟩,
  ⟨some 10, .assign (.tmp 66), false, none⟩,
  ⟨some 11, .assign (.const (.int .i64 0)), false, none⟩]) <|
 .seq (.keep [10, 11]) <|
 .ret
theorem c12 : Tryz.f12.body.map (fun c => ((compile Tryz.prog kp12 [] kp12 c).map (·.1), fits Tryz.f12.ntmps c)) = some (some s12, true) := by kernel_rfl
theorem r12 : Tryz.f12.results.toList = [.tmp 10, .tmp 11] := by kernel_rfl
attribute [go_sem] s12
abbrev kp13 : List Nat := [8]
def s13 : SC :=
 .seq (.ops [⟨some 8, .assign (.const (.int .i64 0)), false, none⟩]) <|
 .seq (.keep [0, 1, 2, 3]) <|
 .seq (.seq (.ops [⟨some 13, .move (.tmp 2), false, none⟩,
  ⟨some 14, .move (.tmp 1), false, none⟩,
  ⟨some 15, .binOp .sub 29 (.tmp 13) (.tmp 14) 29, false, none⟩,
  ⟨some 16, .binOp .quo 29 (.tmp 15) (.const (.int .u64 4096)) 29, false, none⟩,
  ⟨some 17, .binOp .gtr 29 (.tmp 16) (.const (.int .u64 8192)) 29, false, none⟩]) <|
 .seq (.keep [0, 1, 2, 3, 17]) <|
 .cond (.tmp 17) (.seq (.ops [⟨some 8, .assign (.const (.int .i64 12)), false, none⟩]) <|
 .seq (.keep [8]) <|
 .ret) <|
 .skip) <|
 .seq (.keep [0, 1, 2, 3]) <|
 .seq (.ops [⟨some 18, .move (.tmp 0), false, none⟩,
  ⟨some 19, .move (.tmp 1), false, none⟩,
  ⟨some 20, .move (.tmp 2), false, none⟩,
  ⟨some 21, .call ⟨.value (.func 44), #[(.tmp 18), (.tmp 19), (.tmp 20)], #[26, 29, 29]⟩, true, none⟩,
  ⟨some 9, .assign (.tmp 21), false, none⟩]) <|
 .seq (.keep [0, 1, 2, 3, 9]) <|
 .seq (.seq (.ops [⟨some 22, .move (.tmp 9), false, none⟩,
  ⟨some 23, .call ⟨.builtin .len, #[(.tmp 22)], #[85]⟩, false, none⟩,
  ⟨some 24, .convert 3 29 (.tmp 23), false, none⟩,
  ⟨some 25, .move (.tmp 2), false, none⟩,
  ⟨some 26, .move (.tmp 1), false, none⟩,
  ⟨some 27, .binOp .sub 29 (.tmp 25) (.tmp 26) 29, false, none⟩,
  ⟨some 28, .binOp .quo 29 (.tmp 27) (.const (.int .u64 4096)) 29, false, none⟩,
  ⟨some 29, .binOp .add 29 (.tmp 24) (.tmp 28) 29, false, none⟩,
  ⟨some 30, .move (.tmp 0), false, none⟩,
  ⟨some 31, .nilCheck (.tmp 30), false, none⟩,
  ⟨some 32, .fieldAddr 87 (.tmp 31) 1, false, none⟩,
  ⟨some 33, .load 3 (.tmp 32), false, none⟩,
  ⟨some 34, .convert 3 29 (.tmp 33), false, none⟩,
  ⟨some 35, .binOp .gtr 29 (.tmp 29) (.tmp 34) 29, false, none⟩]) <|
 .seq (.keep [0, 1, 2, 3, 9, 35]) <|
 .cond (.tmp 35) (.seq (.ops [⟨some 8, .assign (.const (.int .i64 12)), false, none⟩]) <|
 .seq (.keep [8]) <|
 .ret) <|
 .skip) <|
 .seq (.keep [0, 1, 2, 3, 9]) <|
 .seq (.ops [⟨some 10, .assign (.const (.slice none 0 0)), false, none⟩]) <|
 .seq (.keep [0, 1, 2, 3, 9, 10]) <|
 .seq (.ops [⟨some 11, .assign (.const (.int .i64 0)), false, none⟩]) <|
 .seq (.keep [0, 1, 2, 3, 9, 10, 11]) <|
 .seq (.block 0 <| .loop <| .seq (.seq (.seq (.ops [⟨some 36, .move (.tmp 11), false, none⟩,
  ⟨some 37, .move (.tmp 9), false, none⟩,
  ⟨some 38, .call ⟨.builtin .len, #[(.tmp 37)], #[85]⟩, false, none⟩,
  ⟨some 39, .binOp .lss 3 (.tmp 36) (.tmp 38) 3, false, none⟩,
  ⟨some 40, .move (.tmp 39), false, none⟩,
  ⟨some 41, .move (.tmp 9), false, some (40, true)⟩,
  ⟨some 42, .move (.tmp 11), false, some (40, true)⟩,
  ⟨some 43, .indexAddr 85 (.tmp 41) (.tmp 42), false, some (40, true)⟩,
  ⟨some 44, .fieldAddr 92 (.tmp 43) 0, false, some (40, true)⟩,
  ⟨some 45, .load 29 (.tmp 44), false, some (40, true)⟩,
  ⟨some 46, .binOp .mul 29 (.tmp 45) (.const (.int .u64 4096)) 29, false, some (40, true)⟩,
  ⟨some 47, .move (.tmp 1), false, some (40, true)⟩,
  ⟨some 48, .binOp .lss 29 (.tmp 46) (.tmp 47) 29, false, some (40, true)⟩,
  ⟨some 49, .pick (.tmp 40) (.tmp 48) (.const (.bool false)), false, none⟩]) <|
 .seq (.keep [0, 1, 2, 3, 9, 10, 11, 49]) <|
 .cond (.tmp 49) (.skip) <|
 .exit 0) <|
 .seq (.keep [0, 1, 2, 3, 9, 10, 11]) <|
 .seq (.block 1 <| .ops [⟨some 52, .move (.tmp 10), false, none⟩,
  ⟨some 53, .move (.tmp 9), false, none⟩,
  ⟨some 54, .move (.tmp 11), false, none⟩,
  ⟨some 55, .indexAddr 85 (.tmp 53) (.tmp 54), false, none⟩,
  ⟨some 56, .load 92 (.tmp 55), false, none⟩,
  ⟨some 57, .buildSlice 85 1 #[(0, (.tmp 56))], true, none⟩,
  ⟨some 58, .call ⟨.builtin .append, #[(.tmp 52), (.tmp 57)], #[85, 85]⟩, true, none⟩,
  ⟨some 10, .assign (.tmp 58), false, none⟩]) <|
 .seq (.keep [0, 1, 2, 3, 9, 10, 11]) <|
 .ops [⟨some 50, .move (.tmp 11), false, none⟩,
  ⟨some 51, .binOp .add 3 (.tmp 50) (.const (.int .i64 1)) 3, false, none⟩,
  ⟨some 11, .assign (.tmp 51), false, none⟩]) <|
 .keep [0, 1, 2, 3, 9, 10, 11]) <|
 .seq (.keep [0, 1, 2, 3, 9, 10, 11]) <|
 .seq (.seq (.ops [⟨some 59, .move (.tmp 1), false, none⟩,
  ⟨some 12, .assign (.tmp 59), false, none⟩]) <|
 .seq (.keep [0, 2, 3, 9, 10, 11, 12]) <|
 .block 2 <| .loop <| .seq (.seq (.seq (.ops [⟨some 60, .move (.tmp 12), false, none⟩,
  ⟨some 61, .move (.tmp 2), false, none⟩,
  ⟨some 62, .binOp .lss 29 (.tmp 60) (.tmp 61) 29, false, none⟩]) <|
 .seq (.keep [0, 2, 3, 9, 10, 11, 12, 62]) <|
 .cond (.tmp 62) (.skip) <|
 .exit 2) <|
 .seq (.keep [0, 2, 3, 9, 10, 11, 12]) <|
 .seq (.block 3 <| .ops [⟨some 65, .move (.tmp 10), false, none⟩,
  ⟨some 66, .move (.tmp 12), false, none⟩,
  ⟨some 67, .binOp .quo 29 (.tmp 66) (.const (.int .u64 4096)) 29, false, none⟩,
  ⟨some 68, .move (.tmp 3), false, none⟩,
  ⟨some 69, .makeSlice 22 (.const (.int .i64 4096)) (.const (.int .i64 4096)), true, none⟩,
  ⟨some 70, .build 92 #[(0, (.tmp 67)), (1, (.tmp 68)), (2, (.tmp 69))], false, none⟩,
  ⟨some 71, .buildSlice 85 1 #[(0, (.tmp 70))], true, none⟩,
  ⟨some 72, .call ⟨.builtin .append, #[(.tmp 65), (.tmp 71)], #[85, 85]⟩, true, none⟩,
  ⟨some 10, .assign (.tmp 72), false, none⟩]) <|
 .seq (.keep [0, 2, 3, 9, 10, 11, 12]) <|
 .ops [⟨some 63, .move (.tmp 12), false, none⟩,
  ⟨some 64, .binOp .add 29 (.tmp 63) (.const (.int .u64 4096)) 29, false, none⟩,
  ⟨some 12, .assign (.tmp 64), false, none⟩]) <|
 .keep [0, 2, 3, 9, 10, 11, 12]) <|
 .seq (.keep [0, 9, 10, 11]) <|
 .seq (.ops [⟨some 73, .move (.tmp 10), false, none⟩,
  ⟨some 74, .move (.tmp 9), false, none⟩,
  ⟨some 75, .move (.tmp 11), false, none⟩,
  ⟨some 76, .slice 85 (.tmp 74) (some (.tmp 75)) none none, false, none⟩,
  ⟨some 77, .call ⟨.builtin .append, #[(.tmp 73), (.tmp 76)], #[85, 85]⟩, true, none⟩,
  ⟨some 10, .assign (.tmp 77), false, none⟩]) <|
 .seq (.keep [0, 10]) <|
 .seq (.seq (.ops [⟨some 78, .move (.tmp 10), false, none⟩,
  ⟨some 79, .call ⟨.value (.func 45), #[(.tmp 78)], #[85]⟩, true, none⟩,
  ⟨some 80, .call ⟨.builtin .len, #[(.tmp 79)], #[93]⟩, false, none⟩,
  ⟨some 81, .binOp .gtr 3 (.tmp 80) (.const (.int .i64 256)) 3, false, none⟩,
  ⟨some 82, .move (.tmp 81), false, none⟩,
  ⟨some 83, .move (.tmp 10), false, some (82, false)⟩,
  ⟨some 84, .call ⟨.builtin .len, #[(.tmp 83)], #[85]⟩, false, some (82, false)⟩,
  ⟨some 85, .move (.tmp 0), false, some (82, false)⟩,
  ⟨some 86, .nilCheck (.tmp 85), false, some (82, false)⟩,
  ⟨some 87, .fieldAddr 87 (.tmp 86) 1, false, some (82, false)⟩,
  ⟨some 88, .load 3 (.tmp 87), false, some (82, false)⟩,
  ⟨some 89, .binOp .gtr 3 (.tmp 84) (.tmp 88) 3, false, some (82, false)⟩,
  ⟨some 90, .pick (.tmp 82) (.const (.bool true)) (.tmp 89), false, none⟩]) <|
 .seq (.keep [0, 10, 90]) <|
 .cond (.tmp 90) (.seq (.ops [⟨some 8, .assign (.const (.int .i64 12)), false, none⟩]) <|
 .seq (.keep [8]) <|
 .ret) <|
 .skip) <|
 .seq (.keep [0, 10]) <|
 .seq (.ops [⟨some 91, .move (.tmp 0), false, none⟩,
  ⟨some 92, .move (.tmp 10), false, none⟩,
  ⟨some 93, .nilCheck (.tmp 91), false, none⟩,
  ⟨some 94, .fieldAddr 87 (.tmp 93) 0, false, none⟩,
  ⟨none, .store 85 (.tmp 94) (.tmp 92), true, none⟩]) <|
 .seq (.keep []) <|
 .seq (.ops [⟨some 8, .assign (.const (.int .i64 0)), false, none⟩]) <|
 .seq (.keep [8]) <|
 .ret
theorem c13 : Tryz.f13.body.map (fun c => ((compile Tryz.prog kp13 [] kp13 c).map (·.1), fits Tryz.f13.ntmps c)) = some (some s13, true) := by kernel_rfl
theorem r13 : Tryz.f13.results.toList = [.tmp 8] := by kernel_rfl
attribute [go_sem] s13
abbrev kp14 : List Nat := []
def s14 : SC :=
 .seq (.seq (.ops [⟨some 9, .move (.tmp 0), false, none⟩,
  ⟨some 10, .binOp .eql 24 (.tmp 9) (.const (.pointer none)) 24, false, none⟩]) <|
 .seq (.keep [0, 1, 2, 10]) <|
 .cond (.tmp 10) (.ret) <|
 .skip) <|
 .seq (.keep [0, 1, 2]) <|
 .block 0 <| .loop <| .seq (.seq (.seq (.ops [⟨some 11, .move (.tmp 2), false, none⟩,
  ⟨some 12, .call ⟨.builtin .len, #[(.tmp 11)], #[22]⟩, false, none⟩,
  ⟨some 13, .binOp .gtr 3 (.tmp 12) (.const (.int .i64 0)) 3, false, none⟩,
  ⟨some 14, .move (.tmp 13), false, none⟩,
  ⟨some 15, .move (.tmp 1), false, some (14, true)⟩,
  ⟨some 16, .binOp .lss 29 (.tmp 15) (.const (.int .u64 274877906944)) 29, false, some (14, true)⟩,
  ⟨some 17, .pick (.tmp 14) (.tmp 16) (.const (.bool false)), false, none⟩]) <|
 .seq (.keep [0, 1, 2, 17]) <|
 .cond (.tmp 17) (.skip) <|
 .exit 0) <|
 .seq (.keep [0, 1, 2]) <|
 .block 1 <| .seq (.ops [⟨some 18, .move (.tmp 2), false, none⟩,
  ⟨some 19, .call ⟨.builtin .len, #[(.tmp 18)], #[22]⟩, false, none⟩,
  ⟨some 20, .convert 3 29 (.tmp 19), false, none⟩,
  ⟨some 21, .move (.tmp 1), false, none⟩,
  ⟨some 22, .binOp .rem 29 (.tmp 21) (.const (.int .u64 4096)) 29, false, none⟩,
  ⟨some 23, .binOp .sub 29 (.const (.int .u64 4096)) (.tmp 22) 29, false, none⟩,
  ⟨some 24, .call ⟨.builtin .min, #[(.tmp 20), (.tmp 23)], #[29, 29]⟩, false, none⟩,
  ⟨some 6, .assign (.tmp 24), false, none⟩]) <|
 .seq (.keep [0, 1, 2, 6]) <|
 .seq (.seq (.ops [⟨some 26, .move (.tmp 0), false, none⟩,
  ⟨some 27, .nilCheck (.tmp 26), false, none⟩,
  ⟨some 28, .fieldAddr 84 (.tmp 27) 0, false, none⟩,
  ⟨some 29, .load 79 (.tmp 28), false, none⟩,
  ⟨some 30, .move (.tmp 1), false, none⟩,
  ⟨some 31, .call ⟨.value (.func 46), #[(.tmp 29), (.tmp 30)], #[79, 29]⟩, true, none⟩,
  ⟨some 25, .move (.tmp 31), false, none⟩,
  ⟨some 32, .extract (.tmp 25) 0, false, none⟩,
  ⟨some 33, .extract (.tmp 25) 1, false, none⟩,
  ⟨some 7, .alloc 96, true, none⟩,
  ⟨none, .store 96 (.tmp 7) (.tmp 32), true, none⟩,
  ⟨some 8, .assign (.tmp 33), false, none⟩]) <|
 .seq (.keep [0, 1, 2, 6, 8]) <|
 .seq (.ops [⟨some 34, .move (.tmp 8), false, none⟩]) <|
 .seq (.keep [0, 1, 2, 6, 34]) <|
 .cond (.tmp 34) (.seq (.ops [⟨some 35, .move (.tmp 0), false, none⟩]) <|
 .seq (.ops [⟨some 36, .nilCheck (.tmp 35), false, none⟩]) <|
 .seq (.ops [⟨some 37, .fieldAddr 84 (.tmp 36) 1, false, none⟩]) <|
 .seq (.ops [⟨some 38, .load 81 (.tmp 37), false, none⟩]) <|
 .seq (.ops [⟨some 39, .move (.tmp 1), false, none⟩]) <|
 .seq (.ops [⟨some 40, .move (.tmp 2), false, none⟩]) <|
 .seq (.ops [⟨some 41, .move (.tmp 6), false, none⟩]) <|
 .seq (.ops [⟨some 42, .slice 22 (.tmp 40) none (some (.tmp 41)) none, false, none⟩]) <|
 .seq (.ops [⟨some 43, .call ⟨.value (.func 47), #[(.tmp 38), (.tmp 39), (.tmp 42)], #[81, 29, 22]⟩, true, none⟩]) <|
 .skip) <|
 .skip) <|
 .seq (.keep [0, 1, 2, 6]) <|
 .seq (.ops [⟨some 44, .move (.tmp 2), false, none⟩,
  ⟨some 45, .move (.tmp 6), false, none⟩,
  ⟨some 46, .slice 22 (.tmp 44) (some (.tmp 45)) none none, false, none⟩,
  ⟨some 2, .assign (.tmp 46), false, none⟩]) <|
 .seq (.keep [0, 1, 2, 6]) <|
 .ops [⟨some 47, .move (.tmp 1), false, none⟩,
  ⟨some 48, .move (.tmp 6), false, none⟩,
  ⟨some 49, .binOp .add 29 (.tmp 47) (.tmp 48) 29, false, none⟩,
  ⟨some 1, .assign (.tmp 49), false, none⟩]) <|
 .keep [0, 1, 2]
theorem c14 : Tryz.f14.body.map (fun c => ((compile Tryz.prog kp14 [] kp14 c).map (·.1), fits Tryz.f14.ntmps c)) = some (some s14, true) := by kernel_rfl
theorem r14 : Tryz.f14.results.toList = [] := by kernel_rfl
attribute [go_sem] s14
abbrev kp15 : List Nat := []
def s15 : SC :=
 .seq (.ops [⟨some 6, .assign (.const (.int .i64 0)), false, none⟩]) <|
 .seq (.keep [0, 1, 2, 6]) <|
 .block 0 <| .loop <| .seq (.seq (.seq (.ops [⟨some 7, .move (.tmp 6), false, none⟩,
  ⟨some 8, .move (.tmp 2), false, none⟩,
  ⟨some 9, .call ⟨.builtin .len, #[(.tmp 8)], #[22]⟩, false, none⟩,
  ⟨some 10, .binOp .lss 3 (.tmp 7) (.tmp 9) 3, false, none⟩,
  ⟨some 11, .move (.tmp 10), false, none⟩,
  ⟨some 12, .move (.tmp 1), false, some (11, true)⟩,
  ⟨some 13, .binOp .lss 29 (.tmp 12) (.const (.int .u64 274877906944)) 29, false, some (11, true)⟩,
  ⟨some 14, .pick (.tmp 11) (.tmp 13) (.const (.bool false)), false, none⟩,
  ⟨some 15, .move (.tmp 14), false, none⟩,
  ⟨some 16, .move (.tmp 1), false, some (15, true)⟩,
  ⟨some 17, .move (.tmp 6), false, some (15, true)⟩,
  ⟨some 18, .convert 3 29 (.tmp 17), false, some (15, true)⟩,
  ⟨some 19, .binOp .add 29 (.tmp 16) (.tmp 18) 29, false, some (15, true)⟩,
  ⟨some 20, .binOp .lss 29 (.tmp 19) (.const (.int .u64 274877906944)) 29, false, some (15, true)⟩,
  ⟨some 21, .pick (.tmp 15) (.tmp 20) (.const (.bool false)), false, none⟩]) <|
 .seq (.keep [0, 1, 2, 6, 21]) <|
 .cond (.tmp 21) (.skip) <|
 .exit 0) <|
 .seq (.keep [0, 1, 2, 6]) <|
 .seq (.block 1 <| .ops [⟨some 24, .move (.tmp 0), false, none⟩,
  ⟨some 25, .move (.tmp 1), false, none⟩,
  ⟨some 26, .move (.tmp 6), false, none⟩,
  ⟨some 27, .convert 3 29 (.tmp 26), false, none⟩,
  ⟨some 28, .binOp .add 29 (.tmp 25) (.tmp 27) 29, false, none⟩,
  ⟨some 29, .move (.tmp 2), false, none⟩,
  ⟨some 30, .move (.tmp 6), false, none⟩,
  ⟨some 31, .indexAddr 22 (.tmp 29) (.tmp 30), false, none⟩,
  ⟨some 32, .load 5 (.tmp 31), false, none⟩,
  ⟨some 33, .call ⟨.value (.func 48), #[(.tmp 24), (.tmp 28), (.tmp 32)], #[26, 29, 5]⟩, true, none⟩]) <|
 .seq (.keep [0, 1, 2, 6]) <|
 .ops [⟨some 22, .move (.tmp 6), false, none⟩,
  ⟨some 23, .binOp .add 3 (.tmp 22) (.const (.int .i64 1)) 3, false, none⟩,
  ⟨some 6, .assign (.tmp 23), false, none⟩]) <|
 .keep [0, 1, 2, 6]
theorem c15 : Tryz.f15.body.map (fun c => ((compile Tryz.prog kp15 [] kp15 c).map (·.1), fits Tryz.f15.ntmps c)) = some (some s15, true) := by kernel_rfl
theorem r15 : Tryz.f15.results.toList = [] := by kernel_rfl
attribute [go_sem] s15
abbrev kp16 : List Nat := [2]
def s16 : SC :=
 .seq (.ops [⟨some 2, .assign (.const (.pointer none)), false, none⟩]) <|
 .seq (.keep [0]) <|
 .seq (.ops [⟨some 3, .move (.tmp 0), false, none⟩,
  ⟨some 4, .makeMap 100 none, true, none⟩,
  ⟨some 5, .build 102 #[(0, (.tmp 3)), (1, (.tmp 4))], false, none⟩,
  ⟨some 6, .box 102 (.tmp 5), true, none⟩,
  ⟨some 2, .assign (.tmp 6), false, none⟩]) <|
 .seq (.keep [2]) <|
 .ret
theorem c16 : Tryz.f16.body.map (fun c => ((compile Tryz.prog kp16 [] kp16 c).map (·.1), fits Tryz.f16.ntmps c)) = some (some s16, true) := by kernel_rfl
theorem r16 : Tryz.f16.results.toList = [.tmp 2] := by kernel_rfl
attribute [go_sem] s16
abbrev kp17 : List Nat := [8]
def s17 : SC :=
 .seq (.ops [⟨some 8, .alloc 41, true, none⟩]) <|
 .seq (.keep [0, 1, 2, 3, 8]) <|
 .seq (.seq (.ops [⟨some 10, .move (.tmp 0), false, none⟩,
  ⟨some 11, .move (.tmp 1), false, none⟩,
  ⟨some 12, .move (.tmp 2), false, none⟩,
  ⟨some 13, .call ⟨.value (.func 49), #[(.tmp 10), (.tmp 11), (.tmp 12)], #[24, 29, 3]⟩, true, none⟩,
  ⟨some 9, .alloc 41, true, none⟩,
  ⟨none, .store 41 (.tmp 9) (.tmp 13), true, none⟩]) <|
 .seq (.keep [0, 1, 2, 3, 8, 9]) <|
 .seq (.ops [⟨some 14, .fieldAddr 41 (.tmp 9) 0, false, none⟩,
  ⟨some 15, .load 3 (.tmp 14), false, none⟩,
  ⟨some 16, .binOp .neq 3 (.tmp 15) (.const (.int .i64 0)) 3, false, none⟩]) <|
 .seq (.keep [0, 1, 2, 3, 8, 9, 16]) <|
 .cond (.tmp 16) (.seq (.ops [⟨some 17, .load 41 (.tmp 9), false, none⟩,
  ⟨none, .store 41 (.tmp 8) (.tmp 17), true, none⟩]) <|
 .seq (.keep [8]) <|
 .ret) <|
 .skip) <|
 .seq (.keep [0, 1, 2, 3, 8]) <|
 .seq (.seq (.ops [⟨some 18, .move (.tmp 0), false, none⟩]) <|
 .seq (.ops [⟨some 19, .nilCheck (.tmp 18), false, none⟩]) <|
 .seq (.ops [⟨some 20, .fieldAddr 84 (.tmp 19) 1, false, none⟩]) <|
 .seq (.ops [⟨some 22, .move (.tmp 1), false, none⟩]) <|
 .seq (.ops [⟨some 23, .move (.tmp 3), false, none⟩]) <|
 .seq (.ops [⟨some 24, .move (.tmp 2), false, none⟩]) <|
 .amb (.seq (.ops [⟨some 21, .load 81 (.tmp 20), false, none⟩]) <|
 .seq (.ops [⟨some 25, .call ⟨.value (.func 50), #[(.const (.slice none 0 0)), (.tmp 23), (.tmp 24)], #[22, 29, 3]⟩, true, none⟩]) <|
 .seq (.ops [⟨some 26, .call ⟨.value (.func 47), #[(.tmp 21), (.tmp 22), (.tmp 25)], #[81, 29, 22]⟩, true, none⟩]) <|
 .skip) (.seq (.ops [⟨some 25, .call ⟨.value (.func 50), #[(.const (.slice none 0 0)), (.tmp 23), (.tmp 24)], #[22, 29, 3]⟩, true, none⟩]) <|
 .seq (.ops [⟨some 21, .load 81 (.tmp 20), false, none⟩]) <|
 .seq (.ops [⟨some 26, .call ⟨.value (.func 47), #[(.tmp 21), (.tmp 22), (.tmp 25)], #[81, 29, 22]⟩, true, none⟩]) <|
 .skip)) <|
 .seq (.keep [8]) <|
 .seq (.ops [⟨some 27, .build 41 #[], false, none⟩,
  ⟨none, .store 41 (.tmp 8) (.tmp 27), true, none⟩]) <|
 .seq (.keep [8]) <|
 .ret
theorem c17 : Tryz.f17.body.map (fun c => ((compile Tryz.prog kp17 [] kp17 c).map (·.1), fits Tryz.f17.ntmps c)) = some (some s17, true) := by kernel_rfl
theorem r17 : Tryz.f17.results.toList = [.cell 8 41] := by kernel_rfl
attribute [go_sem] s17
abbrev kp24 : List Nat := []
def s24 : SC :=
 .seq (.ops [⟨some 2, .move (.tmp 0), false, none⟩,
  ⟨some 3, .binOp .neq 35 (.tmp 2) (.const (.pointer none)) 35, false, none⟩]) <|
 .seq (.keep [0, 3]) <|
 .cond (.tmp 3) (.ops [⟨some 4, .move (.tmp 0), false, none⟩,
  ⟨some 5, .nilCheck (.tmp 4), false, none⟩,
  ⟨some 6, .fieldAddr 102 (.tmp 5) 1, false, none⟩,
  ⟨some 7, .load 100 (.tmp 6), false, none⟩,
  ⟨none, .call ⟨.builtin .clear, #[(.tmp 7)], #[100]⟩, true, none⟩]) <|
 .skip
theorem c24 : Tryz.f24.body.map (fun c => ((compile Tryz.prog kp24 [] kp24 c).map (·.1), fits Tryz.f24.ntmps c)) = some (some s24, true) := by kernel_rfl
theorem r24 : Tryz.f24.results.toList = [] := by kernel_rfl
attribute [go_sem] s24
abbrev kp26 : List Nat := [6, 7]
def s26 : SC :=
 .seq (.ops [⟨some 6, .alloc 47, true, none⟩,
  ⟨some 7, .alloc 49, true, none⟩]) <|
 .seq (.keep [0, 1, 2, 6, 7]) <|
 .seq (.seq (.ops [⟨some 14, .move (.tmp 0), false, none⟩,
  ⟨some 15, .binOp .eql 35 (.tmp 14) (.const (.pointer none)) 35, false, none⟩,
  ⟨some 16, .move (.tmp 15), false, none⟩,
  ⟨some 17, .move (.tmp 0), false, some (16, false)⟩,
  ⟨some 18, .nilCheck (.tmp 17), false, some (16, false)⟩,
  ⟨some 19, .fieldAddr 102 (.tmp 18) 0, false, some (16, false)⟩,
  ⟨some 20, .load 4 (.tmp 19), false, some (16, false)⟩,
  ⟨some 21, .unOp .not 4 (.tmp 20), false, some (16, false)⟩,
  ⟨some 22, .pick (.tmp 16) (.const (.bool true)) (.tmp 21), false, none⟩]) <|
 .seq (.keep [0, 1, 2, 6, 7, 22]) <|
 .cond (.tmp 22) (.seq (.ops [⟨some 23, .move (.tmp 1), false, none⟩,
  ⟨some 24, .move (.tmp 2), false, none⟩,
  ⟨some 25, .call ⟨.value (.func 59), #[(.tmp 23), (.tmp 24)], #[24, 29]⟩, true, none⟩,
  ⟨some 26, .extract (.tmp 25) 0, false, none⟩,
  ⟨some 27, .extract (.tmp 25) 1, false, none⟩,
  ⟨none, .store 47 (.tmp 6) (.tmp 26), true, none⟩,
  ⟨none, .store 49 (.tmp 7) (.tmp 27), true, none⟩]) <|
 .seq (.keep [6, 7]) <|
 .ret) <|
 .skip) <|
 .seq (.keep [0, 1, 2, 6, 7]) <|
 .seq (.seq (.ops [⟨some 28, .move (.tmp 0), false, none⟩,
  ⟨some 29, .nilCheck (.tmp 28), false, none⟩,
  ⟨some 30, .fieldAddr 102 (.tmp 29) 2, false, none⟩,
  ⟨some 31, .load 24 (.tmp 30), false, none⟩,
  ⟨some 32, .move (.tmp 1), false, none⟩,
  ⟨some 33, .binOp .neq 24 (.tmp 31) (.tmp 32) 24, false, none⟩]) <|
 .seq (.keep [0, 1, 2, 6, 7, 33]) <|
 .cond (.tmp 33) (.seq (.ops [⟨some 34, .move (.tmp 0), false, none⟩,
  ⟨some 35, .call ⟨.value (.func 24), #[(.tmp 34)], #[35]⟩, true, none⟩]) <|
 .seq (.keep [0, 1, 2, 6, 7]) <|
 .ops [⟨some 36, .move (.tmp 0), false, none⟩,
  ⟨some 37, .move (.tmp 1), false, none⟩,
  ⟨some 38, .nilCheck (.tmp 36), false, none⟩,
  ⟨some 39, .fieldAddr 102 (.tmp 38) 2, false, none⟩,
  ⟨none, .store 24 (.tmp 39) (.tmp 37), true, none⟩]) <|
 .skip) <|
 .seq (.keep [0, 1, 2, 6, 7]) <|
 .seq (.seq (.ops [⟨some 41, .move (.tmp 0), false, none⟩,
  ⟨some 42, .nilCheck (.tmp 41), false, none⟩,
  ⟨some 43, .fieldAddr 102 (.tmp 42) 1, false, none⟩,
  ⟨some 44, .load 100 (.tmp 43), false, none⟩,
  ⟨some 45, .move (.tmp 2), false, none⟩,
  ⟨some 46, .lookup 100 (.tmp 44) (.tmp 45) true, false, none⟩,
  ⟨some 40, .move (.tmp 46), false, none⟩,
  ⟨some 47, .extract (.tmp 40) 0, false, none⟩,
  ⟨some 48, .extract (.tmp 40) 1, false, none⟩,
  ⟨some 8, .alloc 107, true, none⟩,
  ⟨none, .store 107 (.tmp 8) (.tmp 47), true, none⟩,
  ⟨some 9, .assign (.tmp 48), false, none⟩]) <|
 .seq (.keep [0, 1, 2, 6, 7, 8, 9]) <|
 .seq (.ops [⟨some 49, .move (.tmp 9), false, none⟩]) <|
 .seq (.keep [0, 1, 2, 6, 7, 8, 49]) <|
 .cond (.tmp 49) (.seq (.seq (.ops [⟨some 51, .move (.tmp 1), false, none⟩,
  ⟨some 52, .move (.tmp 2), false, none⟩,
  ⟨some 53, .fieldAddr 107 (.tmp 8) 0, false, none⟩,
  ⟨some 54, .fieldAddr 47 (.tmp 53) 6, false, none⟩,
  ⟨some 55, .load 3 (.tmp 54), false, none⟩,
  ⟨some 56, .call ⟨.value (.func 60), #[(.tmp 51), (.tmp 52), (.tmp 55)], #[24, 29, 3]⟩, true, none⟩,
  ⟨some 50, .move (.tmp 56), false, none⟩,
  ⟨some 57, .extract (.tmp 50) 0, false, none⟩,
  ⟨some 58, .extract (.tmp 50) 1, false, none⟩,
  ⟨some 10, .assign (.tmp 57), false, none⟩,
  ⟨some 11, .assign (.tmp 58), false, none⟩]) <|
 .seq (.keep [0, 1, 2, 6, 7, 8, 10, 11]) <|
 .seq (.ops [⟨some 59, .move (.tmp 10), false, none⟩,
  ⟨some 60, .fieldAddr 107 (.tmp 8) 1, false, none⟩,
  ⟨some 61, .load 29 (.tmp 60), false, none⟩,
  ⟨some 62, .binOp .eql 29 (.tmp 59) (.tmp 61) 29, false, none⟩,
  ⟨some 63, .move (.tmp 62), false, none⟩,
  ⟨some 64, .move (.tmp 11), false, some (63, true)⟩,
  ⟨some 65, .fieldAddr 107 (.tmp 8) 2, false, some (63, true)⟩,
  ⟨some 66, .load 29 (.tmp 65), false, some (63, true)⟩,
  ⟨some 67, .binOp .eql 29 (.tmp 64) (.tmp 66) 29, false, some (63, true)⟩,
  ⟨some 68, .pick (.tmp 63) (.tmp 67) (.const (.bool false)), false, none⟩]) <|
 .seq (.keep [0, 1, 2, 6, 7, 8, 68]) <|
 .cond (.tmp 68) (.seq (.ops [⟨some 69, .fieldAddr 107 (.tmp 8) 0, false, none⟩,
  ⟨some 70, .load 47 (.tmp 69), false, none⟩,
  ⟨some 71, .build 49 #[], false, none⟩,
  ⟨none, .store 47 (.tmp 6) (.tmp 70), true, none⟩,
  ⟨none, .store 49 (.tmp 7) (.tmp 71), true, none⟩]) <|
 .seq (.keep [6, 7]) <|
 .ret) <|
 .skip) <|
 .seq (.keep [0, 1, 2, 6, 7]) <|
 .ops [⟨some 72, .move (.tmp 0), false, none⟩,
  ⟨some 73, .nilCheck (.tmp 72), false, none⟩,
  ⟨some 74, .fieldAddr 102 (.tmp 73) 1, false, none⟩,
  ⟨some 75, .load 100 (.tmp 74), false, none⟩,
  ⟨some 76, .move (.tmp 2), false, none⟩,
  ⟨none, .call ⟨.builtin .delete, #[(.tmp 75), (.tmp 76)], #[100, 29]⟩, true, none⟩]) <|
 .skip) <|
 .seq (.keep [0, 1, 2, 6, 7]) <|
 .seq (.ops [⟨some 78, .move (.tmp 1), false, none⟩,
  ⟨some 79, .move (.tmp 2), false, none⟩,
  ⟨some 80, .call ⟨.value (.func 59), #[(.tmp 78), (.tmp 79)], #[24, 29]⟩, true, none⟩,
  ⟨some 77, .move (.tmp 80), false, none⟩,
  ⟨some 81, .extract (.tmp 77) 0, false, none⟩,
  ⟨some 82, .extract (.tmp 77) 1, false, none⟩,
  ⟨none, .store 47 (.tmp 6) (.tmp 81), true, none⟩,
  ⟨none, .store 49 (.tmp 7) (.tmp 82), true, none⟩]) <|
 .seq (.keep [0, 1, 2, 6, 7]) <|
 .seq (.seq (.ops [⟨some 83, .fieldAddr 49 (.tmp 7) 0, false, none⟩,
  ⟨some 84, .load 3 (.tmp 83), false, none⟩,
  ⟨some 85, .binOp .neq 3 (.tmp 84) (.const (.int .i64 0)) 3, false, none⟩]) <|
 .seq (.keep [0, 1, 2, 6, 7, 85]) <|
 .cond (.tmp 85) (.seq (.seq (.ops [⟨some 86, .load 47 (.tmp 6), false, none⟩]) <|
 .amb (.seq (.ops [⟨some 87, .load 49 (.tmp 7), false, none⟩]) <|
 .seq (.ops [⟨none, .store 47 (.tmp 6) (.tmp 86), true, none⟩]) <|
 .seq (.ops [⟨none, .store 49 (.tmp 7) (.tmp 87), true, none⟩]) <|
 .skip) (.seq (.ops [⟨none, .store 47 (.tmp 6) (.tmp 86), true, none⟩]) <|
 .seq (.ops [⟨some 87, .load 49 (.tmp 7), false, none⟩]) <|
 .seq (.ops [⟨none, .store 49 (.tmp 7) (.tmp 87), true, none⟩]) <|
 .skip)) <|
 .seq (.keep [6, 7]) <|
 .ret) <|
 .skip) <|
 .seq (.keep [0, 1, 2, 6, 7]) <|
 .seq (.seq (.ops [⟨some 88, .move (.tmp 0), false, none⟩,
  ⟨some 89, .nilCheck (.tmp 88), false, none⟩,
  ⟨some 90, .fieldAddr 102 (.tmp 89) 1, false, none⟩,
  ⟨some 91, .load 100 (.tmp 90), false, none⟩,
  ⟨some 92, .call ⟨.builtin .len, #[(.tmp 91)], #[100]⟩, false, none⟩,
  ⟨some 93, .binOp .geq 3 (.tmp 92) (.const (.int .i64 4096)) 3, false, none⟩]) <|
 .seq (.keep [0, 1, 2, 6, 7, 93]) <|
 .cond (.tmp 93) (.ops [⟨some 94, .move (.tmp 0), false, none⟩,
  ⟨some 95, .call ⟨.value (.func 24), #[(.tmp 94)], #[35]⟩, true, none⟩]) <|
 .skip) <|
 .seq (.keep [0, 1, 2, 6, 7]) <|
 .seq (.ops [⟨some 97, .move (.tmp 1), false, none⟩,
  ⟨some 98, .move (.tmp 2), false, none⟩,
  ⟨some 99, .fieldAddr 47 (.tmp 6) 6, false, none⟩,
  ⟨some 100, .load 3 (.tmp 99), false, none⟩,
  ⟨some 101, .call ⟨.value (.func 60), #[(.tmp 97), (.tmp 98), (.tmp 100)], #[24, 29, 3]⟩, true, none⟩,
  ⟨some 96, .move (.tmp 101), false, none⟩,
  ⟨some 102, .extract (.tmp 96) 0, false, none⟩,
  ⟨some 103, .extract (.tmp 96) 1, false, none⟩,
  ⟨some 12, .assign (.tmp 102), false, none⟩,
  ⟨some 13, .assign (.tmp 103), false, none⟩]) <|
 .seq (.keep [0, 2, 6, 7, 12, 13]) <|
 .seq (.seq (.ops [⟨some 104, .move (.tmp 0), false, none⟩]) <|
 .seq (.ops [⟨some 105, .nilCheck (.tmp 104), false, none⟩]) <|
 .seq (.ops [⟨some 106, .fieldAddr 102 (.tmp 105) 1, false, none⟩]) <|
 .seq (.ops [⟨some 107, .load 100 (.tmp 106), false, none⟩]) <|
 .seq (.ops [⟨some 108, .move (.tmp 2), false, none⟩]) <|
 .seq (.ops [⟨some 109, .load 47 (.tmp 6), false, none⟩]) <|
 .seq (.ops [⟨some 110, .move (.tmp 12), false, none⟩]) <|
 .seq (.ops [⟨some 111, .move (.tmp 13), false, none⟩]) <|
 .seq (.ops [⟨some 112, .build 107 #[(0, (.tmp 109)), (1, (.tmp 110)), (2, (.tmp 111))], false, none⟩]) <|
 .seq (.ops [⟨none, .mapUpdate 100 (.tmp 107) (.tmp 108) (.tmp 112), true, none⟩]) <|
 .skip) <|
 .seq (.keep [6, 7]) <|
 .seq (.ops [⟨some 113, .load 47 (.tmp 6), false, none⟩,
  ⟨some 114, .build 49 #[], false, none⟩,
  ⟨none, .store 47 (.tmp 6) (.tmp 113), true, none⟩,
  ⟨none, .store 49 (.tmp 7) (.tmp 114), true, none⟩]) <|
 .seq (.keep [6, 7]) <|
 .ret
theorem c26 : Tryz.f26.body.map (fun c => ((compile Tryz.prog kp26 [] kp26 c).map (·.1), fits Tryz.f26.ntmps c)) = some (some s26, true) := by kernel_rfl
theorem r26 : Tryz.f26.results.toList = [.cell 6 47, .cell 7 49] := by kernel_rfl
attribute [go_sem] s26
abbrev kp28 : List Nat := [0]
def s28 : SC :=
 .seq (.ops [⟨some 0, .assign (.const (.bool false)), false, none⟩]) <|
 .seq (.keep []) <|
 .seq (.ops [⟨some 4, .buildSlice 22 2 #[(0, (.const (.int .u8 5))), (1, (.const (.int .u8 69)))], true, none⟩,
  ⟨some 5, .call ⟨.value (.func 29), #[(.tmp 4), (.const (.slice none 0 0)), (.const (.bool false))], #[22, 54, 4]⟩, true, none⟩,
  ⟨some 3, .move (.tmp 5), false, none⟩,
  ⟨some 6, .extract (.tmp 3) 0, false, none⟩,
  ⟨some 7, .extract (.tmp 3) 1, false, none⟩,
  ⟨some 1, .assign (.tmp 6), false, none⟩,
  ⟨some 2, .assign (.tmp 7), false, none⟩]) <|
 .seq (.keep [1]) <|
 .seq (.ops [⟨some 8, .move (.tmp 1), false, none⟩,
  ⟨some 9, .call ⟨.value (.func 31), #[(.tmp 8)], #[55]⟩, true, none⟩,
  ⟨some 10, .field 49 (.tmp 9) 0, false, none⟩,
  ⟨some 11, .binOp .eql 3 (.tmp 10) (.const (.int .i64 0)) 3, false, none⟩,
  ⟨some 12, .move (.tmp 11), false, none⟩,
  ⟨some 13, .move (.tmp 1), false, some (12, true)⟩,
  ⟨some 14, .call ⟨.value (.func 30), #[(.tmp 13)], #[55]⟩, true, some (12, true)⟩,
  ⟨some 15, .field 63 (.tmp 14) 1, false, some (12, true)⟩,
  ⟨some 16, .index 59 (.tmp 15) (.const (.int .i64 10)), false, some (12, true)⟩,
  ⟨some 17, .binOp .eql 29 (.tmp 16) (.const (.int .u64 1)) 29, false, some (12, true)⟩,
  ⟨some 18, .pick (.tmp 12) (.tmp 17) (.const (.bool false)), false, none⟩,
  ⟨some 0, .assign (.tmp 18), false, none⟩]) <|
 .seq (.keep [0]) <|
 .ret
theorem c28 : Tryz.f28.body.map (fun c => ((compile Tryz.prog kp28 [] kp28 c).map (·.1), fits Tryz.f28.ntmps c)) = some (some s28, true) := by kernel_rfl
theorem r28 : Tryz.f28.results.toList = [.tmp 0] := by kernel_rfl
attribute [go_sem] s28
abbrev kp29 : List Nat := [6, 7]
def s29 : SC :=
 .seq (.ops [⟨some 6, .assign (.const (.pointer none)), false, none⟩,
  ⟨some 7, .assign (.const (.pointer none)), false, none⟩]) <|
 .seq (.keep [0, 1, 2]) <|
 .seq (.ops [⟨some 14, .call ⟨.value (.func 9), #[(.const (.int .i64 20))], #[3]⟩, true, none⟩,
  ⟨some 8, .assign (.tmp 14), false, none⟩]) <|
 .seq (.keep [0, 1, 2, 8]) <|
 .seq (.ops [⟨some 15, .call ⟨.value (.func 10), #[(.const (.int .i64 20))], #[3]⟩, true, none⟩,
  ⟨some 9, .assign (.tmp 15), false, none⟩]) <|
 .seq (.keep [0, 1, 2, 8, 9]) <|
 .seq (.ops [⟨some 16, .move (.tmp 8), false, none⟩,
  ⟨some 17, .call ⟨.value (.func 12), #[(.tmp 16), (.const (.int .u64 65536)), (.const (.int .u64 8192)), (.const (.int .i64 7)), (.const (.bool true))], #[24, 29, 29, 3, 4]⟩, true, none⟩]) <|
 .seq (.keep [0, 1, 2, 8, 9]) <|
 .seq (.ops [⟨some 18, .move (.tmp 9), false, none⟩,
  ⟨some 19, .call ⟨.value (.func 13), #[(.tmp 18), (.const (.int .u64 65536)), (.const (.int .u64 73728)), (.const (.int .i64 7))], #[26, 29, 29, 3]⟩, true, none⟩]) <|
 .seq (.keep [0, 1, 2, 8, 9]) <|
 .seq (.ops [⟨some 20, .move (.tmp 8), false, none⟩,
  ⟨some 21, .call ⟨.value (.func 12), #[(.tmp 20), (.const (.int .u64 131072)), (.const (.int .u64 8192)), (.const (.int .i64 3)), (.const (.bool true))], #[24, 29, 29, 3, 4]⟩, true, none⟩]) <|
 .seq (.keep [0, 1, 2, 8, 9]) <|
 .seq (.ops [⟨some 22, .move (.tmp 9), false, none⟩,
  ⟨some 23, .call ⟨.value (.func 13), #[(.tmp 22), (.const (.int .u64 131072)), (.const (.int .u64 139264)), (.const (.int .i64 3))], #[26, 29, 29, 3]⟩, true, none⟩]) <|
 .seq (.keep [0, 1, 2, 8, 9]) <|
 .seq (.ops [⟨some 24, .move (.tmp 8), false, none⟩,
  ⟨some 25, .call ⟨.value (.func 12), #[(.tmp 24), (.const (.int .u64 139264)), (.const (.int .u64 4096)), (.const (.int .i64 1)), (.const (.bool true))], #[24, 29, 29, 3, 4]⟩, true, none⟩]) <|
 .seq (.keep [0, 1, 2, 8, 9]) <|
 .seq (.ops [⟨some 26, .move (.tmp 9), false, none⟩,
  ⟨some 27, .call ⟨.value (.func 13), #[(.tmp 26), (.const (.int .u64 139264)), (.const (.int .u64 143360)), (.const (.int .i64 1))], #[26, 29, 29, 3]⟩, true, none⟩]) <|
 .seq (.keep [0, 1, 2, 8, 9]) <|
 .seq (.ops [⟨some 28, .move (.tmp 8), false, none⟩,
  ⟨some 29, .move (.tmp 0), false, none⟩,
  ⟨some 30, .call ⟨.value (.func 14), #[(.tmp 28), (.const (.int .u64 65536)), (.tmp 29)], #[24, 29, 22]⟩, true, none⟩]) <|
 .seq (.keep [0, 1, 2, 8, 9]) <|
 .seq (.ops [⟨some 31, .move (.tmp 9), false, none⟩,
  ⟨some 32, .move (.tmp 0), false, none⟩,
  ⟨some 33, .call ⟨.value (.func 15), #[(.tmp 31), (.const (.int .u64 65536)), (.tmp 32)], #[26, 29, 22]⟩, true, none⟩]) <|
 .seq (.keep [1, 2, 8, 9]) <|
 .seq (.ops [⟨some 34, .move (.tmp 8), false, none⟩,
  ⟨some 35, .move (.tmp 2), false, none⟩,
  ⟨some 36, .call ⟨.value (.func 16), #[(.tmp 35)], #[4]⟩, true, none⟩,
  ⟨some 37, .call ⟨.value (.func 63), #[(.tmp 34), (.tmp 36)], #[24, 35]⟩, true, none⟩,
  ⟨some 10, .assign (.tmp 37), false, none⟩]) <|
 .seq (.keep [1, 9, 10]) <|
 .seq (.ops [⟨some 38, .move (.tmp 9), false, none⟩,
  ⟨some 39, .build 117 #[(4, (.tmp 38)), (0, (.const (.int .u64 65536)))], false, none⟩,
  ⟨some 40, .box 117 (.tmp 39), true, none⟩,
  ⟨some 11, .assign (.tmp 40), false, none⟩]) <|
 .seq (.keep [1, 10, 11]) <|
 .seq (.ops [⟨some 41, .build 63 #[(0, (.const (.int .u64 65536)))], false, none⟩,
  ⟨some 12, .alloc 63, true, none⟩,
  ⟨none, .store 63 (.tmp 12) (.tmp 41), true, none⟩]) <|
 .seq (.keep [1, 10, 11, 12]) <|
 .seq (.seq (.ops [⟨some 13, .assign (.const (.int .i64 1)), false, none⟩]) <|
 .seq (.keep [1, 10, 11, 12, 13]) <|
 .block 0 <| .loop <| .seq (.seq (.seq (.ops [⟨some 42, .move (.tmp 13), false, none⟩,
  ⟨some 43, .binOp .lss 3 (.tmp 42) (.const (.int .i64 32)) 3, false, none⟩]) <|
 .seq (.keep [1, 10, 11, 12, 13, 43]) <|
 .cond (.tmp 43) (.skip) <|
 .exit 0) <|
 .seq (.keep [1, 10, 11, 12, 13]) <|
 .seq (.block 1 <| .seq (.ops [⟨some 46, .move (.tmp 13), false, none⟩,
  ⟨some 47, .move (.tmp 13), false, none⟩,
  ⟨some 48, .binOp .mul 3 (.tmp 47) (.const (.int .i64 8)) 3, false, none⟩,
  ⟨some 49, .convert 3 29 (.tmp 48), false, none⟩,
  ⟨some 50, .binOp .add 29 (.const (.int .u64 131072)) (.tmp 49) 29, false, none⟩,
  ⟨some 51, .fieldAddr 63 (.tmp 12) 1, false, none⟩,
  ⟨some 52, .indexAddr 59 (.tmp 51) (.tmp 46), false, none⟩,
  ⟨none, .store 29 (.tmp 52) (.tmp 50), true, none⟩]) <|
 .seq (.keep [1, 10, 11, 12, 13]) <|
 .seq (.seq (.ops [⟨some 53, .move (.tmp 13), false, none⟩,
  ⟨some 54, .move (.tmp 1), false, none⟩,
  ⟨some 55, .call ⟨.builtin .len, #[(.tmp 54)], #[54]⟩, false, none⟩,
  ⟨some 56, .binOp .lss 3 (.tmp 53) (.tmp 55) 3, false, none⟩]) <|
 .seq (.keep [1, 10, 11, 12, 13, 56]) <|
 .cond (.tmp 56) (.ops [⟨some 57, .move (.tmp 13), false, none⟩,
  ⟨some 58, .move (.tmp 1), false, none⟩,
  ⟨some 59, .move (.tmp 13), false, none⟩,
  ⟨some 60, .indexAddr 54 (.tmp 58) (.tmp 59), false, none⟩,
  ⟨some 61, .load 29 (.tmp 60), false, none⟩,
  ⟨some 62, .fieldAddr 63 (.tmp 12) 1, false, none⟩,
  ⟨some 63, .indexAddr 59 (.tmp 62) (.tmp 57), false, none⟩,
  ⟨none, .store 29 (.tmp 63) (.tmp 61), true, none⟩]) <|
 .skip) <|
 .seq (.keep [1, 10, 11, 12, 13]) <|
 .seq (.ops [⟨some 64, .move (.tmp 11), false, none⟩]) <|
 .seq (.ops [⟨some 65, .move (.tmp 13), false, none⟩]) <|
 .seq (.ops [⟨some 66, .move (.tmp 13), false, none⟩]) <|
 .seq (.ops [⟨some 67, .fieldAddr 63 (.tmp 12) 1, false, none⟩]) <|
 .seq (.ops [⟨some 68, .indexAddr 59 (.tmp 67) (.tmp 66), false, none⟩]) <|
 .seq (.ops [⟨some 69, .load 29 (.tmp 68), false, none⟩]) <|
 .seq (.ops [⟨some 70, .nilCheck (.tmp 64), false, none⟩]) <|
 .seq (.ops [⟨some 71, .fieldAddr 117 (.tmp 70) 1, false, none⟩]) <|
 .seq (.ops [⟨some 72, .indexAddr 59 (.tmp 71) (.tmp 65), false, none⟩]) <|
 .seq (.ops [⟨none, .store 29 (.tmp 72) (.tmp 69), true, none⟩]) <|
 .skip) <|
 .seq (.keep [1, 10, 11, 12, 13]) <|
 .ops [⟨some 44, .move (.tmp 13), false, none⟩,
  ⟨some 45, .binOp .add 3 (.tmp 44) (.const (.int .i64 1)) 3, false, none⟩,
  ⟨some 13, .assign (.tmp 45), false, none⟩]) <|
 .keep [1, 10, 11, 12, 13]) <|
 .seq (.keep [10, 11, 12]) <|
 .seq (.ops [⟨some 73, .move (.tmp 10), false, none⟩,
  ⟨some 74, .load 63 (.tmp 12), false, none⟩,
  ⟨some 75, .call ⟨.value (.func 64), #[(.tmp 73), (.tmp 74)], #[55, 63]⟩, true, none⟩]) <|
 .seq (.keep [10, 11]) <|
 .seq (.ops [⟨some 76, .move (.tmp 10), false, none⟩,
  ⟨some 77, .move (.tmp 11), false, none⟩,
  ⟨some 6, .assign (.tmp 76), false, none⟩,
  ⟨some 7, .assign (.tmp 77), false, none⟩]) <|
 .seq (.keep [6, 7]) <|
 .ret
theorem c29 : Tryz.f29.body.map (fun c => ((compile Tryz.prog kp29 [] kp29 c).map (·.1), fits Tryz.f29.ntmps c)) = some (some s29, true) := by kernel_rfl
theorem r29 : Tryz.f29.results.toList = [.tmp 6, .tmp 7] := by kernel_rfl
attribute [go_sem] s29
abbrev kp30 : List Nat := [2]
def s30 : SC :=
 .seq (.ops [⟨some 2, .alloc 63, true, none⟩]) <|
 .seq (.keep [0, 2]) <|
 .seq (.seq (.ops [⟨some 3, .move (.tmp 0), false, none⟩,
  ⟨some 4, .binOp .eql 55 (.tmp 3) (.const (.pointer none)) 55, false, none⟩]) <|
 .seq (.keep [0, 2, 4]) <|
 .cond (.tmp 4) (.seq (.ops [⟨some 5, .build 63 #[], false, none⟩,
  ⟨none, .store 63 (.tmp 2) (.tmp 5), true, none⟩]) <|
 .seq (.keep [2]) <|
 .ret) <|
 .skip) <|
 .seq (.keep [0, 2]) <|
 .seq (.ops [⟨some 6, .move (.tmp 0), false, none⟩,
  ⟨some 7, .nilCheck (.tmp 6), false, none⟩,
  ⟨some 8, .fieldAddr 120 (.tmp 7) 0, false, none⟩,
  ⟨some 9, .load 63 (.tmp 8), false, none⟩,
  ⟨none, .store 63 (.tmp 2) (.tmp 9), true, none⟩]) <|
 .seq (.keep [2]) <|
 .ret
theorem c30 : Tryz.f30.body.map (fun c => ((compile Tryz.prog kp30 [] kp30 c).map (·.1), fits Tryz.f30.ntmps c)) = some (some s30, true) := by kernel_rfl
theorem r30 : Tryz.f30.results.toList = [.cell 2 63] := by kernel_rfl
attribute [go_sem] s30
abbrev kp31 : List Nat := [2]
def s31 : SC :=
 .seq (.ops [⟨some 2, .alloc 49, true, none⟩]) <|
 .seq (.keep [0, 2]) <|
 .seq (.seq (.ops [⟨some 6, .move (.tmp 0), false, none⟩,
  ⟨some 7, .binOp .eql 55 (.tmp 6) (.const (.pointer none)) 55, false, none⟩]) <|
 .seq (.keep [0, 2, 7]) <|
 .cond (.tmp 7) (.seq (.ops [⟨some 8, .build 49 #[(0, (.const (.int .i64 3)))], false, none⟩,
  ⟨none, .store 49 (.tmp 2) (.tmp 8), true, none⟩]) <|
 .seq (.keep [2]) <|
 .ret) <|
 .skip) <|
 .seq (.keep [0, 2]) <|
 .seq (.ops [⟨some 9, .move (.tmp 0), false, none⟩,
  ⟨some 10, .nilCheck (.tmp 9), false, none⟩,
  ⟨some 11, .fieldAddr 120 (.tmp 10) 0, false, none⟩,
  ⟨some 12, .load 63 (.tmp 11), false, none⟩,
  ⟨some 3, .alloc 63, true, none⟩,
  ⟨none, .store 63 (.tmp 3) (.tmp 12), true, none⟩]) <|
 .seq (.keep [0, 2, 3]) <|
 .seq (.seq (.ops [⟨some 14, .move (.tmp 0), false, none⟩]) <|
 .seq (.ops [⟨some 15, .nilCheck (.tmp 14), false, none⟩]) <|
 .seq (.ops [⟨some 16, .fieldAddr 120 (.tmp 15) 2, false, none⟩]) <|
 .seq (.ops [⟨some 17, .load 35 (.tmp 16), false, none⟩]) <|
 .seq (.ops [⟨some 18, .move (.tmp 0), false, none⟩]) <|
 .seq (.ops [⟨some 19, .nilCheck (.tmp 18), false, none⟩]) <|
 .seq (.ops [⟨some 20, .fieldAddr 120 (.tmp 19) 1, false, none⟩]) <|
 .seq (.ops [⟨some 21, .load 24 (.tmp 20), false, none⟩]) <|
 .seq (.ops [⟨some 22, .fieldAddr 63 (.tmp 3) 0, false, none⟩]) <|
 .seq (.ops [⟨some 23, .load 29 (.tmp 22), false, none⟩]) <|
 .amb (.seq (.ops [⟨some 24, .call ⟨.value (.func 26), #[(.tmp 17), (.tmp 21), (.tmp 23)], #[35, 24, 29]⟩, true, none⟩]) <|
 .seq (.ops [⟨some 13, .move (.tmp 24), false, none⟩]) <|
 .seq (.ops [⟨some 25, .extract (.tmp 13) 0, false, none⟩]) <|
 .seq (.ops [⟨some 26, .extract (.tmp 13) 1, false, none⟩]) <|
 .amb (.seq (.ops [⟨some 4, .alloc 47, true, none⟩]) <|
 .seq (.ops [⟨some 5, .alloc 49, true, none⟩]) <|
 .seq (.ops [⟨none, .store 47 (.tmp 4) (.tmp 25), true, none⟩]) <|
 .seq (.ops [⟨none, .store 49 (.tmp 5) (.tmp 26), true, none⟩]) <|
 .skip) (.seq (.ops [⟨some 5, .alloc 49, true, none⟩]) <|
 .seq (.ops [⟨some 4, .alloc 47, true, none⟩]) <|
 .seq (.ops [⟨none, .store 47 (.tmp 4) (.tmp 25), true, none⟩]) <|
 .seq (.ops [⟨none, .store 49 (.tmp 5) (.tmp 26), true, none⟩]) <|
 .skip)) (.amb (.seq (.ops [⟨some 4, .alloc 47, true, none⟩]) <|
 .amb (.seq (.ops [⟨some 24, .call ⟨.value (.func 26), #[(.tmp 17), (.tmp 21), (.tmp 23)], #[35, 24, 29]⟩, true, none⟩]) <|
 .seq (.ops [⟨some 13, .move (.tmp 24), false, none⟩]) <|
 .seq (.ops [⟨some 25, .extract (.tmp 13) 0, false, none⟩]) <|
 .seq (.ops [⟨some 26, .extract (.tmp 13) 1, false, none⟩]) <|
 .seq (.ops [⟨some 5, .alloc 49, true, none⟩]) <|
 .seq (.ops [⟨none, .store 47 (.tmp 4) (.tmp 25), true, none⟩]) <|
 .seq (.ops [⟨none, .store 49 (.tmp 5) (.tmp 26), true, none⟩]) <|
 .skip) (.seq (.ops [⟨some 5, .alloc 49, true, none⟩]) <|
 .seq (.ops [⟨some 24, .call ⟨.value (.func 26), #[(.tmp 17), (.tmp 21), (.tmp 23)], #[35, 24, 29]⟩, true, none⟩]) <|
 .seq (.ops [⟨some 13, .move (.tmp 24), false, none⟩]) <|
 .seq (.ops [⟨some 25, .extract (.tmp 13) 0, false, none⟩]) <|
 .seq (.ops [⟨some 26, .extract (.tmp 13) 1, false, none⟩]) <|
 .seq (.ops [⟨none, .store 47 (.tmp 4) (.tmp 25), true, none⟩]) <|
 .seq (.ops [⟨none, .store 49 (.tmp 5) (.tmp 26), true, none⟩]) <|
 .skip)) (.seq (.ops [⟨some 5, .alloc 49, true, none⟩]) <|
 .amb (.seq (.ops [⟨some 24, .call ⟨.value (.func 26), #[(.tmp 17), (.tmp 21), (.tmp 23)], #[35, 24, 29]⟩, true, none⟩]) <|
 .seq (.ops [⟨some 13, .move (.tmp 24), false, none⟩]) <|
 .seq (.ops [⟨some 25, .extract (.tmp 13) 0, false, none⟩]) <|
 .seq (.ops [⟨some 26, .extract (.tmp 13) 1, false, none⟩]) <|
 .seq (.ops [⟨some 4, .alloc 47, true, none⟩]) <|
 .seq (.ops [⟨none, .store 47 (.tmp 4) (.tmp 25), true, none⟩]) <|
 .seq (.ops [⟨none, .store 49 (.tmp 5) (.tmp 26), true, none⟩]) <|
 .skip) (.seq (.ops [⟨some 4, .alloc 47, true, none⟩]) <|
 .seq (.ops [⟨some 24, .call ⟨.value (.func 26), #[(.tmp 17), (.tmp 21), (.tmp 23)], #[35, 24, 29]⟩, true, none⟩]) <|
 .seq (.ops [⟨some 13, .move (.tmp 24), false, none⟩]) <|
 .seq (.ops [⟨some 25, .extract (.tmp 13) 0, false, none⟩]) <|
 .seq (.ops [⟨some 26, .extract (.tmp 13) 1, false, none⟩]) <|
 .seq (.ops [⟨none, .store 47 (.tmp 4) (.tmp 25), true, none⟩]) <|
 .seq (.ops [⟨none, .store 49 (.tmp 5) (.tmp 26), true, none⟩]) <|
 .skip)))) <|
 .seq (.keep [0, 2, 3, 4, 5]) <|
 .seq (.seq (.ops [⟨some 27, .fieldAddr 49 (.tmp 5) 0, false, none⟩,
  ⟨some 28, .load 3 (.tmp 27), false, none⟩,
  ⟨some 29, .binOp .eql 3 (.tmp 28) (.const (.int .i64 0)) 3, false, none⟩]) <|
 .seq (.keep [0, 2, 3, 4, 5, 29]) <|
 .cond (.tmp 29) (.ops [⟨some 30, .move (.tmp 0), false, none⟩,
  ⟨some 31, .load 47 (.tmp 4), false, none⟩,
  ⟨some 32, .call ⟨.value (.func 65), #[(.tmp 30), (.tmp 3), (.tmp 31)], #[55, 122, 47]⟩, true, none⟩,
  ⟨none, .store 49 (.tmp 5) (.tmp 32), true, none⟩]) <|
 .skip) <|
 .seq (.keep [0, 2, 3, 5]) <|
 .seq (.seq (.ops [⟨some 33, .fieldAddr 49 (.tmp 5) 0, false, none⟩,
  ⟨some 34, .load 3 (.tmp 33), false, none⟩,
  ⟨some 35, .binOp .neq 3 (.tmp 34) (.const (.int .i64 0)) 3, false, none⟩]) <|
 .seq (.keep [0, 2, 3, 5, 35]) <|
 .cond (.tmp 35) (.seq (.ops [⟨some 36, .move (.tmp 0), false, none⟩,
  ⟨some 37, .build 61 #[], false, none⟩,
  ⟨some 38, .nilCheck (.tmp 36), false, none⟩,
  ⟨some 39, .fieldAddr 120 (.tmp 38) 0, false, none⟩,
  ⟨some 40, .fieldAddr 63 (.tmp 39) 2, false, none⟩,
  ⟨none, .store 61 (.tmp 40) (.tmp 37), true, none⟩]) <|
 .seq (.keep [2, 5]) <|
 .seq (.ops [⟨some 41, .load 49 (.tmp 5), false, none⟩,
  ⟨none, .store 49 (.tmp 2) (.tmp 41), true, none⟩]) <|
 .seq (.keep [2]) <|
 .ret) <|
 .skip) <|
 .seq (.keep [0, 2, 3]) <|
 .seq (.ops [⟨some 42, .move (.tmp 0), false, none⟩,
  ⟨some 43, .load 63 (.tmp 3), false, none⟩,
  ⟨some 44, .nilCheck (.tmp 42), false, none⟩,
  ⟨some 45, .fieldAddr 120 (.tmp 44) 0, false, none⟩,
  ⟨none, .store 63 (.tmp 45) (.tmp 43), true, none⟩]) <|
 .seq (.keep [2]) <|
 .seq (.ops [⟨some 46, .build 49 #[], false, none⟩,
  ⟨none, .store 49 (.tmp 2) (.tmp 46), true, none⟩]) <|
 .seq (.keep [2]) <|
 .ret
theorem c31 : Tryz.f31.body.map (fun c => ((compile Tryz.prog kp31 [] kp31 c).map (·.1), fits Tryz.f31.ntmps c)) = some (some s31, true) := by kernel_rfl
theorem r31 : Tryz.f31.results.toList = [.cell 2 49] := by kernel_rfl
attribute [go_sem] s31
abbrev kp38 : List Nat := [4, 5]
def s38 : SC :=
 .seq (.ops [⟨some 4, .alloc 49, true, none⟩,
  ⟨some 5, .assign (.const (.int .i64 0)), false, none⟩]) <|
 .seq (.keep [0, 1, 4, 5]) <|
 .seq (.seq (.ops [⟨some 7, .move (.tmp 0), false, none⟩,
  ⟨some 8, .binOp .eql 55 (.tmp 7) (.const (.pointer none)) 55, false, none⟩]) <|
 .seq (.keep [0, 1, 4, 5, 8]) <|
 .cond (.tmp 8) (.seq (.ops [⟨some 9, .build 49 #[(0, (.const (.int .i64 3)))], false, none⟩,
  ⟨none, .store 49 (.tmp 4) (.tmp 9), true, none⟩,
  ⟨some 5, .assign (.const (.int .i64 0)), false, none⟩]) <|
 .seq (.keep [4, 5]) <|
 .ret) <|
 .skip) <|
 .seq (.keep [0, 1, 4, 5]) <|
 .seq (.block 0 <| .loop <| .seq (.seq (.seq (.ops [⟨some 10, .move (.tmp 5), false, none⟩,
  ⟨some 11, .move (.tmp 1), false, none⟩,
  ⟨some 12, .binOp .lss 3 (.tmp 10) (.tmp 11) 3, false, none⟩]) <|
 .seq (.keep [0, 1, 4, 5, 12]) <|
 .cond (.tmp 12) (.skip) <|
 .exit 0) <|
 .seq (.keep [0, 1, 4, 5]) <|
 .block 1 <| .seq (.seq (.ops [⟨some 13, .move (.tmp 0), false, none⟩,
  ⟨some 14, .call ⟨.value (.func 31), #[(.tmp 13)], #[55]⟩, true, none⟩,
  ⟨some 6, .alloc 49, true, none⟩,
  ⟨none, .store 49 (.tmp 6) (.tmp 14), true, none⟩]) <|
 .seq (.keep [0, 1, 4, 5, 6]) <|
 .seq (.ops [⟨some 15, .fieldAddr 49 (.tmp 6) 0, false, none⟩,
  ⟨some 16, .load 3 (.tmp 15), false, none⟩,
  ⟨some 17, .binOp .neq 3 (.tmp 16) (.const (.int .i64 0)) 3, false, none⟩]) <|
 .seq (.keep [0, 1, 4, 5, 6, 17]) <|
 .cond (.tmp 17) (.seq (.ops [⟨some 18, .load 49 (.tmp 6), false, none⟩,
  ⟨some 19, .move (.tmp 5), false, none⟩,
  ⟨none, .store 49 (.tmp 4) (.tmp 18), true, none⟩,
  ⟨some 5, .assign (.tmp 19), false, none⟩]) <|
 .seq (.keep [4, 5]) <|
 .ret) <|
 .skip) <|
 .seq (.keep [0, 1, 4, 5]) <|
 .ops [⟨some 20, .move (.tmp 5), false, none⟩,
  ⟨some 21, .binOp .add 3 (.tmp 20) (.const (.int .i64 1)) 3, false, none⟩,
  ⟨some 5, .assign (.tmp 21), false, none⟩]) <|
 .keep [0, 1, 4, 5]) <|
 .seq (.keep [4, 5]) <|
 .seq (.ops [⟨some 22, .build 49 #[(0, (.const (.int .i64 6)))], false, none⟩,
  ⟨some 23, .move (.tmp 5), false, none⟩,
  ⟨none, .store 49 (.tmp 4) (.tmp 22), true, none⟩,
  ⟨some 5, .assign (.tmp 23), false, none⟩]) <|
 .seq (.keep [4, 5]) <|
 .ret
theorem c38 : Tryz.f38.body.map (fun c => ((compile Tryz.prog kp38 [] kp38 c).map (·.1), fits Tryz.f38.ntmps c)) = some (some s38, true) := by kernel_rfl
theorem r38 : Tryz.f38.results.toList = [.cell 4 49, .tmp 5] := by kernel_rfl
attribute [go_sem] s38
abbrev kp39 : List Nat := [0]
def s39 : SC :=
 .seq (.ops [⟨some 0, .assign (.const (.pointer none)), false, none⟩]) <|
 .seq (.keep []) <|
 .seq (.ops [⟨some 1, .build 135 #[], false, none⟩,
  ⟨some 2, .box 135 (.tmp 1), true, none⟩,
  ⟨some 0, .assign (.tmp 2), false, none⟩]) <|
 .seq (.keep [0]) <|
 .ret
theorem c39 : Tryz.f39.body.map (fun c => ((compile Tryz.prog kp39 [] kp39 c).map (·.1), fits Tryz.f39.ntmps c)) = some (some s39, true) := by kernel_rfl
theorem r39 : Tryz.f39.results.toList = [.tmp 0] := by kernel_rfl
attribute [go_sem] s39
abbrev kp40 : List Nat := [0]
def s40 : SC :=
 .seq (.ops [⟨some 0, .assign (.const (.pointer none)), false, none⟩]) <|
 .seq (.keep []) <|
 .seq (.ops [⟨some 1, .makeMap 136 none, true, none⟩,
  ⟨some 2, .makeMap 137 none, true, none⟩,
  ⟨some 3, .build 139 #[(0, (.tmp 1)), (1, (.tmp 2))], false, none⟩,
  ⟨some 4, .box 139 (.tmp 3), true, none⟩,
  ⟨some 0, .assign (.tmp 4), false, none⟩]) <|
 .seq (.keep [0]) <|
 .ret
theorem c40 : Tryz.f40.body.map (fun c => ((compile Tryz.prog kp40 [] kp40 c).map (·.1), fits Tryz.f40.ntmps c)) = some (some s40, true) := by kernel_rfl
theorem r40 : Tryz.f40.results.toList = [.tmp 0] := by kernel_rfl
attribute [go_sem] s40
abbrev kp41 : List Nat := [6, 7]
def s41 : SC :=
 .seq (.ops [⟨some 6, .assign (.const (.int .u64 0)), false, none⟩,
  ⟨some 7, .assign (.const (.bool false)), false, none⟩]) <|
 .seq (.keep [0, 1, 2]) <|
 .seq (.seq (.ops [⟨some 11, .move (.tmp 1), false, none⟩,
  ⟨some 12, .move (.tmp 2), false, none⟩,
  ⟨some 13, .call ⟨.value (.func 42), #[(.tmp 11), (.tmp 12)], #[29, 29]⟩, true, none⟩,
  ⟨some 10, .move (.tmp 13), false, none⟩,
  ⟨some 14, .extract (.tmp 10) 0, false, none⟩,
  ⟨some 15, .extract (.tmp 10) 1, false, none⟩,
  ⟨some 8, .assign (.tmp 14), false, none⟩,
  ⟨some 9, .assign (.tmp 15), false, none⟩]) <|
 .seq (.keep [0, 1, 2, 8, 9]) <|
 .seq (.ops [⟨some 16, .move (.tmp 9), false, none⟩,
  ⟨some 17, .move (.tmp 16), false, none⟩,
  ⟨some 18, .move (.tmp 1), false, some (17, true)⟩,
  ⟨some 19, .binOp .neq 29 (.tmp 18) (.const (.int .u64 0)) 29, false, some (17, true)⟩,
  ⟨some 20, .pick (.tmp 17) (.tmp 19) (.const (.bool false)), false, none⟩,
  ⟨some 21, .move (.tmp 20), false, none⟩,
  ⟨some 22, .move (.tmp 0), false, some (21, true)⟩,
  ⟨some 23, .nilCheck (.tmp 22), false, some (21, true)⟩,
  ⟨some 24, .fieldAddr 84 (.tmp 23) 0, false, some (21, true)⟩,
  ⟨some 25, .load 79 (.tmp 24), false, some (21, true)⟩,
  ⟨some 26, .move (.tmp 1), false, some (21, true)⟩,
  ⟨some 27, .move (.tmp 8), false, some (21, true)⟩,
  ⟨some 28, .call ⟨.value (.func 75), #[(.tmp 25), (.tmp 26), (.tmp 27)], #[79, 29, 29]⟩, true, some (21, true)⟩,
  ⟨some 29, .pick (.tmp 21) (.tmp 28) (.const (.bool false)), false, none⟩]) <|
 .seq (.keep [0, 1, 2, 29]) <|
 .cond (.tmp 29) (.seq (.ops [⟨some 30, .move (.tmp 1), false, none⟩,
  ⟨some 6, .assign (.tmp 30), false, none⟩,
  ⟨some 7, .assign (.const (.bool true)), false, none⟩]) <|
 .seq (.keep [6, 7]) <|
 .ret) <|
 .skip) <|
 .seq (.keep [0, 2]) <|
 .seq (.ops [⟨some 31, .move (.tmp 0), false, none⟩,
  ⟨some 32, .nilCheck (.tmp 31), false, none⟩,
  ⟨some 33, .fieldAddr 84 (.tmp 32) 0, false, none⟩,
  ⟨some 34, .load 79 (.tmp 33), false, none⟩,
  ⟨some 35, .move (.tmp 2), false, none⟩,
  ⟨some 36, .call ⟨.value (.func 76), #[(.tmp 34), (.tmp 35), (.const (.int .u64 274877833216))], #[79, 29, 29]⟩, true, none⟩,
  ⟨some 37, .extract (.tmp 36) 0, false, none⟩,
  ⟨some 38, .extract (.tmp 36) 1, false, none⟩,
  ⟨some 6, .assign (.tmp 37), false, none⟩,
  ⟨some 7, .assign (.tmp 38), false, none⟩]) <|
 .seq (.keep [6, 7]) <|
 .ret
theorem c41 : Tryz.f41.body.map (fun c => ((compile Tryz.prog kp41 [] kp41 c).map (·.1), fits Tryz.f41.ntmps c)) = some (some s41, true) := by kernel_rfl
theorem r41 : Tryz.f41.results.toList = [.tmp 6, .tmp 7] := by kernel_rfl
attribute [go_sem] s41
abbrev kp42 : List Nat := [4, 5]
def s42 : SC :=
 .seq (.ops [⟨some 4, .assign (.const (.int .u64 0)), false, none⟩,
  ⟨some 5, .assign (.const (.bool false)), false, none⟩]) <|
 .seq (.keep [0, 1]) <|
 .seq (.ops [⟨some 7, .move (.tmp 1), false, none⟩,
  ⟨some 8, .call ⟨.value (.func 77), #[(.tmp 7)], #[29]⟩, true, none⟩,
  ⟨some 6, .move (.tmp 8), false, none⟩,
  ⟨some 9, .extract (.tmp 6) 0, false, none⟩,
  ⟨some 10, .extract (.tmp 6) 1, false, none⟩,
  ⟨some 1, .assign (.tmp 9), false, none⟩,
  ⟨some 5, .assign (.tmp 10), false, none⟩]) <|
 .seq (.keep [0, 1, 5]) <|
 .seq (.seq (.ops [⟨some 11, .move (.tmp 5), false, none⟩,
  ⟨some 12, .unOp .not 4 (.tmp 11), false, none⟩,
  ⟨some 13, .move (.tmp 12), false, none⟩,
  ⟨some 14, .move (.tmp 0), false, some (13, false)⟩,
  ⟨some 15, .binOp .rem 29 (.tmp 14) (.const (.int .u64 4096)) 29, false, some (13, false)⟩,
  ⟨some 16, .binOp .neq 29 (.tmp 15) (.const (.int .u64 0)) 29, false, some (13, false)⟩,
  ⟨some 17, .pick (.tmp 13) (.const (.bool true)) (.tmp 16), false, none⟩,
  ⟨some 18, .move (.tmp 17), false, none⟩,
  ⟨some 19, .move (.tmp 0), false, some (18, false)⟩,
  ⟨some 20, .binOp .gtr 29 (.tmp 19) (.const (.int .u64 274877906944)) 29, false, some (18, false)⟩,
  ⟨some 21, .pick (.tmp 18) (.const (.bool true)) (.tmp 20), false, none⟩,
  ⟨some 22, .move (.tmp 21), false, none⟩,
  ⟨some 23, .move (.tmp 1), false, some (22, false)⟩,
  ⟨some 24, .binOp .eql 29 (.tmp 23) (.const (.int .u64 0)) 29, false, some (22, false)⟩,
  ⟨some 25, .pick (.tmp 22) (.const (.bool true)) (.tmp 24), false, none⟩,
  ⟨some 26, .move (.tmp 25), false, none⟩,
  ⟨some 27, .move (.tmp 1), false, some (26, false)⟩,
  ⟨some 28, .move (.tmp 0), false, some (26, false)⟩,
  ⟨some 29, .binOp .sub 29 (.const (.int .u64 274877906944)) (.tmp 28) 29, false, some (26, false)⟩,
  ⟨some 30, .binOp .gtr 29 (.tmp 27) (.tmp 29) 29, false, some (26, false)⟩,
  ⟨some 31, .pick (.tmp 26) (.const (.bool true)) (.tmp 30), false, none⟩]) <|
 .seq (.keep [0, 1, 31]) <|
 .cond (.tmp 31) (.seq (.ops [⟨some 4, .assign (.const (.int .u64 0)), false, none⟩,
  ⟨some 5, .assign (.const (.bool false)), false, none⟩]) <|
 .seq (.keep [4, 5]) <|
 .ret) <|
 .skip) <|
 .seq (.keep [0, 1]) <|
 .seq (.ops [⟨some 32, .move (.tmp 0), false, none⟩,
  ⟨some 33, .move (.tmp 1), false, none⟩,
  ⟨some 34, .binOp .add 29 (.tmp 32) (.tmp 33) 29, false, none⟩,
  ⟨some 4, .assign (.tmp 34), false, none⟩,
  ⟨some 5, .assign (.const (.bool true)), false, none⟩]) <|
 .seq (.keep [4, 5]) <|
 .ret
theorem c42 : Tryz.f42.body.map (fun c => ((compile Tryz.prog kp42 [] kp42 c).map (·.1), fits Tryz.f42.ntmps c)) = some (some s42, true) := by kernel_rfl
theorem r42 : Tryz.f42.results.toList = [.tmp 4, .tmp 5] := by kernel_rfl
attribute [go_sem] s42
abbrev kp43 : List Nat := [8]
def s43 : SC :=
 .seq (.ops [⟨some 8, .assign (.const (.int .i64 0)), false, none⟩]) <|
 .seq (.keep [0, 1, 2, 3]) <|
 .seq (.ops [⟨some 11, .move (.tmp 0), false, none⟩,
  ⟨some 12, .nilCheck (.tmp 11), false, none⟩,
  ⟨some 13, .fieldAddr 84 (.tmp 12) 0, false, none⟩,
  ⟨some 14, .load 79 (.tmp 13), false, none⟩,
  ⟨some 15, .call ⟨.value (.func 78), #[(.tmp 14)], #[79]⟩, true, none⟩,
  ⟨some 9, .assign (.tmp 15), false, none⟩]) <|
 .seq (.keep [0, 1, 2, 3, 9]) <|
 .seq (.seq (.ops [⟨some 16, .move (.tmp 9), false, none⟩,
  ⟨some 17, .move (.tmp 1), false, none⟩,
  ⟨some 18, .move (.tmp 2), false, none⟩,
  ⟨some 19, .move (.tmp 3), false, none⟩,
  ⟨some 20, .call ⟨.value (.func 79), #[(.tmp 16), (.tmp 17), (.tmp 18), (.tmp 19)], #[79, 29, 29, 3]⟩, true, none⟩,
  ⟨some 10, .assign (.tmp 20), false, none⟩]) <|
 .seq (.keep [0, 1, 2, 9, 10]) <|
 .seq (.ops [⟨some 21, .move (.tmp 10), false, none⟩,
  ⟨some 22, .binOp .neq 30 (.tmp 21) (.const (.int .i64 0)) 30, false, none⟩]) <|
 .seq (.keep [0, 1, 2, 9, 10, 22]) <|
 .cond (.tmp 22) (.seq (.ops [⟨some 23, .move (.tmp 10), false, none⟩,
  ⟨some 8, .assign (.tmp 23), false, none⟩]) <|
 .seq (.keep [8]) <|
 .ret) <|
 .skip) <|
 .seq (.keep [0, 1, 2, 9]) <|
 .seq (.seq (.seq (.ops [⟨some 24, .move (.tmp 9), false, none⟩]) <|
 .seq (.ops [⟨some 26, .move (.tmp 0), false, none⟩]) <|
 .seq (.ops [⟨some 27, .nilCheck (.tmp 26), false, none⟩]) <|
 .seq (.ops [⟨some 28, .fieldAddr 84 (.tmp 27) 2, false, none⟩]) <|
 .amb (.seq (.ops [⟨some 25, .call ⟨.value (.func 80), #[(.tmp 24)], #[79]⟩, true, none⟩]) <|
 .seq (.ops [⟨some 29, .load 3 (.tmp 28), false, none⟩]) <|
 .seq (.ops [⟨some 30, .binOp .gtr 3 (.tmp 25) (.tmp 29) 3, false, none⟩]) <|
 .skip) (.seq (.ops [⟨some 29, .load 3 (.tmp 28), false, none⟩]) <|
 .seq (.ops [⟨some 25, .call ⟨.value (.func 80), #[(.tmp 24)], #[79]⟩, true, none⟩]) <|
 .seq (.ops [⟨some 30, .binOp .gtr 3 (.tmp 25) (.tmp 29) 3, false, none⟩]) <|
 .skip)) <|
 .seq (.keep [0, 1, 2, 9, 30]) <|
 .cond (.tmp 30) (.seq (.ops [⟨some 8, .assign (.const (.int .i64 12)), false, none⟩]) <|
 .seq (.keep [8]) <|
 .ret) <|
 .skip) <|
 .seq (.keep [0, 1, 2, 9]) <|
 .seq (.ops [⟨some 31, .move (.tmp 0), false, none⟩,
  ⟨some 32, .move (.tmp 9), false, none⟩,
  ⟨some 33, .nilCheck (.tmp 31), false, none⟩,
  ⟨some 34, .fieldAddr 84 (.tmp 33) 0, false, none⟩,
  ⟨none, .store 79 (.tmp 34) (.tmp 32), true, none⟩]) <|
 .seq (.keep [0, 1, 2]) <|
 .seq (.ops [⟨some 35, .move (.tmp 0), false, none⟩,
  ⟨some 36, .nilCheck (.tmp 35), false, none⟩,
  ⟨some 37, .fieldAddr 84 (.tmp 36) 1, false, none⟩,
  ⟨some 38, .load 81 (.tmp 37), false, none⟩,
  ⟨some 39, .move (.tmp 1), false, none⟩,
  ⟨some 40, .move (.tmp 2), false, none⟩,
  ⟨some 41, .call ⟨.value (.func 56), #[(.tmp 38), (.tmp 39), (.tmp 40)], #[81, 29, 29]⟩, true, none⟩]) <|
 .seq (.keep []) <|
 .seq (.ops [⟨some 8, .assign (.const (.int .i64 0)), false, none⟩]) <|
 .seq (.keep [8]) <|
 .ret
theorem c43 : Tryz.f43.body.map (fun c => ((compile Tryz.prog kp43 [] kp43 c).map (·.1), fits Tryz.f43.ntmps c)) = some (some s43, true) := by kernel_rfl
theorem r43 : Tryz.f43.results.toList = [.tmp 8] := by kernel_rfl
attribute [go_sem] s43
abbrev kp44 : List Nat := [6]
def s44 : SC :=
 .seq (.ops [⟨some 6, .assign (.const (.slice none 0 0)), false, none⟩]) <|
 .seq (.keep [0, 1, 2]) <|
 .seq (.ops [⟨some 7, .assign (.const (.slice none 0 0)), false, none⟩]) <|
 .seq (.keep [0, 1, 2, 7]) <|
 .seq (.seq (.ops [⟨some 8, .assign (.const (.int .i64 0)), false, none⟩]) <|
 .seq (.keep [0, 1, 2, 7, 8]) <|
 .block 0 <| .loop <| .seq (.seq (.seq (.ops [⟨some 10, .move (.tmp 8), false, none⟩,
  ⟨some 11, .move (.tmp 0), false, none⟩,
  ⟨some 12, .nilCheck (.tmp 11), false, none⟩,
  ⟨some 13, .fieldAddr 87 (.tmp 12) 0, false, none⟩,
  ⟨some 14, .load 85 (.tmp 13), false, none⟩,
  ⟨some 15, .call ⟨.builtin .len, #[(.tmp 14)], #[85]⟩, false, none⟩,
  ⟨some 16, .binOp .lss 3 (.tmp 10) (.tmp 15) 3, false, none⟩]) <|
 .seq (.keep [0, 1, 2, 7, 8, 16]) <|
 .cond (.tmp 16) (.skip) <|
 .exit 0) <|
 .seq (.keep [0, 1, 2, 7, 8]) <|
 .seq (.block 1 <| .seq (.ops [⟨some 19, .move (.tmp 0), false, none⟩,
  ⟨some 20, .nilCheck (.tmp 19), false, none⟩,
  ⟨some 21, .fieldAddr 87 (.tmp 20) 0, false, none⟩,
  ⟨some 22, .load 85 (.tmp 21), false, none⟩,
  ⟨some 23, .move (.tmp 8), false, none⟩,
  ⟨some 24, .indexAddr 85 (.tmp 22) (.tmp 23), false, none⟩,
  ⟨some 25, .fieldAddr 92 (.tmp 24) 0, false, none⟩,
  ⟨some 26, .load 29 (.tmp 25), false, none⟩,
  ⟨some 27, .binOp .mul 29 (.tmp 26) (.const (.int .u64 4096)) 29, false, none⟩,
  ⟨some 9, .assign (.tmp 27), false, none⟩]) <|
 .seq (.keep [0, 1, 2, 7, 8, 9]) <|
 .seq (.ops [⟨some 28, .move (.tmp 9), false, none⟩,
  ⟨some 29, .move (.tmp 1), false, none⟩,
  ⟨some 30, .binOp .lss 29 (.tmp 28) (.tmp 29) 29, false, none⟩,
  ⟨some 31, .move (.tmp 30), false, none⟩,
  ⟨some 32, .move (.tmp 9), false, some (31, false)⟩,
  ⟨some 33, .move (.tmp 2), false, some (31, false)⟩,
  ⟨some 34, .binOp .geq 29 (.tmp 32) (.tmp 33) 29, false, some (31, false)⟩,
  ⟨some 35, .pick (.tmp 31) (.const (.bool true)) (.tmp 34), false, none⟩]) <|
 .seq (.keep [0, 1, 2, 7, 8, 35]) <|
 .cond (.tmp 35) (.ops [⟨some 36, .move (.tmp 7), false, none⟩,
  ⟨some 37, .move (.tmp 0), false, none⟩,
  ⟨some 38, .nilCheck (.tmp 37), false, none⟩,
  ⟨some 39, .fieldAddr 87 (.tmp 38) 0, false, none⟩,
  ⟨some 40, .load 85 (.tmp 39), false, none⟩,
  ⟨some 41, .move (.tmp 8), false, none⟩,
  ⟨some 42, .indexAddr 85 (.tmp 40) (.tmp 41), false, none⟩,
  ⟨some 43, .load 92 (.tmp 42), false, none⟩,
  ⟨some 44, .buildSlice 85 1 #[(0, (.tmp 43))], true, none⟩,
  ⟨some 45, .call ⟨.builtin .append, #[(.tmp 36), (.tmp 44)], #[85, 85]⟩, true, none⟩,
  ⟨some 7, .assign (.tmp 45), false, none⟩]) <|
 .skip) <|
 .seq (.keep [0, 1, 2, 7, 8]) <|
 .ops [⟨some 17, .move (.tmp 8), false, none⟩,
  ⟨some 18, .binOp .add 3 (.tmp 17) (.const (.int .i64 1)) 3, false, none⟩,
  ⟨some 8, .assign (.tmp 18), false, none⟩]) <|
 .keep [0, 1, 2, 7, 8]) <|
 .seq (.keep [7]) <|
 .seq (.ops [⟨some 46, .move (.tmp 7), false, none⟩,
  ⟨some 6, .assign (.tmp 46), false, none⟩]) <|
 .seq (.keep [6]) <|
 .ret
theorem c44 : Tryz.f44.body.map (fun c => ((compile Tryz.prog kp44 [] kp44 c).map (·.1), fits Tryz.f44.ntmps c)) = some (some s44, true) := by kernel_rfl
theorem r44 : Tryz.f44.results.toList = [.tmp 6] := by kernel_rfl
attribute [go_sem] s44
abbrev kp45 : List Nat := [2]
def s45 : SC :=
 .seq (.ops [⟨some 2, .assign (.const (.slice none 0 0)), false, none⟩]) <|
 .seq (.keep [0]) <|
 .seq (.ops [⟨some 3, .assign (.const (.slice none 0 0)), false, none⟩]) <|
 .seq (.keep [0, 3]) <|
 .seq (.seq (.ops [⟨some 4, .assign (.const (.int .i64 0)), false, none⟩]) <|
 .seq (.keep [0, 3, 4]) <|
 .block 0 <| .loop <| .seq (.seq (.seq (.ops [⟨some 7, .move (.tmp 4), false, none⟩,
  ⟨some 8, .move (.tmp 0), false, none⟩,
  ⟨some 9, .call ⟨.builtin .len, #[(.tmp 8)], #[85]⟩, false, none⟩,
  ⟨some 10, .binOp .lss 3 (.tmp 7) (.tmp 9) 3, false, none⟩]) <|
 .seq (.keep [0, 3, 4, 10]) <|
 .cond (.tmp 10) (.skip) <|
 .exit 0) <|
 .seq (.keep [0, 3, 4]) <|
 .seq (.block 1 <| .seq (.ops [⟨some 13, .move (.tmp 3), false, none⟩,
  ⟨some 14, .call ⟨.builtin .len, #[(.tmp 13)], #[93]⟩, false, none⟩,
  ⟨some 5, .assign (.tmp 14), false, none⟩]) <|
 .seq (.keep [0, 3, 4, 5]) <|
 .seq (.ops [⟨some 15, .move (.tmp 0), false, none⟩,
  ⟨some 16, .move (.tmp 4), false, none⟩,
  ⟨some 17, .indexAddr 85 (.tmp 15) (.tmp 16), false, none⟩,
  ⟨some 18, .fieldAddr 92 (.tmp 17) 0, false, none⟩,
  ⟨some 19, .load 29 (.tmp 18), false, none⟩,
  ⟨some 20, .binOp .mul 29 (.tmp 19) (.const (.int .u64 4096)) 29, false, none⟩,
  ⟨some 6, .assign (.tmp 20), false, none⟩]) <|
 .seq (.keep [0, 3, 4, 5, 6]) <|
 .seq (.seq (.ops [⟨some 21, .move (.tmp 5), false, none⟩]) <|
 .seq (.ops [⟨some 22, .binOp .gtr 3 (.tmp 21) (.const (.int .i64 0)) 3, false, none⟩]) <|
 .seq (.ops [⟨some 23, .move (.tmp 22), false, none⟩]) <|
 .seq (.ops [⟨some 24, .move (.tmp 3), false, some (23, true)⟩]) <|
 .seq (.ops [⟨some 25, .move (.tmp 5), false, some (23, true)⟩]) <|
 .seq (.ops [⟨some 26, .binOp .sub 3 (.tmp 25) (.const (.int .i64 1)) 3, false, some (23, true)⟩]) <|
 .seq (.ops [⟨some 27, .indexAddr 93 (.tmp 24) (.tmp 26), false, some (23, true)⟩]) <|
 .seq (.ops [⟨some 28, .fieldAddr 96 (.tmp 27) 1, false, some (23, true)⟩]) <|
 .seq (.ops [⟨some 29, .load 29 (.tmp 28), false, some (23, true)⟩]) <|
 .seq (.ops [⟨some 30, .move (.tmp 6), false, some (23, true)⟩]) <|
 .seq (.ops [⟨some 31, .binOp .eql 29 (.tmp 29) (.tmp 30) 29, false, some (23, true)⟩]) <|
 .seq (.ops [⟨some 32, .pick (.tmp 23) (.tmp 31) (.const (.bool false)), false, none⟩]) <|
 .seq (.ops [⟨some 33, .move (.tmp 32), false, none⟩]) <|
 .seq (.ops [⟨some 34, .move (.tmp 3), false, some (33, true)⟩]) <|
 .seq (.ops [⟨some 35, .move (.tmp 5), false, some (33, true)⟩]) <|
 .seq (.ops [⟨some 36, .binOp .sub 3 (.tmp 35) (.const (.int .i64 1)) 3, false, some (33, true)⟩]) <|
 .seq (.ops [⟨some 37, .indexAddr 93 (.tmp 34) (.tmp 36), false, some (33, true)⟩]) <|
 .seq (.ops [⟨some 38, .fieldAddr 96 (.tmp 37) 2, false, some (33, true)⟩]) <|
 .seq (.ops [⟨some 39, .load 3 (.tmp 38), false, some (33, true)⟩]) <|
 .seq (.ops [⟨some 40, .move (.tmp 0), false, some (33, true)⟩]) <|
 .seq (.ops [⟨some 41, .move (.tmp 4), false, some (33, true)⟩]) <|
 .seq (.ops [⟨some 42, .indexAddr 85 (.tmp 40) (.tmp 41), false, some (33, true)⟩]) <|
 .seq (.ops [⟨some 43, .fieldAddr 92 (.tmp 42) 1, false, some (33, true)⟩]) <|
 .seq (.ops [⟨some 44, .load 3 (.tmp 43), false, some (33, true)⟩]) <|
 .seq (.ops [⟨some 45, .binOp .eql 3 (.tmp 39) (.tmp 44) 3, false, some (33, true)⟩]) <|
 .seq (.ops [⟨some 46, .pick (.tmp 33) (.tmp 45) (.const (.bool false)), false, none⟩]) <|
 .skip) <|
 .seq (.keep [0, 3, 4, 5, 6, 46]) <|
 .cond (.tmp 46) (.ops [⟨some 47, .move (.tmp 3), false, none⟩,
  ⟨some 48, .move (.tmp 5), false, none⟩,
  ⟨some 49, .binOp .sub 3 (.tmp 48) (.const (.int .i64 1)) 3, false, none⟩,
  ⟨some 50, .move (.tmp 6), false, none⟩,
  ⟨some 51, .binOp .add 29 (.tmp 50) (.const (.int .u64 4096)) 29, false, none⟩,
  ⟨some 52, .indexAddr 93 (.tmp 47) (.tmp 49), false, none⟩,
  ⟨some 53, .fieldAddr 96 (.tmp 52) 1, false, none⟩,
  ⟨none, .store 29 (.tmp 53) (.tmp 51), true, none⟩]) <|
 .ops [⟨some 54, .move (.tmp 3), false, none⟩,
  ⟨some 55, .move (.tmp 6), false, none⟩,
  ⟨some 56, .move (.tmp 6), false, none⟩,
  ⟨some 57, .binOp .add 29 (.tmp 56) (.const (.int .u64 4096)) 29, false, none⟩,
  ⟨some 58, .move (.tmp 0), false, none⟩,
  ⟨some 59, .move (.tmp 4), false, none⟩,
  ⟨some 60, .indexAddr 85 (.tmp 58) (.tmp 59), false, none⟩,
  ⟨some 61, .fieldAddr 92 (.tmp 60) 1, false, none⟩,
  ⟨some 62, .load 3 (.tmp 61), false, none⟩,
  ⟨some 63, .build 96 #[(0, (.tmp 55)), (1, (.tmp 57)), (2, (.tmp 62))], false, none⟩,
  ⟨some 64, .buildSlice 93 1 #[(0, (.tmp 63))], true, none⟩,
  ⟨some 65, .call ⟨.builtin .append, #[(.tmp 54), (.tmp 64)], #[93, 93]⟩, true, none⟩,
  ⟨some 3, .assign (.tmp 65), false, none⟩]) <|
 .seq (.keep [0, 3, 4]) <|
 .ops [⟨some 11, .move (.tmp 4), false, none⟩,
  ⟨some 12, .binOp .add 3 (.tmp 11) (.const (.int .i64 1)) 3, false, none⟩,
  ⟨some 4, .assign (.tmp 12), false, none⟩]) <|
 .keep [0, 3, 4]) <|
 .seq (.keep [3]) <|
 .seq (.ops [⟨some 66, .move (.tmp 3), false, none⟩,
  ⟨some 2, .assign (.tmp 66), false, none⟩]) <|
 .seq (.keep [2]) <|
 .ret
theorem c45 : Tryz.f45.body.map (fun c => ((compile Tryz.prog kp45 [] kp45 c).map (·.1), fits Tryz.f45.ntmps c)) = some (some s45, true) := by kernel_rfl
theorem r45 : Tryz.f45.results.toList = [.tmp 2] := by kernel_rfl
attribute [go_sem] s45
abbrev kp46 : List Nat := [4, 5]
def s46 : SC :=
 .seq (.ops [⟨some 3, .box 29 (.tmp 1), true, none⟩,
  ⟨some 4, .alloc 96, true, none⟩,
  ⟨some 5, .assign (.const (.bool false)), false, none⟩]) <|
 .seq (.keep [0, 3, 4]) <|
 .seq (.seq (.ops [⟨some 7, .move (.tmp 0), false, none⟩,
  ⟨some 8, .binOp .eql 79 (.tmp 7) (.const (.pointer none)) 79, false, none⟩]) <|
 .seq (.keep [0, 3, 4, 8]) <|
 .cond (.tmp 8) (.seq (.ops [⟨some 9, .build 96 #[], false, none⟩,
  ⟨none, .store 96 (.tmp 4) (.tmp 9), true, none⟩,
  ⟨some 5, .assign (.const (.bool false)), false, none⟩]) <|
 .seq (.keep [4, 5]) <|
 .ret) <|
 .skip) <|
 .seq (.keep [0, 3, 4]) <|
 .seq (.ops [⟨some 10, .move (.tmp 0), false, none⟩,
  ⟨some 11, .nilCheck (.tmp 10), false, none⟩,
  ⟨some 12, .fieldAddr 135 (.tmp 11) 0, false, none⟩,
  ⟨some 13, .load 93 (.tmp 12), false, none⟩,
  ⟨some 14, .makeFunc (.func 82) #[] #[(.tmp 3)], false, none⟩,
  ⟨some 15, .call ⟨.value (.func 81), #[(.tmp 13), (.tmp 14)], #[93, 142]⟩, true, none⟩,
  ⟨some 6, .assign (.tmp 15), false, none⟩]) <|
 .seq (.keep [0, 4, 6]) <|
 .seq (.seq (.ops [⟨some 16, .move (.tmp 6), false, none⟩,
  ⟨some 17, .binOp .lss 3 (.tmp 16) (.const (.int .i64 0)) 3, false, none⟩]) <|
 .seq (.keep [0, 4, 6, 17]) <|
 .cond (.tmp 17) (.seq (.ops [⟨some 18, .build 96 #[], false, none⟩,
  ⟨none, .store 96 (.tmp 4) (.tmp 18), true, none⟩,
  ⟨some 5, .assign (.const (.bool false)), false, none⟩]) <|
 .seq (.keep [4, 5]) <|
 .ret) <|
 .skip) <|
 .seq (.keep [0, 4, 6]) <|
 .seq (.ops [⟨some 19, .move (.tmp 0), false, none⟩,
  ⟨some 20, .nilCheck (.tmp 19), false, none⟩,
  ⟨some 21, .fieldAddr 135 (.tmp 20) 0, false, none⟩,
  ⟨some 22, .load 93 (.tmp 21), false, none⟩,
  ⟨some 23, .move (.tmp 6), false, none⟩,
  ⟨some 24, .indexAddr 93 (.tmp 22) (.tmp 23), false, none⟩,
  ⟨some 25, .load 96 (.tmp 24), false, none⟩,
  ⟨none, .store 96 (.tmp 4) (.tmp 25), true, none⟩,
  ⟨some 5, .assign (.const (.bool true)), false, none⟩]) <|
 .seq (.keep [4, 5]) <|
 .ret
theorem c46 : Tryz.f46.body.map (fun c => ((compile Tryz.prog kp46 [] kp46 c).map (·.1), fits Tryz.f46.ntmps c)) = some (some s46, true) := by kernel_rfl
theorem r46 : Tryz.f46.results.toList = [.cell 4 96, .tmp 5] := by kernel_rfl
attribute [go_sem] s46
abbrev kp47 : List Nat := []
def s47 : SC :=
 .seq (.seq (.ops [⟨some 11, .move (.tmp 0), false, none⟩,
  ⟨some 12, .binOp .eql 81 (.tmp 11) (.const (.pointer none)) 81, false, none⟩,
  ⟨some 13, .move (.tmp 12), false, none⟩,
  ⟨some 14, .move (.tmp 2), false, some (13, false)⟩,
  ⟨some 15, .call ⟨.builtin .len, #[(.tmp 14)], #[22]⟩, false, some (13, false)⟩,
  ⟨some 16, .binOp .gtr 3 (.tmp 15) (.const (.int .i64 4194304)) 3, false, some (13, false)⟩,
  ⟨some 17, .pick (.tmp 13) (.const (.bool true)) (.tmp 16), false, none⟩]) <|
 .seq (.keep [0, 1, 2, 17]) <|
 .cond (.tmp 17) (.ret) <|
 .skip) <|
 .seq (.keep [0, 1, 2]) <|
 .block 0 <| .loop <| .seq (.seq (.seq (.ops [⟨some 18, .move (.tmp 2), false, none⟩,
  ⟨some 19, .call ⟨.builtin .len, #[(.tmp 18)], #[22]⟩, false, none⟩,
  ⟨some 20, .binOp .gtr 3 (.tmp 19) (.const (.int .i64 0)) 3, false, none⟩,
  ⟨some 21, .move (.tmp 20), false, none⟩,
  ⟨some 22, .move (.tmp 1), false, some (21, true)⟩,
  ⟨some 23, .binOp .lss 29 (.tmp 22) (.const (.int .u64 274877906944)) 29, false, some (21, true)⟩,
  ⟨some 24, .pick (.tmp 21) (.tmp 23) (.const (.bool false)), false, none⟩]) <|
 .seq (.keep [0, 1, 2, 24]) <|
 .cond (.tmp 24) (.skip) <|
 .exit 0) <|
 .seq (.keep [0, 1, 2]) <|
 .block 1 <| .seq (.ops [⟨some 26, .move (.tmp 1), false, none⟩,
  ⟨some 27, .move (.tmp 2), false, none⟩,
  ⟨some 28, .call ⟨.builtin .len, #[(.tmp 27)], #[22]⟩, false, none⟩,
  ⟨some 29, .call ⟨.value (.func 83), #[(.tmp 26), (.tmp 28)], #[29, 3]⟩, true, none⟩,
  ⟨some 25, .move (.tmp 29), false, none⟩,
  ⟨some 30, .extract (.tmp 25) 0, false, none⟩,
  ⟨some 31, .extract (.tmp 25) 1, false, none⟩,
  ⟨some 6, .assign (.tmp 30), false, none⟩,
  ⟨some 7, .assign (.tmp 31), false, none⟩]) <|
 .seq (.keep [0, 1, 2, 6, 7]) <|
 .seq (.ops [⟨some 32, .move (.tmp 1), false, none⟩,
  ⟨some 33, .binOp .quo 29 (.tmp 32) (.const (.int .u64 4096)) 29, false, none⟩,
  ⟨some 8, .assign (.tmp 33), false, none⟩]) <|
 .seq (.keep [0, 1, 2, 6, 7, 8]) <|
 .seq (.ops [⟨some 35, .move (.tmp 0), false, none⟩,
  ⟨some 36, .nilCheck (.tmp 35), false, none⟩,
  ⟨some 37, .fieldAddr 139 (.tmp 36) 0, false, none⟩,
  ⟨some 38, .load 136 (.tmp 37), false, none⟩,
  ⟨some 39, .move (.tmp 8), false, none⟩,
  ⟨some 40, .lookup 136 (.tmp 38) (.tmp 39) true, false, none⟩,
  ⟨some 34, .move (.tmp 40), false, none⟩,
  ⟨some 41, .extract (.tmp 34) 0, false, none⟩,
  ⟨some 42, .extract (.tmp 34) 1, false, none⟩,
  ⟨some 9, .assign (.tmp 41), false, none⟩,
  ⟨some 10, .assign (.tmp 42), false, none⟩]) <|
 .seq (.keep [0, 1, 2, 6, 7, 8, 9, 10]) <|
 .seq (.seq (.ops [⟨some 43, .move (.tmp 10), false, none⟩,
  ⟨some 44, .unOp .not 4 (.tmp 43), false, none⟩]) <|
 .seq (.keep [0, 1, 2, 6, 7, 8, 9, 44]) <|
 .cond (.tmp 44) (.seq (.ops [⟨some 45, .build 148 #[], false, none⟩,
  ⟨some 46, .box 148 (.tmp 45), true, none⟩,
  ⟨some 9, .assign (.tmp 46), false, none⟩]) <|
 .seq (.keep [0, 1, 2, 6, 7, 8, 9]) <|
 .ops [⟨some 47, .move (.tmp 0), false, none⟩,
  ⟨some 48, .nilCheck (.tmp 47), false, none⟩,
  ⟨some 49, .fieldAddr 139 (.tmp 48) 0, false, none⟩,
  ⟨some 50, .load 136 (.tmp 49), false, none⟩,
  ⟨some 51, .move (.tmp 8), false, none⟩,
  ⟨some 52, .move (.tmp 9), false, none⟩,
  ⟨none, .mapUpdate 136 (.tmp 50) (.tmp 51) (.tmp 52), true, none⟩]) <|
 .skip) <|
 .seq (.keep [0, 1, 2, 6, 7, 8, 9]) <|
 .seq (.seq (.ops [⟨some 53, .move (.tmp 9), false, none⟩]) <|
 .seq (.ops [⟨some 54, .nilCheck (.tmp 53), false, none⟩]) <|
 .seq (.ops [⟨some 55, .move (.tmp 6), false, none⟩]) <|
 .seq (.ops [⟨some 56, .slice 148 (.tmp 54) (some (.tmp 55)) none none, false, none⟩]) <|
 .seq (.ops [⟨some 57, .move (.tmp 2), false, none⟩]) <|
 .seq (.ops [⟨some 58, .move (.tmp 7), false, none⟩]) <|
 .seq (.ops [⟨some 59, .slice 22 (.tmp 57) none (some (.tmp 58)) none, false, none⟩]) <|
 .seq (.ops [⟨some 60, .call ⟨.builtin .copy, #[(.tmp 56), (.tmp 59)], #[22, 22]⟩, true, none⟩]) <|
 .skip) <|
 .seq (.keep [0, 1, 2, 7, 8]) <|
 .seq (.ops [⟨some 61, .move (.tmp 0), false, none⟩,
  ⟨some 62, .move (.tmp 8), false, none⟩,
  ⟨some 63, .call ⟨.value (.func 84), #[(.tmp 61), (.tmp 62)], #[81, 29]⟩, true, none⟩]) <|
 .seq (.keep [0, 1, 2, 7]) <|
 .seq (.ops [⟨some 64, .move (.tmp 2), false, none⟩,
  ⟨some 65, .move (.tmp 7), false, none⟩,
  ⟨some 66, .slice 22 (.tmp 64) (some (.tmp 65)) none none, false, none⟩,
  ⟨some 2, .assign (.tmp 66), false, none⟩]) <|
 .seq (.keep [0, 1, 2, 7]) <|
 .ops [⟨some 67, .move (.tmp 1), false, none⟩,
  ⟨some 68, .move (.tmp 7), false, none⟩,
  ⟨some 69, .convert 3 29 (.tmp 68), false, none⟩,
  ⟨some 70, .binOp .add 29 (.tmp 67) (.tmp 69) 29, false, none⟩,
  ⟨some 1, .assign (.tmp 70), false, none⟩]) <|
 .keep [0, 1, 2]
theorem c47 : Tryz.f47.body.map (fun c => ((compile Tryz.prog kp47 [] kp47 c).map (·.1), fits Tryz.f47.ntmps c)) = some (some s47, true) := by kernel_rfl
theorem r47 : Tryz.f47.results.toList = [] := by kernel_rfl
attribute [go_sem] s47
abbrev kp48 : List Nat := []
def s48 : SC :=
 .seq (.ops [⟨some 9, .move (.tmp 0), false, none⟩,
  ⟨some 10, .move (.tmp 1), false, none⟩,
  ⟨some 11, .binOp .quo 29 (.tmp 10) (.const (.int .u64 4096)) 29, false, none⟩,
  ⟨some 12, .call ⟨.value (.func 85), #[(.tmp 9), (.tmp 11)], #[26, 29]⟩, true, none⟩,
  ⟨some 8, .move (.tmp 12), false, none⟩,
  ⟨some 13, .extract (.tmp 8) 0, false, none⟩,
  ⟨some 14, .extract (.tmp 8) 1, false, none⟩,
  ⟨some 6, .assign (.tmp 13), false, none⟩,
  ⟨some 7, .assign (.tmp 14), false, none⟩]) <|
 .seq (.keep [0, 1, 2, 6, 7]) <|
 .seq (.ops [⟨some 15, .move (.tmp 7), false, none⟩]) <|
 .seq (.keep [0, 1, 2, 6, 15]) <|
 .cond (.tmp 15) (.ops [⟨some 16, .move (.tmp 0), false, none⟩,
  ⟨some 17, .nilCheck (.tmp 16), false, none⟩,
  ⟨some 18, .fieldAddr 87 (.tmp 17) 0, false, none⟩,
  ⟨some 19, .load 85 (.tmp 18), false, none⟩,
  ⟨some 20, .move (.tmp 6), false, none⟩,
  ⟨some 21, .indexAddr 85 (.tmp 19) (.tmp 20), false, none⟩,
  ⟨some 22, .fieldAddr 92 (.tmp 21) 2, false, none⟩,
  ⟨some 23, .load 22 (.tmp 22), false, none⟩,
  ⟨some 24, .move (.tmp 1), false, none⟩,
  ⟨some 25, .binOp .rem 29 (.tmp 24) (.const (.int .u64 4096)) 29, false, none⟩,
  ⟨some 26, .move (.tmp 2), false, none⟩,
  ⟨some 27, .indexAddr 22 (.tmp 23) (.tmp 25), false, none⟩,
  ⟨none, .store 5 (.tmp 27) (.tmp 26), true, none⟩]) <|
 .skip
theorem c48 : Tryz.f48.body.map (fun c => ((compile Tryz.prog kp48 [] kp48 c).map (·.1), fits Tryz.f48.ntmps c)) = some (some s48, true) := by kernel_rfl
theorem r48 : Tryz.f48.results.toList = [] := by kernel_rfl
attribute [go_sem] s48
abbrev kp49 : List Nat := [6]
def s49 : SC :=
 .seq (.ops [⟨some 6, .alloc 41, true, none⟩]) <|
 .seq (.keep [0, 1, 2, 6]) <|
 .seq (.seq (.ops [⟨some 9, .move (.tmp 0), false, none⟩,
  ⟨some 10, .binOp .eql 24 (.tmp 9) (.const (.pointer none)) 24, false, none⟩,
  ⟨some 11, .move (.tmp 10), false, none⟩,
  ⟨some 12, .move (.tmp 2), false, some (11, false)⟩,
  ⟨some 13, .call ⟨.value (.func 86), #[(.tmp 12)], #[3]⟩, true, some (11, false)⟩,
  ⟨some 14, .unOp .not 4 (.tmp 13), false, some (11, false)⟩,
  ⟨some 15, .pick (.tmp 11) (.const (.bool true)) (.tmp 14), false, none⟩]) <|
 .seq (.keep [0, 1, 2, 6, 15]) <|
 .cond (.tmp 15) (.seq (.ops [⟨some 16, .move (.tmp 1), false, none⟩,
  ⟨some 17, .build 41 #[(0, (.const (.int .i64 2))), (1, (.tmp 16))], false, none⟩,
  ⟨none, .store 41 (.tmp 6) (.tmp 17), true, none⟩]) <|
 .seq (.keep [6]) <|
 .ret) <|
 .skip) <|
 .seq (.keep [0, 1, 2, 6]) <|
 .seq (.seq (.ops [⟨some 19, .move (.tmp 0), false, none⟩,
  ⟨some 20, .move (.tmp 1), false, none⟩,
  ⟨some 21, .move (.tmp 2), false, none⟩,
  ⟨some 22, .call ⟨.value (.func 87), #[(.tmp 19), (.tmp 20), (.tmp 21), (.const (.int .i64 2))], #[24, 29, 3, 3]⟩, true, none⟩,
  ⟨some 18, .move (.tmp 22), false, none⟩,
  ⟨some 23, .extract (.tmp 18) 0, false, none⟩,
  ⟨some 24, .extract (.tmp 18) 1, false, none⟩,
  ⟨some 7, .assign (.tmp 23), false, none⟩,
  ⟨some 8, .assign (.tmp 24), false, none⟩]) <|
 .seq (.keep [6, 7, 8]) <|
 .seq (.ops [⟨some 25, .move (.tmp 8), false, none⟩]) <|
 .seq (.keep [6, 7, 25]) <|
 .cond (.tmp 25) (.seq (.ops [⟨some 26, .move (.tmp 7), false, none⟩,
  ⟨some 27, .build 41 #[(0, (.const (.int .i64 2))), (1, (.tmp 26))], false, none⟩,
  ⟨none, .store 41 (.tmp 6) (.tmp 27), true, none⟩]) <|
 .seq (.keep [6]) <|
 .ret) <|
 .skip) <|
 .seq (.keep [6]) <|
 .seq (.ops [⟨some 28, .build 41 #[], false, none⟩,
  ⟨none, .store 41 (.tmp 6) (.tmp 28), true, none⟩]) <|
 .seq (.keep [6]) <|
 .ret
theorem c49 : Tryz.f49.body.map (fun c => ((compile Tryz.prog kp49 [] kp49 c).map (·.1), fits Tryz.f49.ntmps c)) = some (some s49, true) := by kernel_rfl
theorem r49 : Tryz.f49.results.toList = [.cell 6 41] := by kernel_rfl
attribute [go_sem] s49
abbrev kp50 : List Nat := [6]
def s50 : SC :=
 .seq (.ops [⟨some 6, .assign (.const (.slice none 0 0)), false, none⟩]) <|
 .seq (.keep [0, 1, 2]) <|
 .seq (.ops [⟨some 8, .buildSlice 22 0 #[], true, none⟩,
  ⟨some 9, .move (.tmp 0), false, none⟩,
  ⟨some 10, .call ⟨.builtin .append, #[(.tmp 8), (.tmp 9)], #[22, 22]⟩, true, none⟩,
  ⟨some 7, .assign (.tmp 10), false, none⟩]) <|
 .seq (.keep [1, 2, 7]) <|
 .seq (.seq (.ops [⟨some 11, .move (.tmp 2), false, none⟩,
  ⟨some 12, .binOp .lss 3 (.tmp 11) (.const (.int .i64 1)) 3, false, none⟩,
  ⟨some 13, .move (.tmp 12), false, none⟩,
  ⟨some 14, .move (.tmp 2), false, some (13, false)⟩,
  ⟨some 15, .binOp .gtr 3 (.tmp 14) (.const (.int .i64 8)) 3, false, some (13, false)⟩,
  ⟨some 16, .pick (.tmp 13) (.const (.bool true)) (.tmp 15), false, none⟩]) <|
 .seq (.keep [1, 2, 7, 16]) <|
 .cond (.tmp 16) (.seq (.ops [⟨some 17, .move (.tmp 7), false, none⟩,
  ⟨some 6, .assign (.tmp 17), false, none⟩]) <|
 .seq (.keep [6]) <|
 .ret) <|
 .skip) <|
 .seq (.keep [1, 2, 7]) <|
 .seq (.seq (.ops [⟨some 18, .move (.tmp 2), false, none⟩,
  ⟨some 19, .move (.const (.int .i64 0)), false, none⟩]) <|
 .seq (.keep [1, 7, 18, 19]) <|
 .block 0 <| .loop <| .seq (.seq (.ops [⟨some 20, .binOp .lss 3 (.tmp 19) (.tmp 18) 3, false, none⟩]) <|
 .seq (.keep [1, 7, 18, 19, 20]) <|
 .seq (.cond (.tmp 20) (.skip) <|
 .exit 0) <|
 .seq (.keep [1, 7, 18, 19]) <|
 .seq (.block 1 <| .seq (.ops [⟨some 21, .move (.tmp 7), false, none⟩,
  ⟨some 22, .move (.tmp 1), false, none⟩,
  ⟨some 23, .convert 29 5 (.tmp 22), false, none⟩,
  ⟨some 24, .buildSlice 22 1 #[(0, (.tmp 23))], true, none⟩,
  ⟨some 25, .call ⟨.builtin .append, #[(.tmp 21), (.tmp 24)], #[22, 22]⟩, true, none⟩,
  ⟨some 7, .assign (.tmp 25), false, none⟩]) <|
 .seq (.keep [1, 7, 18, 19]) <|
 .ops [⟨some 26, .move (.tmp 1), false, none⟩,
  ⟨some 27, .binOp .shr 29 (.tmp 26) (.const (.int .u64 8)) 44, false, none⟩,
  ⟨some 1, .assign (.tmp 27), false, none⟩]) <|
 .seq (.keep [1, 7, 18, 19]) <|
 .ops [⟨some 28, .binOp .add 3 (.tmp 19) (.const (.int .i64 1)) 3, false, none⟩,
  ⟨some 19, .move (.tmp 28), false, none⟩]) <|
 .keep [1, 7, 18, 19]) <|
 .seq (.keep [7]) <|
 .seq (.ops [⟨some 29, .move (.tmp 7), false, none⟩,
  ⟨some 6, .assign (.tmp 29), false, none⟩]) <|
 .seq (.keep [6]) <|
 .ret
theorem c50 : Tryz.f50.body.map (fun c => ((compile Tryz.prog kp50 [] kp50 c).map (·.1), fits Tryz.f50.ntmps c)) = some (some s50, true) := by kernel_rfl
theorem r50 : Tryz.f50.results.toList = [.tmp 6] := by kernel_rfl
attribute [go_sem] s50
abbrev kp53 : List Nat := []
def s53 : SC :=
 .seq (.ops [⟨some 7, .move (.tmp 2), false, none⟩,
  ⟨some 8, .call ⟨.builtin .min, #[(.tmp 7), (.const (.int .u64 274877906944))], #[29, 29]⟩, false, none⟩,
  ⟨some 2, .assign (.tmp 8), false, none⟩]) <|
 .seq (.keep [0, 1, 2]) <|
 .seq (.seq (.ops [⟨some 9, .move (.tmp 0), false, none⟩,
  ⟨some 10, .binOp .eql 81 (.tmp 9) (.const (.pointer none)) 81, false, none⟩,
  ⟨some 11, .move (.tmp 10), false, none⟩,
  ⟨some 12, .move (.tmp 2), false, some (11, false)⟩,
  ⟨some 13, .move (.tmp 1), false, some (11, false)⟩,
  ⟨some 14, .binOp .leq 29 (.tmp 12) (.tmp 13) 29, false, some (11, false)⟩,
  ⟨some 15, .pick (.tmp 11) (.const (.bool true)) (.tmp 14), false, none⟩]) <|
 .seq (.keep [0, 1, 2, 15]) <|
 .cond (.tmp 15) (.ret) <|
 .skip) <|
 .seq (.keep [0, 1, 2]) <|
 .seq (.seq (.ops [⟨some 16, .move (.tmp 1), false, none⟩,
  ⟨some 17, .move (.tmp 2), false, none⟩,
  ⟨some 18, .call ⟨.value (.func 95), #[(.tmp 16), (.tmp 17)], #[29, 29]⟩, true, none⟩]) <|
 .seq (.keep [0, 1, 2, 18]) <|
 .cond (.tmp 18) (.seq (.ops [⟨some 19, .move (.tmp 0), false, none⟩,
  ⟨some 20, .nilCheck (.tmp 19), false, none⟩,
  ⟨some 21, .fieldAddr 139 (.tmp 20) 2, false, none⟩,
  ⟨some 22, .load 29 (.tmp 21), false, none⟩,
  ⟨some 23, .binOp .add 29 (.tmp 22) (.const (.int .u64 1)) 29, false, none⟩,
  ⟨some 24, .nilCheck (.tmp 19), false, none⟩,
  ⟨some 25, .fieldAddr 139 (.tmp 24) 2, false, none⟩,
  ⟨none, .store 29 (.tmp 25) (.tmp 23), true, none⟩]) <|
 .seq (.keep [0]) <|
 .seq (.ops [⟨some 26, .move (.tmp 0), false, none⟩,
  ⟨some 27, .move (.tmp 0), false, none⟩,
  ⟨some 28, .nilCheck (.tmp 27), false, none⟩,
  ⟨some 29, .fieldAddr 139 (.tmp 28) 2, false, none⟩,
  ⟨some 30, .load 29 (.tmp 29), false, none⟩,
  ⟨some 31, .nilCheck (.tmp 26), false, none⟩,
  ⟨some 32, .fieldAddr 139 (.tmp 31) 3, false, none⟩,
  ⟨none, .store 29 (.tmp 32) (.tmp 30), true, none⟩]) <|
 .seq (.keep []) <|
 .ret) <|
 .skip) <|
 .seq (.keep [0, 1, 2]) <|
 .seq (.ops [⟨some 33, .move (.tmp 1), false, none⟩,
  ⟨some 34, .binOp .quo 29 (.tmp 33) (.const (.int .u64 4096)) 29, false, none⟩,
  ⟨some 6, .assign (.tmp 34), false, none⟩]) <|
 .seq (.keep [0, 2, 6]) <|
 .block 0 <| .loop <| .seq (.seq (.seq (.ops [⟨some 35, .move (.tmp 6), false, none⟩,
  ⟨some 36, .binOp .mul 29 (.tmp 35) (.const (.int .u64 4096)) 29, false, none⟩,
  ⟨some 37, .move (.tmp 2), false, none⟩,
  ⟨some 38, .binOp .lss 29 (.tmp 36) (.tmp 37) 29, false, none⟩]) <|
 .seq (.keep [0, 2, 6, 38]) <|
 .cond (.tmp 38) (.skip) <|
 .exit 0) <|
 .seq (.keep [0, 2, 6]) <|
 .seq (.block 1 <| .ops [⟨some 41, .move (.tmp 0), false, none⟩,
  ⟨some 42, .move (.tmp 6), false, none⟩,
  ⟨some 43, .call ⟨.value (.func 84), #[(.tmp 41), (.tmp 42)], #[81, 29]⟩, true, none⟩]) <|
 .seq (.keep [0, 2, 6]) <|
 .ops [⟨some 39, .move (.tmp 6), false, none⟩,
  ⟨some 40, .binOp .add 29 (.tmp 39) (.const (.int .u64 1)) 29, false, none⟩,
  ⟨some 6, .assign (.tmp 40), false, none⟩]) <|
 .keep [0, 2, 6]
theorem c53 : Tryz.f53.body.map (fun c => ((compile Tryz.prog kp53 [] kp53 c).map (·.1), fits Tryz.f53.ntmps c)) = some (some s53, true) := by kernel_rfl
theorem r53 : Tryz.f53.results.toList = [] := by kernel_rfl
attribute [go_sem] s53
abbrev kp56 : List Nat := []
def s56 : SC :=
 .seq (.ops [⟨some 11, .move (.tmp 2), false, none⟩,
  ⟨some 12, .call ⟨.builtin .min, #[(.tmp 11), (.const (.int .u64 274877906944))], #[29, 29]⟩, false, none⟩,
  ⟨some 2, .assign (.tmp 12), false, none⟩]) <|
 .seq (.keep [0, 1, 2]) <|
 .seq (.seq (.ops [⟨some 13, .move (.tmp 0), false, none⟩,
  ⟨some 14, .binOp .eql 81 (.tmp 13) (.const (.pointer none)) 81, false, none⟩,
  ⟨some 15, .move (.tmp 14), false, none⟩,
  ⟨some 16, .move (.tmp 2), false, some (15, false)⟩,
  ⟨some 17, .move (.tmp 1), false, some (15, false)⟩,
  ⟨some 18, .binOp .leq 29 (.tmp 16) (.tmp 17) 29, false, some (15, false)⟩,
  ⟨some 19, .pick (.tmp 15) (.const (.bool true)) (.tmp 18), false, none⟩]) <|
 .seq (.keep [0, 1, 2, 19]) <|
 .cond (.tmp 19) (.ret) <|
 .skip) <|
 .seq (.keep [0, 1, 2]) <|
 .seq (.ops [⟨some 20, .move (.tmp 0), false, none⟩,
  ⟨some 21, .move (.tmp 1), false, none⟩,
  ⟨some 22, .move (.tmp 2), false, none⟩,
  ⟨some 23, .call ⟨.value (.func 53), #[(.tmp 20), (.tmp 21), (.tmp 22)], #[81, 29, 29]⟩, true, none⟩]) <|
 .seq (.keep [0, 1, 2]) <|
 .seq (.ops [⟨some 24, .move (.tmp 0), false, none⟩,
  ⟨some 25, .nilCheck (.tmp 24), false, none⟩,
  ⟨some 26, .fieldAddr 139 (.tmp 25) 0, false, none⟩,
  ⟨some 27, .load 136 (.tmp 26), false, none⟩,
  ⟨some 28, .range 136 (.tmp 27), true, none⟩]) <|
 .seq (.keep [0, 1, 2, 28]) <|
 .block 0 <| .loop <| .seq (.seq (.ops [⟨some 29, .next (.tmp 28) false, true, none⟩,
  ⟨some 30, .extract (.tmp 29) 0, false, none⟩]) <|
 .seq (.keep [0, 1, 2, 28, 30]) <|
 .seq (.cond (.tmp 30) (.skip) <|
 .exit 0) <|
 .seq (.keep [0, 1, 2, 28]) <|
 .block 1 <| .seq (.ops [⟨some 31, .entry (.tmp 28), false, none⟩,
  ⟨some 32, .extract (.tmp 31) 0, false, none⟩,
  ⟨some 33, .extract (.tmp 31) 1, false, none⟩,
  ⟨some 6, .assign (.tmp 32), false, none⟩,
  ⟨some 7, .assign (.tmp 33), false, none⟩]) <|
 .seq (.keep [0, 1, 2, 6, 7, 28]) <|
 .seq (.ops [⟨some 34, .move (.tmp 6), false, none⟩,
  ⟨some 35, .binOp .mul 29 (.tmp 34) (.const (.int .u64 4096)) 29, false, none⟩,
  ⟨some 8, .assign (.tmp 35), false, none⟩]) <|
 .seq (.keep [0, 1, 2, 6, 7, 8, 28]) <|
 .seq (.seq (.ops [⟨some 36, .move (.tmp 8), false, none⟩,
  ⟨some 37, .move (.tmp 2), false, none⟩,
  ⟨some 38, .binOp .geq 29 (.tmp 36) (.tmp 37) 29, false, none⟩,
  ⟨some 39, .move (.tmp 38), false, none⟩,
  ⟨some 40, .move (.tmp 8), false, some (39, false)⟩,
  ⟨some 41, .binOp .add 29 (.tmp 40) (.const (.int .u64 4096)) 29, false, some (39, false)⟩,
  ⟨some 42, .move (.tmp 1), false, some (39, false)⟩,
  ⟨some 43, .binOp .leq 29 (.tmp 41) (.tmp 42) 29, false, some (39, false)⟩,
  ⟨some 44, .pick (.tmp 39) (.const (.bool true)) (.tmp 43), false, none⟩]) <|
 .seq (.keep [0, 1, 2, 6, 7, 8, 28, 44]) <|
 .cond (.tmp 44) (.exit 1) <|
 .skip) <|
 .seq (.keep [0, 1, 2, 6, 7, 8, 28]) <|
 .seq (.seq (.ops [⟨some 45, .move (.tmp 1), false, none⟩,
  ⟨some 46, .move (.tmp 8), false, none⟩,
  ⟨some 47, .binOp .leq 29 (.tmp 45) (.tmp 46) 29, false, none⟩,
  ⟨some 48, .move (.tmp 47), false, none⟩,
  ⟨some 49, .move (.tmp 2), false, some (48, true)⟩,
  ⟨some 50, .move (.tmp 8), false, some (48, true)⟩,
  ⟨some 51, .binOp .add 29 (.tmp 50) (.const (.int .u64 4096)) 29, false, some (48, true)⟩,
  ⟨some 52, .binOp .geq 29 (.tmp 49) (.tmp 51) 29, false, some (48, true)⟩,
  ⟨some 53, .pick (.tmp 48) (.tmp 52) (.const (.bool false)), false, none⟩]) <|
 .seq (.keep [0, 1, 2, 6, 7, 8, 28, 53]) <|
 .cond (.tmp 53) (.seq (.ops [⟨some 54, .move (.tmp 0), false, none⟩,
  ⟨some 55, .nilCheck (.tmp 54), false, none⟩,
  ⟨some 56, .fieldAddr 139 (.tmp 55) 0, false, none⟩,
  ⟨some 57, .load 136 (.tmp 56), false, none⟩,
  ⟨some 58, .move (.tmp 6), false, none⟩,
  ⟨none, .call ⟨.builtin .delete, #[(.tmp 57), (.tmp 58)], #[136, 29]⟩, true, none⟩]) <|
 .seq (.keep [0, 1, 2, 28]) <|
 .exit 1) <|
 .skip) <|
 .seq (.keep [0, 1, 2, 7, 8, 28]) <|
 .seq (.ops [⟨some 59, .move (.tmp 1), false, none⟩,
  ⟨some 60, .move (.tmp 8), false, none⟩,
  ⟨some 61, .call ⟨.builtin .max, #[(.tmp 59), (.tmp 60)], #[29, 29]⟩, false, none⟩,
  ⟨some 62, .move (.tmp 8), false, none⟩,
  ⟨some 63, .binOp .sub 29 (.tmp 61) (.tmp 62) 29, false, none⟩,
  ⟨some 64, .move (.tmp 2), false, none⟩,
  ⟨some 65, .move (.tmp 8), false, none⟩,
  ⟨some 66, .binOp .add 29 (.tmp 65) (.const (.int .u64 4096)) 29, false, none⟩,
  ⟨some 67, .call ⟨.builtin .min, #[(.tmp 64), (.tmp 66)], #[29, 29]⟩, false, none⟩,
  ⟨some 68, .move (.tmp 8), false, none⟩,
  ⟨some 69, .binOp .sub 29 (.tmp 67) (.tmp 68) 29, false, none⟩,
  ⟨some 9, .assign (.tmp 63), false, none⟩,
  ⟨some 10, .assign (.tmp 69), false, none⟩]) <|
 .seq (.keep [0, 1, 2, 7, 9, 10, 28]) <|
 .ops [⟨some 70, .move (.tmp 7), false, none⟩,
  ⟨some 71, .nilCheck (.tmp 70), false, none⟩,
  ⟨some 72, .move (.tmp 9), false, none⟩,
  ⟨some 73, .move (.tmp 10), false, none⟩,
  ⟨some 74, .slice 148 (.tmp 71) (some (.tmp 72)) (some (.tmp 73)) none, false, none⟩,
  ⟨none, .call ⟨.builtin .clear, #[(.tmp 74)], #[22]⟩, true, none⟩]) <|
 .keep [0, 1, 2, 28]
theorem c56 : Tryz.f56.body.map (fun c => ((compile Tryz.prog kp56 [] kp56 c).map (·.1), fits Tryz.f56.ntmps c)) = some (some s56, true) := by kernel_rfl
theorem r56 : Tryz.f56.results.toList = [] := by kernel_rfl
attribute [go_sem] s56
abbrev kp59 : List Nat := [4, 5]
def s59 : SC :=
 .seq (.ops [⟨some 4, .alloc 47, true, none⟩,
  ⟨some 5, .alloc 49, true, none⟩]) <|
 .seq (.keep [0, 1, 4, 5]) <|
 .seq (.ops [⟨some 11, .move (.tmp 0), false, none⟩,
  ⟨some 12, .move (.tmp 1), false, none⟩,
  ⟨some 13, .call ⟨.value (.func 99), #[(.tmp 11), (.tmp 12)], #[24, 29]⟩, true, none⟩,
  ⟨some 10, .move (.tmp 13), false, none⟩,
  ⟨some 14, .extract (.tmp 10) 0, false, none⟩,
  ⟨some 15, .extract (.tmp 10) 1, false, none⟩,
  ⟨some 7, .alloc 41, true, none⟩,
  ⟨some 6, .assign (.tmp 14), false, none⟩,
  ⟨none, .store 41 (.tmp 7) (.tmp 15), true, none⟩]) <|
 .seq (.keep [1, 4, 5, 6, 7]) <|
 .seq (.seq (.ops [⟨some 16, .fieldAddr 41 (.tmp 7) 0, false, none⟩,
  ⟨some 17, .load 3 (.tmp 16), false, none⟩,
  ⟨some 18, .binOp .neq 3 (.tmp 17) (.const (.int .i64 0)) 3, false, none⟩]) <|
 .seq (.keep [1, 4, 5, 6, 7, 18]) <|
 .cond (.tmp 18) (.seq (.seq (.ops [⟨some 19, .build 47 #[], false, none⟩]) <|
 .amb (.seq (.ops [⟨some 20, .load 41 (.tmp 7), false, none⟩]) <|
 .seq (.ops [⟨some 21, .build 49 #[(0, (.const (.int .i64 4))), (1, (.tmp 20))], false, none⟩]) <|
 .seq (.ops [⟨none, .store 47 (.tmp 4) (.tmp 19), true, none⟩]) <|
 .seq (.ops [⟨none, .store 49 (.tmp 5) (.tmp 21), true, none⟩]) <|
 .skip) (.seq (.ops [⟨none, .store 47 (.tmp 4) (.tmp 19), true, none⟩]) <|
 .seq (.ops [⟨some 20, .load 41 (.tmp 7), false, none⟩]) <|
 .seq (.ops [⟨some 21, .build 49 #[(0, (.const (.int .i64 4))), (1, (.tmp 20))], false, none⟩]) <|
 .seq (.ops [⟨none, .store 49 (.tmp 5) (.tmp 21), true, none⟩]) <|
 .skip)) <|
 .seq (.keep [4, 5]) <|
 .ret) <|
 .skip) <|
 .seq (.keep [1, 4, 5, 6]) <|
 .seq (.ops [⟨some 23, .move (.tmp 6), false, none⟩,
  ⟨some 24, .call ⟨.value (.func 100), #[(.tmp 23)], #[37]⟩, true, none⟩,
  ⟨some 22, .move (.tmp 24), false, none⟩,
  ⟨some 25, .extract (.tmp 22) 0, false, none⟩,
  ⟨some 26, .extract (.tmp 22) 1, false, none⟩,
  ⟨some 8, .alloc 47, true, none⟩,
  ⟨none, .store 47 (.tmp 8) (.tmp 25), true, none⟩,
  ⟨some 9, .assign (.tmp 26), false, none⟩]) <|
 .seq (.keep [1, 4, 5, 8, 9]) <|
 .seq (.seq (.ops [⟨some 27, .move (.tmp 9), false, none⟩,
  ⟨some 28, .unOp .not 4 (.tmp 27), false, none⟩]) <|
 .seq (.keep [1, 4, 5, 8, 28]) <|
 .cond (.tmp 28) (.seq (.ops [⟨some 29, .build 47 #[], false, none⟩,
  ⟨some 30, .move (.tmp 1), false, none⟩,
  ⟨some 31, .build 41 #[(0, (.const (.int .i64 3))), (1, (.tmp 30))], false, none⟩,
  ⟨some 32, .build 49 #[(0, (.const (.int .i64 3))), (1, (.tmp 31))], false, none⟩,
  ⟨none, .store 47 (.tmp 4) (.tmp 29), true, none⟩,
  ⟨none, .store 49 (.tmp 5) (.tmp 32), true, none⟩]) <|
 .seq (.keep [4, 5]) <|
 .ret) <|
 .skip) <|
 .seq (.keep [4, 5, 8]) <|
 .seq (.ops [⟨some 33, .load 47 (.tmp 8), false, none⟩,
  ⟨some 34, .build 49 #[], false, none⟩,
  ⟨none, .store 47 (.tmp 4) (.tmp 33), true, none⟩,
  ⟨none, .store 49 (.tmp 5) (.tmp 34), true, none⟩]) <|
 .seq (.keep [4, 5]) <|
 .ret
theorem c59 : Tryz.f59.body.map (fun c => ((compile Tryz.prog kp59 [] kp59 c).map (·.1), fits Tryz.f59.ntmps c)) = some (some s59, true) := by kernel_rfl
theorem r59 : Tryz.f59.results.toList = [.cell 4 47, .cell 5 49] := by kernel_rfl
attribute [go_sem] s59
abbrev kp60 : List Nat := [6, 7]
def s60 : SC :=
 .seq (.ops [⟨some 6, .assign (.const (.int .u64 0)), false, none⟩,
  ⟨some 7, .assign (.const (.int .u64 0)), false, none⟩]) <|
 .seq (.keep [0, 1, 2]) <|
 .seq (.ops [⟨some 8, .move (.tmp 0), false, none⟩,
  ⟨some 9, .move (.tmp 1), false, none⟩,
  ⟨some 10, .binOp .quo 29 (.tmp 9) (.const (.int .u64 4096)) 29, false, none⟩,
  ⟨some 11, .call ⟨.value (.func 101), #[(.tmp 8), (.tmp 10)], #[24, 29]⟩, true, none⟩,
  ⟨some 12, .move (.tmp 0), false, none⟩,
  ⟨some 13, .move (.tmp 1), false, none⟩,
  ⟨some 14, .move (.tmp 2), false, none⟩,
  ⟨some 15, .convert 3 29 (.tmp 14), false, none⟩,
  ⟨some 16, .binOp .add 29 (.tmp 13) (.tmp 15) 29, false, none⟩,
  ⟨some 17, .binOp .sub 29 (.tmp 16) (.const (.int .u64 1)) 29, false, none⟩,
  ⟨some 18, .binOp .quo 29 (.tmp 17) (.const (.int .u64 4096)) 29, false, none⟩,
  ⟨some 19, .call ⟨.value (.func 101), #[(.tmp 12), (.tmp 18)], #[24, 29]⟩, true, none⟩,
  ⟨some 6, .assign (.tmp 11), false, none⟩,
  ⟨some 7, .assign (.tmp 19), false, none⟩]) <|
 .seq (.keep [6, 7]) <|
 .ret
theorem c60 : Tryz.f60.body.map (fun c => ((compile Tryz.prog kp60 [] kp60 c).map (·.1), fits Tryz.f60.ntmps c)) = some (some s60, true) := by kernel_rfl
theorem r60 : Tryz.f60.results.toList = [.tmp 6, .tmp 7] := by kernel_rfl
attribute [go_sem] s60
abbrev kp63 : List Nat := [4]
def s63 : SC :=
 .seq (.ops [⟨some 4, .assign (.const (.pointer none)), false, none⟩]) <|
 .seq (.keep [0, 1]) <|
 .seq (.ops [⟨some 5, .move (.tmp 0), false, none⟩,
  ⟨some 6, .move (.tmp 1), false, none⟩,
  ⟨some 7, .build 120 #[(1, (.tmp 5)), (2, (.tmp 6))], false, none⟩,
  ⟨some 8, .box 120 (.tmp 7), true, none⟩,
  ⟨some 4, .assign (.tmp 8), false, none⟩]) <|
 .seq (.keep [4]) <|
 .ret
theorem c63 : Tryz.f63.body.map (fun c => ((compile Tryz.prog kp63 [] kp63 c).map (·.1), fits Tryz.f63.ntmps c)) = some (some s63, true) := by kernel_rfl
theorem r63 : Tryz.f63.results.toList = [.tmp 4] := by kernel_rfl
attribute [go_sem] s63
abbrev kp64 : List Nat := []
def s64 : SC :=
 .seq (.ops [⟨some 3, .box 63 (.tmp 1), true, none⟩]) <|
 .seq (.keep [0, 3]) <|
 .seq (.ops [⟨some 4, .move (.tmp 0), false, none⟩,
  ⟨some 5, .binOp .neq 55 (.tmp 4) (.const (.pointer none)) 55, false, none⟩]) <|
 .seq (.keep [0, 3, 5]) <|
 .cond (.tmp 5) (.seq (.ops [⟨some 6, .fieldAddr 63 (.tmp 3) 1, false, none⟩,
  ⟨some 7, .indexAddr 59 (.tmp 6) (.const (.int .i64 0)), false, none⟩,
  ⟨none, .store 29 (.tmp 7) (.const (.int .u64 0)), true, none⟩]) <|
 .seq (.keep [0, 3]) <|
 .ops [⟨some 8, .move (.tmp 0), false, none⟩,
  ⟨some 9, .load 63 (.tmp 3), false, none⟩,
  ⟨some 10, .nilCheck (.tmp 8), false, none⟩,
  ⟨some 11, .fieldAddr 120 (.tmp 10) 0, false, none⟩,
  ⟨none, .store 63 (.tmp 11) (.tmp 9), true, none⟩]) <|
 .skip
theorem c64 : Tryz.f64.body.map (fun c => ((compile Tryz.prog kp64 [] kp64 c).map (·.1), fits Tryz.f64.ntmps c)) = some (some s64, true) := by kernel_rfl
theorem r64 : Tryz.f64.results.toList = [] := by kernel_rfl
attribute [go_sem] s64
abbrev kp65 : List Nat := [6]
def s65 : SC :=
 .seq (.ops [⟨some 5, .box 47 (.tmp 2), true, none⟩,
  ⟨some 6, .alloc 49, true, none⟩]) <|
 .seq (.keep [0, 1, 5, 6]) <|
 .seq (.ops [⟨some 13, .move (.tmp 1), false, none⟩,
  ⟨some 14, .load 47 (.tmp 5), false, none⟩,
  ⟨some 15, .call ⟨.value (.func 107), #[(.tmp 13), (.tmp 14)], #[122, 47]⟩, true, none⟩,
  ⟨some 12, .move (.tmp 15), false, none⟩,
  ⟨some 16, .extract (.tmp 12) 0, false, none⟩,
  ⟨some 17, .extract (.tmp 12) 1, false, none⟩,
  ⟨some 7, .assign (.tmp 16), false, none⟩,
  ⟨some 8, .assign (.tmp 17), false, none⟩]) <|
 .seq (.keep [0, 1, 5, 6, 7, 8]) <|
 .seq (.seq (.ops [⟨some 18, .move (.tmp 8), false, none⟩,
  ⟨some 19, .unOp .not 4 (.tmp 18), false, none⟩]) <|
 .seq (.keep [0, 1, 5, 6, 7, 19]) <|
 .cond (.tmp 19) (.seq (.ops [⟨some 9, .alloc 49, true, none⟩]) <|
 .seq (.keep [0, 1, 5, 6, 9]) <|
 .seq (.seq (.ops [⟨some 21, .fieldAddr 47 (.tmp 5) 0, false, none⟩,
  ⟨some 22, .load 3 (.tmp 21), false, none⟩,
  ⟨some 23, .call ⟨.value (.func 108), #[(.tmp 22)], #[3]⟩, true, none⟩,
  ⟨some 20, .move (.tmp 23), false, none⟩,
  ⟨some 24, .extract (.tmp 20) 0, false, none⟩,
  ⟨some 25, .extract (.tmp 20) 1, false, none⟩,
  ⟨some 10, .assign (.tmp 24), false, none⟩,
  ⟨some 11, .assign (.tmp 25), false, none⟩]) <|
 .seq (.keep [0, 1, 5, 6, 9, 10, 11]) <|
 .seq (.ops [⟨some 26, .move (.tmp 10), false, none⟩,
  ⟨some 27, .binOp .gtr 3 (.tmp 26) (.const (.int .i64 0)) 3, false, none⟩]) <|
 .seq (.keep [0, 1, 5, 6, 9, 10, 11, 27]) <|
 .cond (.tmp 27) (.ops [⟨some 28, .move (.tmp 0), false, none⟩,
  ⟨some 29, .move (.tmp 1), false, none⟩,
  ⟨some 30, .load 47 (.tmp 5), false, none⟩,
  ⟨some 31, .move (.tmp 10), false, none⟩,
  ⟨some 32, .move (.tmp 11), false, none⟩,
  ⟨some 33, .call ⟨.value (.func 109), #[(.tmp 28), (.tmp 29), (.tmp 30), (.tmp 31), (.tmp 32)], #[55, 122, 47, 3, 4]⟩, true, none⟩,
  ⟨none, .store 49 (.tmp 9) (.tmp 33), true, none⟩]) <|
 .ops [⟨some 34, .move (.tmp 0), false, none⟩,
  ⟨some 35, .move (.tmp 1), false, none⟩,
  ⟨some 36, .load 47 (.tmp 5), false, none⟩,
  ⟨some 37, .call ⟨.value (.func 110), #[(.tmp 34), (.tmp 35), (.tmp 36)], #[55, 122, 47]⟩, true, none⟩,
  ⟨none, .store 49 (.tmp 9) (.tmp 37), true, none⟩]) <|
 .seq (.keep [1, 5, 6, 9]) <|
 .seq (.seq (.ops [⟨some 38, .fieldAddr 49 (.tmp 9) 0, false, none⟩,
  ⟨some 39, .load 3 (.tmp 38), false, none⟩,
  ⟨some 40, .binOp .neq 3 (.tmp 39) (.const (.int .i64 0)) 3, false, none⟩]) <|
 .seq (.keep [1, 5, 6, 9, 40]) <|
 .cond (.tmp 40) (.seq (.ops [⟨some 41, .load 49 (.tmp 9), false, none⟩,
  ⟨none, .store 49 (.tmp 6) (.tmp 41), true, none⟩]) <|
 .seq (.keep [6]) <|
 .ret) <|
 .skip) <|
 .seq (.keep [1, 5, 6]) <|
 .seq (.ops [⟨some 42, .move (.tmp 1), false, none⟩]) <|
 .seq (.ops [⟨some 43, .nilCheck (.tmp 42), false, none⟩]) <|
 .seq (.ops [⟨some 44, .fieldAddr 63 (.tmp 43) 0, false, none⟩]) <|
 .seq (.ops [⟨some 45, .load 29 (.tmp 44), false, none⟩]) <|
 .seq (.ops [⟨some 46, .fieldAddr 47 (.tmp 5) 6, false, none⟩]) <|
 .seq (.ops [⟨some 47, .load 3 (.tmp 46), false, none⟩]) <|
 .seq (.ops [⟨some 48, .convert 3 29 (.tmp 47), false, none⟩]) <|
 .seq (.ops [⟨some 49, .binOp .add 29 (.tmp 45) (.tmp 48) 29, false, none⟩]) <|
 .seq (.ops [⟨some 7, .assign (.tmp 49), false, none⟩]) <|
 .skip) <|
 .skip) <|
 .seq (.keep [1, 6, 7]) <|
 .seq (.ops [⟨some 50, .move (.tmp 1), false, none⟩,
  ⟨some 51, .move (.tmp 7), false, none⟩,
  ⟨some 52, .nilCheck (.tmp 50), false, none⟩,
  ⟨some 53, .fieldAddr 63 (.tmp 52) 0, false, none⟩,
  ⟨none, .store 29 (.tmp 53) (.tmp 51), true, none⟩]) <|
 .seq (.keep [1, 6]) <|
 .seq (.ops [⟨some 54, .move (.tmp 1), false, none⟩,
  ⟨some 55, .nilCheck (.tmp 54), false, none⟩,
  ⟨some 56, .fieldAddr 63 (.tmp 55) 1, false, none⟩,
  ⟨some 57, .indexAddr 59 (.tmp 56) (.const (.int .i64 0)), false, none⟩,
  ⟨none, .store 29 (.tmp 57) (.const (.int .u64 0)), true, none⟩]) <|
 .seq (.keep [6]) <|
 .seq (.ops [⟨some 58, .build 49 #[], false, none⟩,
  ⟨none, .store 49 (.tmp 6) (.tmp 58), true, none⟩]) <|
 .seq (.keep [6]) <|
 .ret
theorem c65 : Tryz.f65.body.map (fun c => ((compile Tryz.prog kp65 [] kp65 c).map (·.1), fits Tryz.f65.ntmps c)) = some (some s65, true) := by kernel_rfl
theorem r65 : Tryz.f65.results.toList = [.cell 6 49] := by kernel_rfl
attribute [go_sem] s65
abbrev kp75 : List Nat := [6]
def s75 : SC :=
 .seq (.ops [⟨some 4, .box 29 (.tmp 1), true, none⟩,
  ⟨some 5, .box 29 (.tmp 2), true, none⟩,
  ⟨some 6, .assign (.const (.bool false)), false, none⟩]) <|
 .seq (.keep [0, 4, 5]) <|
 .seq (.ops [⟨some 7, .move (.tmp 0), false, none⟩,
  ⟨some 8, .binOp .neq 79 (.tmp 7) (.const (.pointer none)) 79, false, none⟩,
  ⟨some 9, .move (.tmp 8), false, none⟩,
  ⟨some 10, .load 29 (.tmp 4), false, some (9, true)⟩,
  ⟨some 11, .load 29 (.tmp 5), false, some (9, true)⟩,
  ⟨some 12, .call ⟨.value (.func 90), #[(.tmp 10), (.tmp 11)], #[29, 29]⟩, true, some (9, true)⟩,
  ⟨some 13, .pick (.tmp 9) (.tmp 12) (.const (.bool false)), false, none⟩,
  ⟨some 14, .move (.tmp 13), false, none⟩,
  ⟨some 15, .move (.tmp 0), false, some (14, true)⟩,
  ⟨some 16, .nilCheck (.tmp 15), false, some (14, true)⟩,
  ⟨some 17, .fieldAddr 135 (.tmp 16) 0, false, some (14, true)⟩,
  ⟨some 18, .load 93 (.tmp 17), false, some (14, true)⟩,
  ⟨some 19, .makeFunc (.func 119) #[] #[(.tmp 5), (.tmp 4)], false, some (14, true)⟩,
  ⟨some 20, .call ⟨.value (.func 118), #[(.tmp 18), (.tmp 19)], #[93, 142]⟩, true, some (14, true)⟩,
  ⟨some 21, .unOp .not 4 (.tmp 20), false, some (14, true)⟩,
  ⟨some 22, .pick (.tmp 14) (.tmp 21) (.const (.bool false)), false, none⟩,
  ⟨some 6, .assign (.tmp 22), false, none⟩]) <|
 .seq (.keep [6]) <|
 .ret
theorem c75 : Tryz.f75.body.map (fun c => ((compile Tryz.prog kp75 [] kp75 c).map (·.1), fits Tryz.f75.ntmps c)) = some (some s75, true) := by kernel_rfl
theorem r75 : Tryz.f75.results.toList = [.tmp 6] := by kernel_rfl
attribute [go_sem] s75
abbrev kp76 : List Nat := [6, 7]
def s76 : SC :=
 .seq (.ops [⟨some 6, .assign (.const (.int .u64 0)), false, none⟩,
  ⟨some 7, .assign (.const (.bool false)), false, none⟩]) <|
 .seq (.keep [0, 1, 2]) <|
 .seq (.seq (.ops [⟨some 11, .move (.tmp 0), false, none⟩,
  ⟨some 12, .binOp .eql 79 (.tmp 11) (.const (.pointer none)) 79, false, none⟩,
  ⟨some 13, .move (.tmp 12), false, none⟩,
  ⟨some 14, .move (.tmp 1), false, some (13, false)⟩,
  ⟨some 15, .binOp .gtr 29 (.tmp 14) (.const (.int .u64 274877906944)) 29, false, some (13, false)⟩,
  ⟨some 16, .pick (.tmp 13) (.const (.bool true)) (.tmp 15), false, none⟩]) <|
 .seq (.keep [0, 1, 2, 16]) <|
 .cond (.tmp 16) (.seq (.ops [⟨some 6, .assign (.const (.int .u64 0)), false, none⟩,
  ⟨some 7, .assign (.const (.bool false)), false, none⟩]) <|
 .seq (.keep [6, 7]) <|
 .ret) <|
 .skip) <|
 .seq (.keep [0, 1, 2]) <|
 .seq (.ops [⟨some 17, .move (.tmp 1), false, none⟩,
  ⟨some 18, .binOp .add 29 (.tmp 17) (.const (.int .u64 4096)) 29, false, none⟩,
  ⟨some 19, .binOp .sub 29 (.tmp 18) (.const (.int .u64 1)) 29, false, none⟩,
  ⟨some 20, .binOp .quo 29 (.tmp 19) (.const (.int .u64 4096)) 29, false, none⟩,
  ⟨some 21, .call ⟨.builtin .max, #[(.tmp 20), (.const (.int .u64 1))], #[29, 29]⟩, false, none⟩,
  ⟨some 22, .binOp .mul 29 (.tmp 21) (.const (.int .u64 4096)) 29, false, none⟩,
  ⟨some 1, .assign (.tmp 22), false, none⟩]) <|
 .seq (.keep [0, 1, 2]) <|
 .seq (.ops [⟨some 23, .move (.tmp 2), false, none⟩,
  ⟨some 24, .call ⟨.builtin .min, #[(.tmp 23), (.const (.int .u64 274877906944))], #[29, 29]⟩, false, none⟩,
  ⟨some 25, .binOp .quo 29 (.tmp 24) (.const (.int .u64 4096)) 29, false, none⟩,
  ⟨some 26, .binOp .mul 29 (.tmp 25) (.const (.int .u64 4096)) 29, false, none⟩,
  ⟨some 8, .assign (.tmp 26), false, none⟩]) <|
 .seq (.keep [0, 1, 8]) <|
 .seq (.seq (.ops [⟨some 27, .move (.tmp 0), false, none⟩,
  ⟨some 28, .nilCheck (.tmp 27), false, none⟩,
  ⟨some 29, .fieldAddr 135 (.tmp 28) 0, false, none⟩,
  ⟨some 30, .load 93 (.tmp 29), false, none⟩,
  ⟨some 31, .call ⟨.builtin .len, #[(.tmp 30)], #[93]⟩, false, none⟩,
  ⟨some 9, .assign (.tmp 31), false, none⟩]) <|
 .seq (.keep [0, 1, 8, 9]) <|
 .block 0 <| .loop <| .seq (.seq (.seq (.ops [⟨some 32, .move (.tmp 9), false, none⟩,
  ⟨some 33, .binOp .geq 3 (.tmp 32) (.const (.int .i64 0)) 3, false, none⟩]) <|
 .seq (.keep [0, 1, 8, 9, 33]) <|
 .cond (.tmp 33) (.skip) <|
 .exit 0) <|
 .seq (.keep [0, 1, 8, 9]) <|
 .seq (.block 1 <| .seq (.ops [⟨some 10, .assign (.const (.int .u64 4096)), false, none⟩]) <|
 .seq (.keep [0, 1, 8, 9, 10]) <|
 .seq (.seq (.ops [⟨some 36, .move (.tmp 9), false, none⟩,
  ⟨some 37, .binOp .gtr 3 (.tmp 36) (.const (.int .i64 0)) 3, false, none⟩]) <|
 .seq (.keep [0, 1, 8, 9, 10, 37]) <|
 .cond (.tmp 37) (.ops [⟨some 38, .move (.tmp 10), false, none⟩,
  ⟨some 39, .move (.tmp 0), false, none⟩,
  ⟨some 40, .nilCheck (.tmp 39), false, none⟩,
  ⟨some 41, .fieldAddr 135 (.tmp 40) 0, false, none⟩,
  ⟨some 42, .load 93 (.tmp 41), false, none⟩,
  ⟨some 43, .move (.tmp 9), false, none⟩,
  ⟨some 44, .binOp .sub 3 (.tmp 43) (.const (.int .i64 1)) 3, false, none⟩,
  ⟨some 45, .indexAddr 93 (.tmp 42) (.tmp 44), false, none⟩,
  ⟨some 46, .fieldAddr 96 (.tmp 45) 1, false, none⟩,
  ⟨some 47, .load 29 (.tmp 46), false, none⟩,
  ⟨some 48, .call ⟨.builtin .max, #[(.tmp 38), (.tmp 47)], #[29, 29]⟩, false, none⟩,
  ⟨some 10, .assign (.tmp 48), false, none⟩]) <|
 .skip) <|
 .seq (.keep [0, 1, 8, 9, 10]) <|
 .seq (.seq (.ops [⟨some 49, .move (.tmp 8), false, none⟩,
  ⟨some 50, .move (.tmp 10), false, none⟩,
  ⟨some 51, .binOp .geq 29 (.tmp 49) (.tmp 50) 29, false, none⟩,
  ⟨some 52, .move (.tmp 51), false, none⟩,
  ⟨some 53, .move (.tmp 8), false, some (52, true)⟩,
  ⟨some 54, .move (.tmp 10), false, some (52, true)⟩,
  ⟨some 55, .binOp .sub 29 (.tmp 53) (.tmp 54) 29, false, some (52, true)⟩,
  ⟨some 56, .move (.tmp 1), false, some (52, true)⟩,
  ⟨some 57, .binOp .geq 29 (.tmp 55) (.tmp 56) 29, false, some (52, true)⟩,
  ⟨some 58, .pick (.tmp 52) (.tmp 57) (.const (.bool false)), false, none⟩]) <|
 .seq (.keep [0, 1, 8, 9, 58]) <|
 .cond (.tmp 58) (.seq (.ops [⟨some 59, .move (.tmp 8), false, none⟩,
  ⟨some 60, .move (.tmp 1), false, none⟩,
  ⟨some 61, .binOp .sub 29 (.tmp 59) (.tmp 60) 29, false, none⟩,
  ⟨some 6, .assign (.tmp 61), false, none⟩,
  ⟨some 7, .assign (.const (.bool true)), false, none⟩]) <|
 .seq (.keep [6, 7]) <|
 .ret) <|
 .skip) <|
 .seq (.keep [0, 1, 8, 9]) <|
 .seq (.ops [⟨some 62, .move (.tmp 9), false, none⟩,
  ⟨some 63, .binOp .gtr 3 (.tmp 62) (.const (.int .i64 0)) 3, false, none⟩]) <|
 .seq (.keep [0, 1, 8, 9, 63]) <|
 .cond (.tmp 63) (.ops [⟨some 64, .move (.tmp 8), false, none⟩,
  ⟨some 65, .move (.tmp 0), false, none⟩,
  ⟨some 66, .nilCheck (.tmp 65), false, none⟩,
  ⟨some 67, .fieldAddr 135 (.tmp 66) 0, false, none⟩,
  ⟨some 68, .load 93 (.tmp 67), false, none⟩,
  ⟨some 69, .move (.tmp 9), false, none⟩,
  ⟨some 70, .binOp .sub 3 (.tmp 69) (.const (.int .i64 1)) 3, false, none⟩,
  ⟨some 71, .indexAddr 93 (.tmp 68) (.tmp 70), false, none⟩,
  ⟨some 72, .fieldAddr 96 (.tmp 71) 0, false, none⟩,
  ⟨some 73, .load 29 (.tmp 72), false, none⟩,
  ⟨some 74, .call ⟨.builtin .min, #[(.tmp 64), (.tmp 73)], #[29, 29]⟩, false, none⟩,
  ⟨some 8, .assign (.tmp 74), false, none⟩]) <|
 .skip) <|
 .seq (.keep [0, 1, 8, 9]) <|
 .ops [⟨some 34, .move (.tmp 9), false, none⟩,
  ⟨some 35, .binOp .sub 3 (.tmp 34) (.const (.int .i64 1)) 3, false, none⟩,
  ⟨some 9, .assign (.tmp 35), false, none⟩]) <|
 .keep [0, 1, 8, 9]) <|
 .seq (.keep []) <|
 .seq (.ops [⟨some 6, .assign (.const (.int .u64 0)), false, none⟩,
  ⟨some 7, .assign (.const (.bool false)), false, none⟩]) <|
 .seq (.keep [6, 7]) <|
 .ret
theorem c76 : Tryz.f76.body.map (fun c => ((compile Tryz.prog kp76 [] kp76 c).map (·.1), fits Tryz.f76.ntmps c)) = some (some s76, true) := by kernel_rfl
theorem r76 : Tryz.f76.results.toList = [.tmp 6, .tmp 7] := by kernel_rfl
attribute [go_sem] s76
abbrev kp77 : List Nat := [2, 3]
def s77 : SC :=
 .seq (.ops [⟨some 2, .assign (.const (.int .u64 0)), false, none⟩,
  ⟨some 3, .assign (.const (.bool false)), false, none⟩]) <|
 .seq (.keep [0]) <|
 .seq (.seq (.ops [⟨some 4, .move (.tmp 0), false, none⟩,
  ⟨some 5, .binOp .gtr 29 (.tmp 4) (.const (.int .u64 274877906944)) 29, false, none⟩]) <|
 .seq (.keep [0, 5]) <|
 .cond (.tmp 5) (.seq (.ops [⟨some 2, .assign (.const (.int .u64 0)), false, none⟩,
  ⟨some 3, .assign (.const (.bool false)), false, none⟩]) <|
 .seq (.keep [2, 3]) <|
 .ret) <|
 .skip) <|
 .seq (.keep [0]) <|
 .seq (.ops [⟨some 6, .move (.tmp 0), false, none⟩,
  ⟨some 7, .binOp .add 29 (.tmp 6) (.const (.int .u64 4096)) 29, false, none⟩,
  ⟨some 8, .binOp .sub 29 (.tmp 7) (.const (.int .u64 1)) 29, false, none⟩,
  ⟨some 9, .binOp .quo 29 (.tmp 8) (.const (.int .u64 4096)) 29, false, none⟩,
  ⟨some 10, .binOp .mul 29 (.tmp 9) (.const (.int .u64 4096)) 29, false, none⟩,
  ⟨some 2, .assign (.tmp 10), false, none⟩,
  ⟨some 3, .assign (.const (.bool true)), false, none⟩]) <|
 .seq (.keep [2, 3]) <|
 .ret
theorem c77 : Tryz.f77.body.map (fun c => ((compile Tryz.prog kp77 [] kp77 c).map (·.1), fits Tryz.f77.ntmps c)) = some (some s77, true) := by kernel_rfl
theorem r77 : Tryz.f77.results.toList = [.tmp 2, .tmp 3] := by kernel_rfl
attribute [go_sem] s77
abbrev kp78 : List Nat := [2]
def s78 : SC :=
 .seq (.ops [⟨some 2, .assign (.const (.pointer none)), false, none⟩]) <|
 .seq (.keep [0]) <|
 .seq (.seq (.ops [⟨some 3, .move (.tmp 0), false, none⟩,
  ⟨some 4, .binOp .eql 79 (.tmp 3) (.const (.pointer none)) 79, false, none⟩]) <|
 .seq (.keep [0, 4]) <|
 .cond (.tmp 4) (.seq (.ops [⟨some 2, .assign (.const (.pointer none)), false, none⟩]) <|
 .seq (.keep [2]) <|
 .ret) <|
 .skip) <|
 .seq (.keep [0]) <|
 .seq (.ops [⟨some 5, .move (.tmp 0), false, none⟩,
  ⟨some 6, .nilCheck (.tmp 5), false, none⟩,
  ⟨some 7, .fieldAddr 135 (.tmp 6) 0, false, none⟩,
  ⟨some 8, .load 93 (.tmp 7), false, none⟩,
  ⟨some 9, .call ⟨.value (.func 120), #[(.tmp 8)], #[93]⟩, true, none⟩,
  ⟨some 10, .build 135 #[(0, (.tmp 9))], false, none⟩,
  ⟨some 11, .box 135 (.tmp 10), true, none⟩,
  ⟨some 2, .assign (.tmp 11), false, none⟩]) <|
 .seq (.keep [2]) <|
 .ret
theorem c78 : Tryz.f78.body.map (fun c => ((compile Tryz.prog kp78 [] kp78 c).map (·.1), fits Tryz.f78.ntmps c)) = some (some s78, true) := by kernel_rfl
theorem r78 : Tryz.f78.results.toList = [.tmp 2] := by kernel_rfl
attribute [go_sem] s78
abbrev kp79 : List Nat := [8]
def s79 : SC :=
 .seq (.ops [⟨some 8, .assign (.const (.int .i64 0)), false, none⟩]) <|
 .seq (.keep [0, 1, 2, 3]) <|
 .seq (.seq (.ops [⟨some 9, .move (.tmp 0), false, none⟩,
  ⟨some 10, .binOp .eql 79 (.tmp 9) (.const (.pointer none)) 79, false, none⟩,
  ⟨some 11, .move (.tmp 10), false, none⟩,
  ⟨some 12, .move (.tmp 1), false, some (11, false)⟩,
  ⟨some 13, .move (.tmp 2), false, some (11, false)⟩,
  ⟨some 14, .call ⟨.value (.func 90), #[(.tmp 12), (.tmp 13)], #[29, 29]⟩, true, some (11, false)⟩,
  ⟨some 15, .unOp .not 4 (.tmp 14), false, some (11, false)⟩,
  ⟨some 16, .pick (.tmp 11) (.const (.bool true)) (.tmp 15), false, none⟩,
  ⟨some 17, .move (.tmp 16), false, none⟩,
  ⟨some 18, .move (.tmp 3), false, some (17, false)⟩,
  ⟨some 19, .call ⟨.value (.func 91), #[(.tmp 18)], #[3]⟩, true, some (17, false)⟩,
  ⟨some 20, .unOp .not 4 (.tmp 19), false, some (17, false)⟩,
  ⟨some 21, .pick (.tmp 17) (.const (.bool true)) (.tmp 20), false, none⟩]) <|
 .seq (.keep [0, 1, 2, 3, 21]) <|
 .cond (.tmp 21) (.seq (.ops [⟨some 8, .assign (.const (.int .i64 22)), false, none⟩]) <|
 .seq (.keep [8]) <|
 .ret) <|
 .skip) <|
 .seq (.keep [0, 1, 2, 3]) <|
 .seq (.ops [⟨some 22, .move (.tmp 0), false, none⟩,
  ⟨some 23, .move (.tmp 0), false, none⟩,
  ⟨some 24, .nilCheck (.tmp 23), false, none⟩,
  ⟨some 25, .fieldAddr 135 (.tmp 24) 0, false, none⟩,
  ⟨some 26, .load 93 (.tmp 25), false, none⟩,
  ⟨some 27, .move (.tmp 1), false, none⟩,
  ⟨some 28, .move (.tmp 2), false, none⟩,
  ⟨some 29, .move (.tmp 3), false, none⟩,
  ⟨some 30, .build 96 #[(0, (.tmp 27)), (1, (.tmp 28)), (2, (.tmp 29))], false, none⟩,
  ⟨some 31, .call ⟨.value (.func 94), #[(.tmp 26), (.tmp 30)], #[93, 96]⟩, true, none⟩,
  ⟨some 32, .call ⟨.value (.func 93), #[(.tmp 22), (.tmp 31)], #[79, 93]⟩, true, none⟩,
  ⟨some 8, .assign (.tmp 32), false, none⟩]) <|
 .seq (.keep [8]) <|
 .ret
theorem c79 : Tryz.f79.body.map (fun c => ((compile Tryz.prog kp79 [] kp79 c).map (·.1), fits Tryz.f79.ntmps c)) = some (some s79, true) := by kernel_rfl
theorem r79 : Tryz.f79.results.toList = [.tmp 8] := by kernel_rfl
attribute [go_sem] s79
abbrev kp80 : List Nat := [2]
def s80 : SC :=
 .seq (.ops [⟨some 2, .assign (.const (.int .i64 0)), false, none⟩]) <|
 .seq (.keep [0]) <|
 .seq (.seq (.ops [⟨some 6, .move (.tmp 0), false, none⟩,
  ⟨some 7, .binOp .eql 79 (.tmp 6) (.const (.pointer none)) 79, false, none⟩]) <|
 .seq (.keep [0, 7]) <|
 .cond (.tmp 7) (.seq (.ops [⟨some 2, .assign (.const (.int .i64 0)), false, none⟩]) <|
 .seq (.keep [2]) <|
 .ret) <|
 .skip) <|
 .seq (.keep [0]) <|
 .seq (.ops [⟨some 3, .assign (.const (.int .u64 0)), false, none⟩]) <|
 .seq (.keep [0, 3]) <|
 .seq (.seq (.ops [⟨some 8, .move (.tmp 0), false, none⟩,
  ⟨some 9, .nilCheck (.tmp 8), false, none⟩,
  ⟨some 10, .fieldAddr 135 (.tmp 9) 0, false, none⟩,
  ⟨some 11, .load 93 (.tmp 10), false, none⟩,
  ⟨some 12, .call ⟨.builtin .len, #[(.tmp 11)], #[93]⟩, false, none⟩,
  ⟨some 13, .move (.const (.int .i64 0)), false, none⟩]) <|
 .seq (.keep [3, 11, 12, 13]) <|
 .block 0 <| .loop <| .seq (.seq (.ops [⟨some 14, .binOp .lss 3 (.tmp 13) (.tmp 12) 3, false, none⟩]) <|
 .seq (.keep [3, 11, 12, 13, 14]) <|
 .seq (.cond (.tmp 14) (.skip) <|
 .exit 0) <|
 .seq (.keep [3, 11, 12, 13]) <|
 .seq (.block 1 <| .seq (.ops [⟨some 15, .indexAddr 93 (.tmp 11) (.tmp 13), false, none⟩,
  ⟨some 16, .load 96 (.tmp 15), false, none⟩,
  ⟨some 5, .alloc 96, true, none⟩,
  ⟨none, .store 96 (.tmp 5) (.tmp 16), true, none⟩]) <|
 .seq (.keep [3, 5, 11, 12, 13]) <|
 .ops [⟨some 17, .move (.tmp 3), false, none⟩,
  ⟨some 18, .fieldAddr 96 (.tmp 5) 1, false, none⟩,
  ⟨some 19, .load 29 (.tmp 18), false, none⟩,
  ⟨some 20, .fieldAddr 96 (.tmp 5) 0, false, none⟩,
  ⟨some 21, .load 29 (.tmp 20), false, none⟩,
  ⟨some 22, .binOp .sub 29 (.tmp 19) (.tmp 21) 29, false, none⟩,
  ⟨some 23, .binOp .quo 29 (.tmp 22) (.const (.int .u64 4096)) 29, false, none⟩,
  ⟨some 24, .binOp .add 29 (.tmp 17) (.tmp 23) 29, false, none⟩,
  ⟨some 3, .assign (.tmp 24), false, none⟩]) <|
 .seq (.keep [3, 11, 12, 13]) <|
 .ops [⟨some 25, .binOp .add 3 (.tmp 13) (.const (.int .i64 1)) 3, false, none⟩,
  ⟨some 13, .move (.tmp 25), false, none⟩]) <|
 .keep [3, 11, 12, 13]) <|
 .seq (.keep [3]) <|
 .seq (.ops [⟨some 26, .move (.tmp 3), false, none⟩,
  ⟨some 27, .convert 29 3 (.tmp 26), false, none⟩,
  ⟨some 2, .assign (.tmp 27), false, none⟩]) <|
 .seq (.keep [2]) <|
 .ret
theorem c80 : Tryz.f80.body.map (fun c => ((compile Tryz.prog kp80 [] kp80 c).map (·.1), fits Tryz.f80.ntmps c)) = some (some s80, true) := by kernel_rfl
theorem r80 : Tryz.f80.results.toList = [.tmp 2] := by kernel_rfl
attribute [go_sem] s80
abbrev kp81 : List Nat := [4]
def s81 : SC :=
 .seq (.ops [⟨some 4, .assign (.const (.int .i64 0)), false, none⟩]) <|
 .seq (.keep [0, 1]) <|
 .seq (.seq (.ops [⟨some 6, .move (.tmp 0), false, none⟩,
  ⟨some 7, .call ⟨.builtin .len, #[(.tmp 6)], #[93]⟩, false, none⟩,
  ⟨some 8, .move (.const (.int .i64 0)), false, none⟩]) <|
 .seq (.keep [0, 1, 7, 8]) <|
 .block 0 <| .loop <| .seq (.seq (.ops [⟨some 9, .binOp .lss 3 (.tmp 8) (.tmp 7) 3, false, none⟩]) <|
 .seq (.keep [0, 1, 7, 8, 9]) <|
 .seq (.cond (.tmp 9) (.skip) <|
 .exit 0) <|
 .seq (.keep [0, 1, 7, 8]) <|
 .seq (.block 1 <| .seq (.ops [⟨some 10, .move (.tmp 8), false, none⟩,
  ⟨some 5, .assign (.tmp 10), false, none⟩]) <|
 .seq (.keep [0, 1, 5, 7, 8]) <|
 .seq (.ops [⟨some 11, .move (.tmp 1), false, none⟩,
  ⟨some 12, .move (.tmp 0), false, none⟩,
  ⟨some 13, .move (.tmp 5), false, none⟩,
  ⟨some 14, .indexAddr 93 (.tmp 12) (.tmp 13), false, none⟩,
  ⟨some 15, .load 96 (.tmp 14), false, none⟩,
  ⟨some 16, .call ⟨.value (.tmp 11), #[(.tmp 15)], #[96]⟩, true, none⟩]) <|
 .seq (.keep [0, 1, 5, 7, 8, 16]) <|
 .cond (.tmp 16) (.seq (.ops [⟨some 17, .move (.tmp 5), false, none⟩,
  ⟨some 4, .assign (.tmp 17), false, none⟩]) <|
 .seq (.keep [4]) <|
 .ret) <|
 .skip) <|
 .seq (.keep [0, 1, 7, 8]) <|
 .ops [⟨some 18, .binOp .add 3 (.tmp 8) (.const (.int .i64 1)) 3, false, none⟩,
  ⟨some 8, .move (.tmp 18), false, none⟩]) <|
 .keep [0, 1, 7, 8]) <|
 .seq (.keep []) <|
 .seq (.ops [⟨some 4, .assign (.const (.int .i64 (-1))), false, none⟩]) <|
 .seq (.keep [4]) <|
 .ret
theorem c81 : Tryz.f81.body.map (fun c => ((compile Tryz.prog kp81 [] kp81 c).map (·.1), fits Tryz.f81.ntmps c)) = some (some s81, true) := by kernel_rfl
theorem r81 : Tryz.f81.results.toList = [.tmp 4] := by kernel_rfl
attribute [go_sem] s81
abbrev kp82 : List Nat := [3]
def s82 : SC :=
 .seq (.ops [⟨some 2, .box 96 (.tmp 0), true, none⟩,
  ⟨some 3, .assign (.const (.bool false)), false, none⟩]) <|
 .seq (.keep [1, 2]) <|
 .seq (.ops [⟨some 4, .load 29 (.tmp 1), false, none⟩,
  ⟨some 5, .fieldAddr 96 (.tmp 2) 0, false, none⟩,
  ⟨some 6, .load 29 (.tmp 5), false, none⟩,
  ⟨some 7, .binOp .geq 29 (.tmp 4) (.tmp 6) 29, false, none⟩,
  ⟨some 8, .move (.tmp 7), false, none⟩,
  ⟨some 9, .load 29 (.tmp 1), false, some (8, true)⟩,
  ⟨some 10, .fieldAddr 96 (.tmp 2) 1, false, some (8, true)⟩,
  ⟨some 11, .load 29 (.tmp 10), false, some (8, true)⟩,
  ⟨some 12, .binOp .lss 29 (.tmp 9) (.tmp 11) 29, false, some (8, true)⟩,
  ⟨some 13, .pick (.tmp 8) (.tmp 12) (.const (.bool false)), false, none⟩,
  ⟨some 3, .assign (.tmp 13), false, none⟩]) <|
 .seq (.keep [3]) <|
 .ret
theorem c82 : Tryz.f82.body.map (fun c => ((compile Tryz.prog kp82 [] kp82 c).map (·.1), fits Tryz.f82.ntmps c)) = some (some s82, true) := by kernel_rfl
theorem r82 : Tryz.f82.results.toList = [.tmp 3] := by kernel_rfl
attribute [go_sem] s82
abbrev kp83 : List Nat := [4, 5]
def s83 : SC :=
 .seq (.ops [⟨some 4, .assign (.const (.int .i64 0)), false, none⟩,
  ⟨some 5, .assign (.const (.int .i64 0)), false, none⟩]) <|
 .seq (.keep [0, 1]) <|
 .seq (.ops [⟨some 6, .move (.tmp 0), false, none⟩,
  ⟨some 7, .binOp .rem 29 (.tmp 6) (.const (.int .u64 4096)) 29, false, none⟩,
  ⟨some 8, .convert 29 3 (.tmp 7), false, none⟩,
  ⟨some 4, .assign (.tmp 8), false, none⟩]) <|
 .seq (.keep [1, 4]) <|
 .seq (.ops [⟨some 9, .move (.tmp 4), false, none⟩,
  ⟨some 10, .move (.tmp 1), false, none⟩,
  ⟨some 11, .move (.tmp 4), false, none⟩,
  ⟨some 12, .binOp .sub 3 (.const (.int .i64 4096)) (.tmp 11) 3, false, none⟩,
  ⟨some 13, .call ⟨.builtin .min, #[(.tmp 10), (.tmp 12)], #[3, 3]⟩, false, none⟩,
  ⟨some 4, .assign (.tmp 9), false, none⟩,
  ⟨some 5, .assign (.tmp 13), false, none⟩]) <|
 .seq (.keep [4, 5]) <|
 .ret
theorem c83 : Tryz.f83.body.map (fun c => ((compile Tryz.prog kp83 [] kp83 c).map (·.1), fits Tryz.f83.ntmps c)) = some (some s83, true) := by kernel_rfl
theorem r83 : Tryz.f83.results.toList = [.tmp 4, .tmp 5] := by kernel_rfl
attribute [go_sem] s83
abbrev kp84 : List Nat := []
def s84 : SC :=
 .seq (.ops [⟨some 4, .move (.tmp 0), false, none⟩,
  ⟨some 5, .nilCheck (.tmp 4), false, none⟩,
  ⟨some 6, .fieldAddr 139 (.tmp 5) 2, false, none⟩,
  ⟨some 7, .load 29 (.tmp 6), false, none⟩,
  ⟨some 8, .binOp .add 29 (.tmp 7) (.const (.int .u64 1)) 29, false, none⟩,
  ⟨some 9, .nilCheck (.tmp 4), false, none⟩,
  ⟨some 10, .fieldAddr 139 (.tmp 9) 2, false, none⟩,
  ⟨none, .store 29 (.tmp 10) (.tmp 8), true, none⟩]) <|
 .seq (.keep [0, 1]) <|
 .seq (.ops [⟨some 11, .move (.tmp 0), false, none⟩]) <|
 .seq (.ops [⟨some 12, .nilCheck (.tmp 11), false, none⟩]) <|
 .seq (.ops [⟨some 13, .fieldAddr 139 (.tmp 12) 1, false, none⟩]) <|
 .seq (.ops [⟨some 14, .load 137 (.tmp 13), false, none⟩]) <|
 .seq (.ops [⟨some 15, .move (.tmp 1), false, none⟩]) <|
 .seq (.ops [⟨some 16, .move (.tmp 0), false, none⟩]) <|
 .seq (.ops [⟨some 17, .nilCheck (.tmp 16), false, none⟩]) <|
 .seq (.ops [⟨some 18, .fieldAddr 139 (.tmp 17) 2, false, none⟩]) <|
 .seq (.ops [⟨some 19, .load 29 (.tmp 18), false, none⟩]) <|
 .seq (.ops [⟨none, .mapUpdate 137 (.tmp 14) (.tmp 15) (.tmp 19), true, none⟩]) <|
 .skip
theorem c84 : Tryz.f84.body.map (fun c => ((compile Tryz.prog kp84 [] kp84 c).map (·.1), fits Tryz.f84.ntmps c)) = some (some s84, true) := by kernel_rfl
theorem r84 : Tryz.f84.results.toList = [] := by kernel_rfl
attribute [go_sem] s84
abbrev kp85 : List Nat := [4, 5]
def s85 : SC :=
 .seq (.ops [⟨some 4, .assign (.const (.int .i64 0)), false, none⟩,
  ⟨some 5, .assign (.const (.bool false)), false, none⟩]) <|
 .seq (.keep [0, 1]) <|
 .seq (.ops [⟨some 6, .assign (.const (.int .i64 0)), false, none⟩]) <|
 .seq (.keep [0, 1, 6]) <|
 .seq (.ops [⟨some 9, .move (.tmp 0), false, none⟩,
  ⟨some 10, .nilCheck (.tmp 9), false, none⟩,
  ⟨some 11, .fieldAddr 87 (.tmp 10) 0, false, none⟩,
  ⟨some 12, .load 85 (.tmp 11), false, none⟩,
  ⟨some 13, .call ⟨.builtin .len, #[(.tmp 12)], #[85]⟩, false, none⟩,
  ⟨some 7, .assign (.tmp 13), false, none⟩]) <|
 .seq (.keep [0, 1, 6, 7]) <|
 .seq (.block 0 <| .loop <| .seq (.seq (.seq (.ops [⟨some 14, .move (.tmp 6), false, none⟩,
  ⟨some 15, .move (.tmp 7), false, none⟩,
  ⟨some 16, .binOp .lss 3 (.tmp 14) (.tmp 15) 3, false, none⟩]) <|
 .seq (.keep [0, 1, 6, 7, 16]) <|
 .cond (.tmp 16) (.skip) <|
 .exit 0) <|
 .seq (.keep [0, 1, 6, 7]) <|
 .block 1 <| .seq (.ops [⟨some 17, .move (.tmp 6), false, none⟩,
  ⟨some 18, .move (.tmp 7), false, none⟩,
  ⟨some 19, .binOp .add 3 (.tmp 17) (.tmp 18) 3, false, none⟩,
  ⟨some 20, .binOp .quo 3 (.tmp 19) (.const (.int .i64 2)) 3, false, none⟩,
  ⟨some 8, .assign (.tmp 20), false, none⟩]) <|
 .seq (.keep [0, 1, 6, 7, 8]) <|
 .seq (.ops [⟨some 21, .move (.tmp 0), false, none⟩,
  ⟨some 22, .nilCheck (.tmp 21), false, none⟩,
  ⟨some 23, .fieldAddr 87 (.tmp 22) 0, false, none⟩,
  ⟨some 24, .load 85 (.tmp 23), false, none⟩,
  ⟨some 25, .move (.tmp 8), false, none⟩,
  ⟨some 26, .indexAddr 85 (.tmp 24) (.tmp 25), false, none⟩,
  ⟨some 27, .fieldAddr 92 (.tmp 26) 0, false, none⟩,
  ⟨some 28, .load 29 (.tmp 27), false, none⟩,
  ⟨some 29, .move (.tmp 1), false, none⟩,
  ⟨some 30, .binOp .lss 29 (.tmp 28) (.tmp 29) 29, false, none⟩]) <|
 .seq (.keep [0, 1, 6, 7, 8, 30]) <|
 .cond (.tmp 30) (.ops [⟨some 31, .move (.tmp 8), false, none⟩,
  ⟨some 32, .binOp .add 3 (.tmp 31) (.const (.int .i64 1)) 3, false, none⟩,
  ⟨some 6, .assign (.tmp 32), false, none⟩]) <|
 .ops [⟨some 33, .move (.tmp 8), false, none⟩,
  ⟨some 7, .assign (.tmp 33), false, none⟩]) <|
 .keep [0, 1, 6, 7]) <|
 .seq (.keep [0, 1, 6]) <|
 .seq (.seq (.ops [⟨some 34, .move (.tmp 6), false, none⟩]) <|
 .seq (.ops [⟨some 35, .move (.tmp 6), false, none⟩]) <|
 .seq (.ops [⟨some 36, .move (.tmp 0), false, none⟩]) <|
 .seq (.ops [⟨some 37, .nilCheck (.tmp 36), false, none⟩]) <|
 .seq (.ops [⟨some 38, .fieldAddr 87 (.tmp 37) 0, false, none⟩]) <|
 .seq (.ops [⟨some 39, .load 85 (.tmp 38), false, none⟩]) <|
 .seq (.ops [⟨some 40, .call ⟨.builtin .len, #[(.tmp 39)], #[85]⟩, false, none⟩]) <|
 .seq (.ops [⟨some 41, .binOp .lss 3 (.tmp 35) (.tmp 40) 3, false, none⟩]) <|
 .seq (.ops [⟨some 42, .move (.tmp 41), false, none⟩]) <|
 .seq (.ops [⟨some 43, .move (.tmp 0), false, some (42, true)⟩]) <|
 .seq (.ops [⟨some 44, .nilCheck (.tmp 43), false, some (42, true)⟩]) <|
 .seq (.ops [⟨some 45, .fieldAddr 87 (.tmp 44) 0, false, some (42, true)⟩]) <|
 .seq (.ops [⟨some 46, .load 85 (.tmp 45), false, some (42, true)⟩]) <|
 .seq (.ops [⟨some 47, .move (.tmp 6), false, some (42, true)⟩]) <|
 .seq (.ops [⟨some 48, .indexAddr 85 (.tmp 46) (.tmp 47), false, some (42, true)⟩]) <|
 .seq (.ops [⟨some 49, .fieldAddr 92 (.tmp 48) 0, false, some (42, true)⟩]) <|
 .seq (.ops [⟨some 50, .load 29 (.tmp 49), false, some (42, true)⟩]) <|
 .seq (.ops [⟨some 51, .move (.tmp 1), false, some (42, true)⟩]) <|
 .seq (.ops [⟨some 52, .binOp .eql 29 (.tmp 50) (.tmp 51) 29, false, some (42, true)⟩]) <|
 .seq (.ops [⟨some 53, .pick (.tmp 42) (.tmp 52) (.const (.bool false)), false, none⟩]) <|
 .seq (.ops [⟨some 4, .assign (.tmp 34), false, none⟩]) <|
 .seq (.ops [⟨some 5, .assign (.tmp 53), false, none⟩]) <|
 .skip) <|
 .seq (.keep [4, 5]) <|
 .ret
theorem c85 : Tryz.f85.body.map (fun c => ((compile Tryz.prog kp85 [] kp85 c).map (·.1), fits Tryz.f85.ntmps c)) = some (some s85, true) := by kernel_rfl
theorem r85 : Tryz.f85.results.toList = [.tmp 4, .tmp 5] := by kernel_rfl
attribute [go_sem] s85
abbrev kp86 : List Nat := [2]
def s86 : SC :=
 .seq (.ops [⟨some 2, .assign (.const (.bool false)), false, none⟩]) <|
 .seq (.keep [0]) <|
 .seq (.ops [⟨some 3, .move (.tmp 0), false, none⟩,
  ⟨some 4, .binOp .eql 3 (.tmp 3) (.const (.int .i64 1)) 3, false, none⟩,
  ⟨some 5, .move (.tmp 4), false, none⟩,
  ⟨some 6, .move (.tmp 0), false, some (5, false)⟩,
  ⟨some 7, .binOp .eql 3 (.tmp 6) (.const (.int .i64 2)) 3, false, some (5, false)⟩,
  ⟨some 8, .pick (.tmp 5) (.const (.bool true)) (.tmp 7), false, none⟩,
  ⟨some 9, .move (.tmp 8), false, none⟩,
  ⟨some 10, .move (.tmp 0), false, some (9, false)⟩,
  ⟨some 11, .binOp .eql 3 (.tmp 10) (.const (.int .i64 4)) 3, false, some (9, false)⟩,
  ⟨some 12, .pick (.tmp 9) (.const (.bool true)) (.tmp 11), false, none⟩,
  ⟨some 13, .move (.tmp 12), false, none⟩,
  ⟨some 14, .move (.tmp 0), false, some (13, false)⟩,
  ⟨some 15, .binOp .eql 3 (.tmp 14) (.const (.int .i64 8)) 3, false, some (13, false)⟩,
  ⟨some 16, .pick (.tmp 13) (.const (.bool true)) (.tmp 15), false, none⟩,
  ⟨some 2, .assign (.tmp 16), false, none⟩]) <|
 .seq (.keep [2]) <|
 .ret
theorem c86 : Tryz.f86.body.map (fun c => ((compile Tryz.prog kp86 [] kp86 c).map (·.1), fits Tryz.f86.ntmps c)) = some (some s86, true) := by kernel_rfl
theorem r86 : Tryz.f86.results.toList = [.tmp 2] := by kernel_rfl
attribute [go_sem] s86
abbrev kp87 : List Nat := [8, 9]
def s87 : SC :=
 .seq (.ops [⟨some 8, .assign (.const (.int .u64 0)), false, none⟩,
  ⟨some 9, .assign (.const (.bool false)), false, none⟩]) <|
 .seq (.keep [0, 1, 2, 3]) <|
 .seq (.seq (.ops [⟨some 13, .move (.tmp 2), false, none⟩,
  ⟨some 14, .convert 3 29 (.tmp 13), false, none⟩,
  ⟨some 15, .move (.const (.int .u64 0)), false, none⟩]) <|
 .seq (.keep [0, 1, 3, 14, 15]) <|
 .block 0 <| .loop <| .seq (.seq (.ops [⟨some 16, .binOp .lss 29 (.tmp 15) (.tmp 14) 29, false, none⟩]) <|
 .seq (.keep [0, 1, 3, 14, 15, 16]) <|
 .seq (.cond (.tmp 16) (.skip) <|
 .exit 0) <|
 .seq (.keep [0, 1, 3, 14, 15]) <|
 .seq (.block 1 <| .seq (.ops [⟨some 17, .move (.tmp 15), false, none⟩,
  ⟨some 10, .assign (.tmp 17), false, none⟩]) <|
 .seq (.keep [0, 1, 3, 10, 14, 15]) <|
 .seq (.ops [⟨some 19, .move (.tmp 0), false, none⟩,
  ⟨some 20, .nilCheck (.tmp 19), false, none⟩,
  ⟨some 21, .fieldAddr 84 (.tmp 20) 0, false, none⟩,
  ⟨some 22, .load 79 (.tmp 21), false, none⟩,
  ⟨some 23, .move (.tmp 1), false, none⟩,
  ⟨some 24, .move (.tmp 10), false, none⟩,
  ⟨some 25, .binOp .add 29 (.tmp 23) (.tmp 24) 29, false, none⟩,
  ⟨some 26, .call ⟨.value (.func 46), #[(.tmp 22), (.tmp 25)], #[79, 29]⟩, true, none⟩,
  ⟨some 18, .move (.tmp 26), false, none⟩,
  ⟨some 27, .extract (.tmp 18) 0, false, none⟩,
  ⟨some 28, .extract (.tmp 18) 1, false, none⟩,
  ⟨some 11, .alloc 96, true, none⟩,
  ⟨none, .store 96 (.tmp 11) (.tmp 27), true, none⟩,
  ⟨some 12, .assign (.tmp 28), false, none⟩]) <|
 .seq (.keep [0, 1, 3, 10, 11, 12, 14, 15]) <|
 .seq (.ops [⟨some 29, .move (.tmp 12), false, none⟩,
  ⟨some 30, .unOp .not 4 (.tmp 29), false, none⟩,
  ⟨some 31, .move (.tmp 30), false, none⟩,
  ⟨some 32, .fieldAddr 96 (.tmp 11) 2, false, some (31, false)⟩,
  ⟨some 33, .load 3 (.tmp 32), false, some (31, false)⟩,
  ⟨some 34, .move (.tmp 3), false, some (31, false)⟩,
  ⟨some 35, .binOp .and 3 (.tmp 33) (.tmp 34) 3, false, some (31, false)⟩,
  ⟨some 36, .move (.tmp 3), false, some (31, false)⟩,
  ⟨some 37, .binOp .neq 3 (.tmp 35) (.tmp 36) 3, false, some (31, false)⟩,
  ⟨some 38, .pick (.tmp 31) (.const (.bool true)) (.tmp 37), false, none⟩]) <|
 .seq (.keep [0, 1, 3, 10, 14, 15, 38]) <|
 .cond (.tmp 38) (.seq (.ops [⟨some 39, .move (.tmp 1), false, none⟩,
  ⟨some 40, .move (.tmp 10), false, none⟩,
  ⟨some 41, .binOp .add 29 (.tmp 39) (.tmp 40) 29, false, none⟩,
  ⟨some 8, .assign (.tmp 41), false, none⟩,
  ⟨some 9, .assign (.const (.bool true)), false, none⟩]) <|
 .seq (.keep [8, 9]) <|
 .ret) <|
 .skip) <|
 .seq (.keep [0, 1, 3, 14, 15]) <|
 .ops [⟨some 42, .binOp .add 29 (.tmp 15) (.const (.int .u64 1)) 29, false, none⟩,
  ⟨some 15, .move (.tmp 42), false, none⟩]) <|
 .keep [0, 1, 3, 14, 15]) <|
 .seq (.keep []) <|
 .seq (.ops [⟨some 8, .assign (.const (.int .u64 0)), false, none⟩,
  ⟨some 9, .assign (.const (.bool false)), false, none⟩]) <|
 .seq (.keep [8, 9]) <|
 .ret
theorem c87 : Tryz.f87.body.map (fun c => ((compile Tryz.prog kp87 [] kp87 c).map (·.1), fits Tryz.f87.ntmps c)) = some (some s87, true) := by kernel_rfl
theorem r87 : Tryz.f87.results.toList = [.tmp 8, .tmp 9] := by kernel_rfl
attribute [go_sem] s87
abbrev kp90 : List Nat := [4]
def s90 : SC :=
 .seq (.ops [⟨some 4, .assign (.const (.bool false)), false, none⟩]) <|
 .seq (.keep [0, 1]) <|
 .seq (.ops [⟨some 5, .move (.tmp 0), false, none⟩,
  ⟨some 6, .binOp .rem 29 (.tmp 5) (.const (.int .u64 4096)) 29, false, none⟩,
  ⟨some 7, .binOp .eql 29 (.tmp 6) (.const (.int .u64 0)) 29, false, none⟩,
  ⟨some 8, .move (.tmp 7), false, none⟩,
  ⟨some 9, .move (.tmp 1), false, some (8, true)⟩,
  ⟨some 10, .binOp .rem 29 (.tmp 9) (.const (.int .u64 4096)) 29, false, some (8, true)⟩,
  ⟨some 11, .binOp .eql 29 (.tmp 10) (.const (.int .u64 0)) 29, false, some (8, true)⟩,
  ⟨some 12, .pick (.tmp 8) (.tmp 11) (.const (.bool false)), false, none⟩,
  ⟨some 13, .move (.tmp 12), false, none⟩,
  ⟨some 14, .move (.tmp 0), false, some (13, true)⟩,
  ⟨some 15, .move (.tmp 1), false, some (13, true)⟩,
  ⟨some 16, .binOp .lss 29 (.tmp 14) (.tmp 15) 29, false, some (13, true)⟩,
  ⟨some 17, .pick (.tmp 13) (.tmp 16) (.const (.bool false)), false, none⟩,
  ⟨some 18, .move (.tmp 17), false, none⟩,
  ⟨some 19, .move (.tmp 1), false, some (18, true)⟩,
  ⟨some 20, .binOp .leq 29 (.tmp 19) (.const (.int .u64 274877906944)) 29, false, some (18, true)⟩,
  ⟨some 21, .pick (.tmp 18) (.tmp 20) (.const (.bool false)), false, none⟩,
  ⟨some 4, .assign (.tmp 21), false, none⟩]) <|
 .seq (.keep [4]) <|
 .ret
theorem c90 : Tryz.f90.body.map (fun c => ((compile Tryz.prog kp90 [] kp90 c).map (·.1), fits Tryz.f90.ntmps c)) = some (some s90, true) := by kernel_rfl
theorem r90 : Tryz.f90.results.toList = [.tmp 4] := by kernel_rfl
attribute [go_sem] s90
abbrev kp91 : List Nat := [2]
def s91 : SC :=
 .seq (.ops [⟨some 2, .assign (.const (.bool false)), false, none⟩]) <|
 .seq (.keep [0]) <|
 .seq (.ops [⟨some 3, .move (.tmp 0), false, none⟩,
  ⟨some 4, .binOp .geq 3 (.tmp 3) (.const (.int .i64 0)) 3, false, none⟩,
  ⟨some 5, .move (.tmp 4), false, none⟩,
  ⟨some 6, .move (.tmp 0), false, some (5, true)⟩,
  ⟨some 7, .binOp .leq 3 (.tmp 6) (.const (.int .i64 7)) 3, false, some (5, true)⟩,
  ⟨some 8, .pick (.tmp 5) (.tmp 7) (.const (.bool false)), false, none⟩,
  ⟨some 2, .assign (.tmp 8), false, none⟩]) <|
 .seq (.keep [2]) <|
 .ret
theorem c91 : Tryz.f91.body.map (fun c => ((compile Tryz.prog kp91 [] kp91 c).map (·.1), fits Tryz.f91.ntmps c)) = some (some s91, true) := by kernel_rfl
theorem r91 : Tryz.f91.results.toList = [.tmp 2] := by kernel_rfl
attribute [go_sem] s91
abbrev kp93 : List Nat := [4]
def s93 : SC :=
 .seq (.ops [⟨some 4, .assign (.const (.int .i64 0)), false, none⟩]) <|
 .seq (.keep [0, 1]) <|
 .seq (.ops [⟨some 5, .move (.tmp 1), false, none⟩,
  ⟨some 6, .call ⟨.value (.func 122), #[(.tmp 5)], #[93]⟩, true, none⟩,
  ⟨some 1, .assign (.tmp 6), false, none⟩]) <|
 .seq (.keep [0, 1]) <|
 .seq (.seq (.ops [⟨some 7, .move (.tmp 1), false, none⟩,
  ⟨some 8, .call ⟨.builtin .len, #[(.tmp 7)], #[93]⟩, false, none⟩,
  ⟨some 9, .binOp .gtr 3 (.tmp 8) (.const (.int .i64 256)) 3, false, none⟩]) <|
 .seq (.keep [0, 1, 9]) <|
 .cond (.tmp 9) (.seq (.ops [⟨some 4, .assign (.const (.int .i64 12)), false, none⟩]) <|
 .seq (.keep [4]) <|
 .ret) <|
 .skip) <|
 .seq (.keep [0, 1]) <|
 .seq (.ops [⟨some 10, .move (.tmp 0), false, none⟩,
  ⟨some 11, .move (.tmp 1), false, none⟩,
  ⟨some 12, .nilCheck (.tmp 10), false, none⟩,
  ⟨some 13, .fieldAddr 135 (.tmp 12) 0, false, none⟩,
  ⟨none, .store 93 (.tmp 13) (.tmp 11), true, none⟩]) <|
 .seq (.keep []) <|
 .seq (.ops [⟨some 4, .assign (.const (.int .i64 0)), false, none⟩]) <|
 .seq (.keep [4]) <|
 .ret
theorem c93 : Tryz.f93.body.map (fun c => ((compile Tryz.prog kp93 [] kp93 c).map (·.1), fits Tryz.f93.ntmps c)) = some (some s93, true) := by kernel_rfl
theorem r93 : Tryz.f93.results.toList = [.tmp 4] := by kernel_rfl
attribute [go_sem] s93
abbrev kp94 : List Nat := [4]
def s94 : SC :=
 .seq (.ops [⟨some 3, .box 96 (.tmp 1), true, none⟩,
  ⟨some 4, .assign (.const (.slice none 0 0)), false, none⟩]) <|
 .seq (.keep [0, 3]) <|
 .seq (.ops [⟨some 7, .move (.tmp 0), false, none⟩,
  ⟨some 8, .fieldAddr 96 (.tmp 3) 0, false, none⟩,
  ⟨some 9, .load 29 (.tmp 8), false, none⟩,
  ⟨some 10, .fieldAddr 96 (.tmp 3) 1, false, none⟩,
  ⟨some 11, .load 29 (.tmp 10), false, none⟩,
  ⟨some 12, .call ⟨.value (.func 98), #[(.tmp 7), (.tmp 9), (.tmp 11)], #[93, 29, 29]⟩, true, none⟩,
  ⟨some 5, .assign (.tmp 12), false, none⟩]) <|
 .seq (.keep [3, 5]) <|
 .seq (.ops [⟨some 13, .move (.tmp 5), false, none⟩,
  ⟨some 14, .makeFunc (.func 123) #[] #[(.tmp 3)], false, none⟩,
  ⟨some 15, .call ⟨.value (.func 81), #[(.tmp 13), (.tmp 14)], #[93, 142]⟩, true, none⟩,
  ⟨some 6, .assign (.tmp 15), false, none⟩]) <|
 .seq (.keep [3, 5, 6]) <|
 .seq (.seq (.ops [⟨some 16, .move (.tmp 6), false, none⟩,
  ⟨some 17, .binOp .lss 3 (.tmp 16) (.const (.int .i64 0)) 3, false, none⟩]) <|
 .seq (.keep [3, 5, 6, 17]) <|
 .cond (.tmp 17) (.ops [⟨some 18, .move (.tmp 5), false, none⟩,
  ⟨some 19, .call ⟨.builtin .len, #[(.tmp 18)], #[93]⟩, false, none⟩,
  ⟨some 6, .assign (.tmp 19), false, none⟩]) <|
 .skip) <|
 .seq (.keep [3, 5, 6]) <|
 .seq (.ops [⟨some 20, .move (.tmp 5), false, none⟩,
  ⟨some 21, .move (.tmp 6), false, none⟩,
  ⟨some 22, .load 96 (.tmp 3), false, none⟩,
  ⟨some 23, .buildSlice 93 1 #[(0, (.tmp 22))], true, none⟩,
  ⟨some 24, .call ⟨.value (.func 124), #[(.tmp 20), (.tmp 21), (.tmp 23)], #[93, 3, 93]⟩, true, none⟩,
  ⟨some 4, .assign (.tmp 24), false, none⟩]) <|
 .seq (.keep [4]) <|
 .ret
theorem c94 : Tryz.f94.body.map (fun c => ((compile Tryz.prog kp94 [] kp94 c).map (·.1), fits Tryz.f94.ntmps c)) = some (some s94, true) := by kernel_rfl
theorem r94 : Tryz.f94.results.toList = [.tmp 4] := by kernel_rfl
attribute [go_sem] s94
abbrev kp95 : List Nat := [4]
def s95 : SC :=
 .seq (.ops [⟨some 4, .assign (.const (.bool false)), false, none⟩]) <|
 .seq (.keep [0, 1]) <|
 .seq (.ops [⟨some 5, .move (.tmp 1), false, none⟩,
  ⟨some 6, .binOp .add 29 (.tmp 5) (.const (.int .u64 4096)) 29, false, none⟩,
  ⟨some 7, .binOp .sub 29 (.tmp 6) (.const (.int .u64 1)) 29, false, none⟩,
  ⟨some 8, .binOp .quo 29 (.tmp 7) (.const (.int .u64 4096)) 29, false, none⟩,
  ⟨some 9, .move (.tmp 0), false, none⟩,
  ⟨some 10, .binOp .quo 29 (.tmp 9) (.const (.int .u64 4096)) 29, false, none⟩,
  ⟨some 11, .binOp .sub 29 (.tmp 8) (.tmp 10) 29, false, none⟩,
  ⟨some 12, .binOp .gtr 29 (.tmp 11) (.const (.int .u64 4096)) 29, false, none⟩,
  ⟨some 4, .assign (.tmp 12), false, none⟩]) <|
 .seq (.keep [4]) <|
 .ret
theorem c95 : Tryz.f95.body.map (fun c => ((compile Tryz.prog kp95 [] kp95 c).map (·.1), fits Tryz.f95.ntmps c)) = some (some s95, true) := by kernel_rfl
theorem r95 : Tryz.f95.results.toList = [.tmp 4] := by kernel_rfl
attribute [go_sem] s95
abbrev kp98 : List Nat := [6]
def s98 : SC :=
 .seq (.ops [⟨some 6, .assign (.const (.slice none 0 0)), false, none⟩]) <|
 .seq (.keep [0, 1, 2]) <|
 .seq (.ops [⟨some 7, .assign (.const (.slice none 0 0)), false, none⟩]) <|
 .seq (.keep [0, 1, 2, 7]) <|
 .seq (.seq (.ops [⟨some 10, .move (.tmp 0), false, none⟩,
  ⟨some 11, .call ⟨.builtin .len, #[(.tmp 10)], #[93]⟩, false, none⟩,
  ⟨some 12, .move (.const (.int .i64 0)), false, none⟩]) <|
 .seq (.keep [1, 2, 7, 10, 11, 12]) <|
 .block 0 <| .loop <| .seq (.seq (.ops [⟨some 13, .binOp .lss 3 (.tmp 12) (.tmp 11) 3, false, none⟩]) <|
 .seq (.keep [1, 2, 7, 10, 11, 12, 13]) <|
 .seq (.cond (.tmp 13) (.skip) <|
 .exit 0) <|
 .seq (.keep [1, 2, 7, 10, 11, 12]) <|
 .seq (.block 1 <| .seq (.ops [⟨some 14, .indexAddr 93 (.tmp 10) (.tmp 12), false, none⟩,
  ⟨some 15, .load 96 (.tmp 14), false, none⟩,
  ⟨some 9, .alloc 96, true, none⟩,
  ⟨none, .store 96 (.tmp 9) (.tmp 15), true, none⟩]) <|
 .seq (.keep [1, 2, 7, 9, 10, 11, 12]) <|
 .seq (.seq (.ops [⟨some 16, .fieldAddr 96 (.tmp 9) 1, false, none⟩,
  ⟨some 17, .load 29 (.tmp 16), false, none⟩,
  ⟨some 18, .move (.tmp 1), false, none⟩,
  ⟨some 19, .binOp .leq 29 (.tmp 17) (.tmp 18) 29, false, none⟩,
  ⟨some 20, .move (.tmp 19), false, none⟩,
  ⟨some 21, .fieldAddr 96 (.tmp 9) 0, false, some (20, false)⟩,
  ⟨some 22, .load 29 (.tmp 21), false, some (20, false)⟩,
  ⟨some 23, .move (.tmp 2), false, some (20, false)⟩,
  ⟨some 24, .binOp .geq 29 (.tmp 22) (.tmp 23) 29, false, some (20, false)⟩,
  ⟨some 25, .pick (.tmp 20) (.const (.bool true)) (.tmp 24), false, none⟩]) <|
 .seq (.keep [1, 2, 7, 9, 10, 11, 12, 25]) <|
 .cond (.tmp 25) (.seq (.ops [⟨some 26, .move (.tmp 7), false, none⟩,
  ⟨some 27, .load 96 (.tmp 9), false, none⟩,
  ⟨some 28, .buildSlice 93 1 #[(0, (.tmp 27))], true, none⟩,
  ⟨some 29, .call ⟨.builtin .append, #[(.tmp 26), (.tmp 28)], #[93, 93]⟩, true, none⟩,
  ⟨some 7, .assign (.tmp 29), false, none⟩]) <|
 .seq (.keep [1, 2, 7, 10, 11, 12]) <|
 .exit 1) <|
 .skip) <|
 .seq (.keep [1, 2, 7, 9, 10, 11, 12]) <|
 .seq (.seq (.ops [⟨some 30, .fieldAddr 96 (.tmp 9) 0, false, none⟩,
  ⟨some 31, .load 29 (.tmp 30), false, none⟩,
  ⟨some 32, .move (.tmp 1), false, none⟩,
  ⟨some 33, .binOp .lss 29 (.tmp 31) (.tmp 32) 29, false, none⟩]) <|
 .seq (.keep [1, 2, 7, 9, 10, 11, 12, 33]) <|
 .cond (.tmp 33) (.ops [⟨some 34, .move (.tmp 7), false, none⟩,
  ⟨some 35, .fieldAddr 96 (.tmp 9) 0, false, none⟩,
  ⟨some 36, .load 29 (.tmp 35), false, none⟩,
  ⟨some 37, .move (.tmp 1), false, none⟩,
  ⟨some 38, .fieldAddr 96 (.tmp 9) 2, false, none⟩,
  ⟨some 39, .load 3 (.tmp 38), false, none⟩,
  ⟨some 40, .build 96 #[(0, (.tmp 36)), (1, (.tmp 37)), (2, (.tmp 39))], false, none⟩,
  ⟨some 41, .buildSlice 93 1 #[(0, (.tmp 40))], true, none⟩,
  ⟨some 42, .call ⟨.builtin .append, #[(.tmp 34), (.tmp 41)], #[93, 93]⟩, true, none⟩,
  ⟨some 7, .assign (.tmp 42), false, none⟩]) <|
 .skip) <|
 .seq (.keep [1, 2, 7, 9, 10, 11, 12]) <|
 .seq (.ops [⟨some 43, .fieldAddr 96 (.tmp 9) 1, false, none⟩,
  ⟨some 44, .load 29 (.tmp 43), false, none⟩,
  ⟨some 45, .move (.tmp 2), false, none⟩,
  ⟨some 46, .binOp .gtr 29 (.tmp 44) (.tmp 45) 29, false, none⟩]) <|
 .seq (.keep [1, 2, 7, 9, 10, 11, 12, 46]) <|
 .cond (.tmp 46) (.ops [⟨some 47, .move (.tmp 7), false, none⟩,
  ⟨some 48, .move (.tmp 2), false, none⟩,
  ⟨some 49, .fieldAddr 96 (.tmp 9) 1, false, none⟩,
  ⟨some 50, .load 29 (.tmp 49), false, none⟩,
  ⟨some 51, .fieldAddr 96 (.tmp 9) 2, false, none⟩,
  ⟨some 52, .load 3 (.tmp 51), false, none⟩,
  ⟨some 53, .build 96 #[(0, (.tmp 48)), (1, (.tmp 50)), (2, (.tmp 52))], false, none⟩,
  ⟨some 54, .buildSlice 93 1 #[(0, (.tmp 53))], true, none⟩,
  ⟨some 55, .call ⟨.builtin .append, #[(.tmp 47), (.tmp 54)], #[93, 93]⟩, true, none⟩,
  ⟨some 7, .assign (.tmp 55), false, none⟩]) <|
 .skip) <|
 .seq (.keep [1, 2, 7, 10, 11, 12]) <|
 .ops [⟨some 56, .binOp .add 3 (.tmp 12) (.const (.int .i64 1)) 3, false, none⟩,
  ⟨some 12, .move (.tmp 56), false, none⟩]) <|
 .keep [1, 2, 7, 10, 11, 12]) <|
 .seq (.keep [7]) <|
 .seq (.ops [⟨some 57, .move (.tmp 7), false, none⟩,
  ⟨some 6, .assign (.tmp 57), false, none⟩]) <|
 .seq (.keep [6]) <|
 .ret
theorem c98 : Tryz.f98.body.map (fun c => ((compile Tryz.prog kp98 [] kp98 c).map (·.1), fits Tryz.f98.ntmps c)) = some (some s98, true) := by kernel_rfl
theorem r98 : Tryz.f98.results.toList = [.tmp 6] := by kernel_rfl
attribute [go_sem] s98
abbrev kp99 : List Nat := [4, 5]
def s99 : SC :=
 .seq (.ops [⟨some 4, .assign (.const (.int .u32 0)), false, none⟩,
  ⟨some 5, .alloc 41, true, none⟩]) <|
 .seq (.keep [0, 1, 5]) <|
 .seq (.seq (.ops [⟨some 9, .move (.tmp 0), false, none⟩,
  ⟨some 10, .binOp .eql 24 (.tmp 9) (.const (.pointer none)) 24, false, none⟩,
  ⟨some 11, .move (.tmp 10), false, none⟩,
  ⟨some 12, .move (.tmp 1), false, some (11, false)⟩,
  ⟨some 13, .binOp .rem 29 (.tmp 12) (.const (.int .u64 2)) 29, false, some (11, false)⟩,
  ⟨some 14, .binOp .neq 29 (.tmp 13) (.const (.int .u64 0)) 29, false, some (11, false)⟩,
  ⟨some 15, .pick (.tmp 11) (.const (.bool true)) (.tmp 14), false, none⟩]) <|
 .seq (.keep [0, 1, 5, 15]) <|
 .cond (.tmp 15) (.seq (.ops [⟨some 16, .move (.tmp 1), false, none⟩,
  ⟨some 17, .build 41 #[(0, (.const (.int .i64 3))), (1, (.tmp 16))], false, none⟩,
  ⟨some 4, .assign (.const (.int .u32 0)), false, none⟩,
  ⟨none, .store 41 (.tmp 5) (.tmp 17), true, none⟩]) <|
 .seq (.keep [4, 5]) <|
 .ret) <|
 .skip) <|
 .seq (.keep [0, 1, 5]) <|
 .seq (.ops [⟨some 19, .move (.tmp 0), false, none⟩,
  ⟨some 20, .move (.tmp 1), false, none⟩,
  ⟨some 21, .call ⟨.value (.func 125), #[(.tmp 19), (.tmp 20)], #[24, 29]⟩, true, none⟩,
  ⟨some 18, .move (.tmp 21), false, none⟩,
  ⟨some 22, .extract (.tmp 18) 0, false, none⟩,
  ⟨some 23, .extract (.tmp 18) 1, false, none⟩,
  ⟨some 7, .alloc 41, true, none⟩,
  ⟨some 6, .assign (.tmp 22), false, none⟩,
  ⟨none, .store 41 (.tmp 7) (.tmp 23), true, none⟩]) <|
 .seq (.keep [0, 1, 5, 6, 7]) <|
 .seq (.seq (.ops [⟨some 24, .fieldAddr 41 (.tmp 7) 0, false, none⟩,
  ⟨some 25, .load 3 (.tmp 24), false, none⟩,
  ⟨some 26, .binOp .neq 3 (.tmp 25) (.const (.int .i64 0)) 3, false, none⟩,
  ⟨some 27, .move (.tmp 26), false, none⟩,
  ⟨some 28, .move (.tmp 6), false, some (27, false)⟩,
  ⟨some 29, .binOp .and 37 (.tmp 28) (.const (.int .u32 3)) 37, false, some (27, false)⟩,
  ⟨some 30, .binOp .neq 37 (.tmp 29) (.const (.int .u32 3)) 37, false, some (27, false)⟩,
  ⟨some 31, .pick (.tmp 27) (.const (.bool true)) (.tmp 30), false, none⟩]) <|
 .seq (.keep [0, 1, 5, 6, 7, 31]) <|
 .cond (.tmp 31) (.seq (.seq (.ops [⟨some 32, .move (.tmp 6), false, none⟩]) <|
 .seq (.ops [⟨some 33, .load 41 (.tmp 7), false, none⟩]) <|
 .seq (.ops [⟨some 4, .assign (.tmp 32), false, none⟩]) <|
 .seq (.ops [⟨none, .store 41 (.tmp 5) (.tmp 33), true, none⟩]) <|
 .skip) <|
 .seq (.keep [4, 5]) <|
 .ret) <|
 .skip) <|
 .seq (.keep [0, 1, 5, 6, 7]) <|
 .seq (.ops [⟨some 35, .move (.tmp 0), false, none⟩,
  ⟨some 36, .move (.tmp 1), false, none⟩,
  ⟨some 37, .binOp .add 29 (.tmp 36) (.const (.int .u64 2)) 29, false, none⟩,
  ⟨some 38, .call ⟨.value (.func 125), #[(.tmp 35), (.tmp 37)], #[24, 29]⟩, true, none⟩,
  ⟨some 34, .move (.tmp 38), false, none⟩,
  ⟨some 39, .extract (.tmp 34) 0, false, none⟩,
  ⟨some 40, .extract (.tmp 34) 1, false, none⟩,
  ⟨some 8, .assign (.tmp 39), false, none⟩,
  ⟨none, .store 41 (.tmp 7) (.tmp 40), true, none⟩]) <|
 .seq (.keep [5, 6, 7, 8]) <|
 .seq (.seq (.ops [⟨some 41, .fieldAddr 41 (.tmp 7) 0, false, none⟩,
  ⟨some 42, .load 3 (.tmp 41), false, none⟩,
  ⟨some 43, .binOp .neq 3 (.tmp 42) (.const (.int .i64 0)) 3, false, none⟩]) <|
 .seq (.keep [5, 6, 7, 8, 43]) <|
 .cond (.tmp 43) (.seq (.seq (.ops [⟨some 44, .load 41 (.tmp 7), false, none⟩]) <|
 .seq (.ops [⟨some 4, .assign (.const (.int .u32 0)), false, none⟩]) <|
 .seq (.ops [⟨none, .store 41 (.tmp 5) (.tmp 44), true, none⟩]) <|
 .skip) <|
 .seq (.keep [4, 5]) <|
 .ret) <|
 .skip) <|
 .seq (.keep [5, 6, 8]) <|
 .seq (.ops [⟨some 45, .move (.tmp 8), false, none⟩,
  ⟨some 46, .binOp .shl 37 (.tmp 45) (.const (.int .u64 16)) 44, false, none⟩,
  ⟨some 47, .move (.tmp 6), false, none⟩,
  ⟨some 48, .binOp .or 37 (.tmp 46) (.tmp 47) 37, false, none⟩,
  ⟨some 49, .build 41 #[], false, none⟩,
  ⟨some 4, .assign (.tmp 48), false, none⟩,
  ⟨none, .store 41 (.tmp 5) (.tmp 49), true, none⟩]) <|
 .seq (.keep [4, 5]) <|
 .ret
theorem c99 : Tryz.f99.body.map (fun c => ((compile Tryz.prog kp99 [] kp99 c).map (·.1), fits Tryz.f99.ntmps c)) = some (some s99, true) := by kernel_rfl
theorem r99 : Tryz.f99.results.toList = [.tmp 4, .cell 5 41] := by kernel_rfl
attribute [go_sem] s99
abbrev kp100 : List Nat := [2, 3]
def s100 : SC :=
 .seq (.ops [⟨some 2, .alloc 47, true, none⟩,
  ⟨some 3, .assign (.const (.bool false)), false, none⟩]) <|
 .seq (.keep [0, 2]) <|
 .seq (.seq (.ops [⟨some 4, .move (.tmp 0), false, none⟩,
  ⟨some 5, .convert 37 114 (.tmp 4), false, none⟩,
  ⟨some 6, .call ⟨.value (.func 126), #[(.tmp 5)], #[114]⟩, true, none⟩]) <|
 .seq (.keep [0, 2, 6]) <|
 .cond (.tmp 6) (.seq (.ops [⟨some 7, .move (.tmp 0), false, none⟩,
  ⟨some 8, .convert 37 114 (.tmp 7), false, none⟩,
  ⟨some 9, .call ⟨.value (.func 127), #[(.tmp 8)], #[114]⟩, true, none⟩,
  ⟨some 10, .extract (.tmp 9) 0, false, none⟩,
  ⟨some 11, .extract (.tmp 9) 1, false, none⟩,
  ⟨none, .store 47 (.tmp 2) (.tmp 10), true, none⟩,
  ⟨some 3, .assign (.tmp 11), false, none⟩]) <|
 .seq (.keep [2, 3]) <|
 .ret) <|
 .skip) <|
 .seq (.keep [0, 2]) <|
 .seq (.ops [⟨some 12, .move (.tmp 0), false, none⟩,
  ⟨some 13, .call ⟨.value (.func 128), #[(.tmp 12)], #[37]⟩, true, none⟩,
  ⟨some 14, .extract (.tmp 13) 0, false, none⟩,
  ⟨some 15, .extract (.tmp 13) 1, false, none⟩,
  ⟨none, .store 47 (.tmp 2) (.tmp 14), true, none⟩,
  ⟨some 3, .assign (.tmp 15), false, none⟩]) <|
 .seq (.keep [2, 3]) <|
 .ret
theorem c100 : Tryz.f100.body.map (fun c => ((compile Tryz.prog kp100 [] kp100 c).map (·.1), fits Tryz.f100.ntmps c)) = some (some s100, true) := by kernel_rfl
theorem r100 : Tryz.f100.results.toList = [.cell 2 47, .tmp 3] := by kernel_rfl
attribute [go_sem] s100
abbrev kp101 : List Nat := [4]
def s101 : SC :=
 .seq (.ops [⟨some 4, .assign (.const (.int .u64 0)), false, none⟩]) <|
 .seq (.keep [0, 1]) <|
 .seq (.seq (.ops [⟨some 5, .move (.tmp 0), false, none⟩,
  ⟨some 6, .binOp .eql 24 (.tmp 5) (.const (.pointer none)) 24, false, none⟩]) <|
 .seq (.keep [0, 1, 6]) <|
 .cond (.tmp 6) (.seq (.ops [⟨some 4, .assign (.const (.int .u64 0)), false, none⟩]) <|
 .seq (.keep [4]) <|
 .ret) <|
 .skip) <|
 .seq (.keep [0, 1]) <|
 .seq (.ops [⟨some 7, .move (.tmp 0), false, none⟩,
  ⟨some 8, .nilCheck (.tmp 7), false, none⟩,
  ⟨some 9, .fieldAddr 84 (.tmp 8) 1, false, none⟩,
  ⟨some 10, .load 81 (.tmp 9), false, none⟩,
  ⟨some 11, .move (.tmp 1), false, none⟩,
  ⟨some 12, .call ⟨.value (.func 129), #[(.tmp 10), (.tmp 11)], #[81, 29]⟩, true, none⟩,
  ⟨some 4, .assign (.tmp 12), false, none⟩]) <|
 .seq (.keep [4]) <|
 .ret
theorem c101 : Tryz.f101.body.map (fun c => ((compile Tryz.prog kp101 [] kp101 c).map (·.1), fits Tryz.f101.ntmps c)) = some (some s101, true) := by kernel_rfl
theorem r101 : Tryz.f101.results.toList = [.tmp 4] := by kernel_rfl
attribute [go_sem] s101
abbrev kp107 : List Nat := [4, 5]
def s107 : SC :=
 .seq (.ops [⟨some 3, .box 47 (.tmp 1), true, none⟩,
  ⟨some 4, .assign (.const (.int .u64 0)), false, none⟩,
  ⟨some 5, .assign (.const (.bool false)), false, none⟩]) <|
 .seq (.keep [0, 3]) <|
 .seq (.seq (.ops [⟨some 10, .move (.tmp 0), false, none⟩]) <|
 .seq (.ops [⟨some 11, .nilCheck (.tmp 10), false, none⟩]) <|
 .seq (.ops [⟨some 12, .fieldAddr 63 (.tmp 11) 0, false, none⟩]) <|
 .seq (.ops [⟨some 13, .load 29 (.tmp 12), false, none⟩]) <|
 .seq (.ops [⟨some 14, .fieldAddr 47 (.tmp 3) 6, false, none⟩]) <|
 .seq (.ops [⟨some 15, .load 3 (.tmp 14), false, none⟩]) <|
 .seq (.ops [⟨some 16, .convert 3 29 (.tmp 15), false, none⟩]) <|
 .seq (.ops [⟨some 17, .binOp .add 29 (.tmp 13) (.tmp 16) 29, false, none⟩]) <|
 .seq (.ops [⟨some 6, .assign (.tmp 17), false, none⟩]) <|
 .skip) <|
 .seq (.keep [0, 3, 6]) <|
 .seq (.seq (.ops [⟨some 18, .fieldAddr 47 (.tmp 3) 0, false, none⟩,
  ⟨some 19, .load 3 (.tmp 18), false, none⟩]) <|
 .seq (.keep [0, 3, 6, 19]) <|
 .block 0 <| .seq (.ops [⟨some 21, .binOp .eql 3 (.tmp 19) (.const (.int .i64 3)) 3, false, none⟩,
  ⟨some 20, .assign (.tmp 21), false, none⟩]) <|
 .seq (.keep [0, 3, 6, 19, 20]) <|
 .cond (.tmp 20) (.seq (.seq (.ops [⟨some 22, .move (.tmp 0), false, none⟩]) <|
 .seq (.ops [⟨some 23, .fieldAddr 47 (.tmp 3) 1, false, none⟩]) <|
 .seq (.ops [⟨some 24, .load 3 (.tmp 23), false, none⟩]) <|
 .seq (.ops [⟨some 25, .move (.tmp 6), false, none⟩]) <|
 .seq (.ops [⟨some 26, .nilCheck (.tmp 22), false, none⟩]) <|
 .seq (.ops [⟨some 27, .fieldAddr 63 (.tmp 26) 1, false, none⟩]) <|
 .seq (.ops [⟨some 28, .indexAddr 59 (.tmp 27) (.tmp 24), false, none⟩]) <|
 .seq (.ops [⟨none, .store 29 (.tmp 28) (.tmp 25), true, none⟩]) <|
 .skip) <|
 .seq (.keep [0, 3]) <|
 .seq (.seq (.ops [⟨some 29, .move (.tmp 0), false, none⟩]) <|
 .seq (.ops [⟨some 30, .nilCheck (.tmp 29), false, none⟩]) <|
 .seq (.ops [⟨some 31, .fieldAddr 63 (.tmp 30) 0, false, none⟩]) <|
 .seq (.ops [⟨some 32, .load 29 (.tmp 31), false, none⟩]) <|
 .seq (.ops [⟨some 33, .fieldAddr 47 (.tmp 3) 4, false, none⟩]) <|
 .seq (.ops [⟨some 34, .load 3 (.tmp 33), false, none⟩]) <|
 .seq (.ops [⟨some 35, .convert 3 29 (.tmp 34), false, none⟩]) <|
 .seq (.ops [⟨some 36, .binOp .add 29 (.tmp 32) (.tmp 35) 29, false, none⟩]) <|
 .seq (.ops [⟨some 4, .assign (.tmp 36), false, none⟩]) <|
 .seq (.ops [⟨some 5, .assign (.const (.bool true)), false, none⟩]) <|
 .skip) <|
 .seq (.keep [4, 5]) <|
 .ret) <|
 .seq (.ops [⟨some 38, .binOp .eql 3 (.tmp 19) (.const (.int .i64 4)) 3, false, none⟩,
  ⟨some 37, .assign (.tmp 38), false, none⟩]) <|
 .seq (.keep [0, 3, 6, 37]) <|
 .cond (.tmp 37) (.seq (.seq (.ops [⟨some 39, .move (.tmp 0), false, none⟩]) <|
 .seq (.ops [⟨some 40, .fieldAddr 47 (.tmp 3) 2, false, none⟩]) <|
 .seq (.ops [⟨some 41, .load 3 (.tmp 40), false, none⟩]) <|
 .seq (.ops [⟨some 42, .nilCheck (.tmp 39), false, none⟩]) <|
 .seq (.ops [⟨some 43, .fieldAddr 63 (.tmp 42) 1, false, none⟩]) <|
 .seq (.ops [⟨some 44, .indexAddr 59 (.tmp 43) (.tmp 41), false, none⟩]) <|
 .seq (.ops [⟨some 45, .load 29 (.tmp 44), false, none⟩]) <|
 .seq (.ops [⟨some 46, .fieldAddr 47 (.tmp 3) 4, false, none⟩]) <|
 .seq (.ops [⟨some 47, .load 3 (.tmp 46), false, none⟩]) <|
 .seq (.ops [⟨some 48, .convert 3 29 (.tmp 47), false, none⟩]) <|
 .seq (.ops [⟨some 49, .binOp .add 29 (.tmp 45) (.tmp 48) 29, false, none⟩]) <|
 .seq (.ops [⟨some 50, .binOp .andNot 29 (.tmp 49) (.const (.int .u64 1)) 29, false, none⟩]) <|
 .seq (.ops [⟨some 7, .assign (.tmp 50), false, none⟩]) <|
 .skip) <|
 .seq (.keep [0, 3, 6, 7]) <|
 .seq (.seq (.ops [⟨some 51, .move (.tmp 0), false, none⟩]) <|
 .seq (.ops [⟨some 52, .fieldAddr 47 (.tmp 3) 1, false, none⟩]) <|
 .seq (.ops [⟨some 53, .load 3 (.tmp 52), false, none⟩]) <|
 .seq (.ops [⟨some 54, .move (.tmp 6), false, none⟩]) <|
 .seq (.ops [⟨some 55, .nilCheck (.tmp 51), false, none⟩]) <|
 .seq (.ops [⟨some 56, .fieldAddr 63 (.tmp 55) 1, false, none⟩]) <|
 .seq (.ops [⟨some 57, .indexAddr 59 (.tmp 56) (.tmp 53), false, none⟩]) <|
 .seq (.ops [⟨none, .store 29 (.tmp 57) (.tmp 54), true, none⟩]) <|
 .skip) <|
 .seq (.keep [7]) <|
 .seq (.ops [⟨some 58, .move (.tmp 7), false, none⟩,
  ⟨some 4, .assign (.tmp 58), false, none⟩,
  ⟨some 5, .assign (.const (.bool true)), false, none⟩]) <|
 .seq (.keep [4, 5]) <|
 .ret) <|
 .skip) <|
 .seq (.keep [0, 3, 6]) <|
 .seq (.seq (.ops [⟨some 60, .fieldAddr 47 (.tmp 3) 0, false, none⟩]) <|
 .seq (.ops [⟨some 61, .load 3 (.tmp 60), false, none⟩]) <|
 .seq (.ops [⟨some 62, .move (.tmp 0), false, none⟩]) <|
 .seq (.ops [⟨some 63, .fieldAddr 47 (.tmp 3) 2, false, none⟩]) <|
 .seq (.ops [⟨some 64, .load 3 (.tmp 63), false, none⟩]) <|
 .seq (.ops [⟨some 65, .nilCheck (.tmp 62), false, none⟩]) <|
 .seq (.ops [⟨some 66, .fieldAddr 63 (.tmp 65) 1, false, none⟩]) <|
 .seq (.ops [⟨some 67, .indexAddr 59 (.tmp 66) (.tmp 64), false, none⟩]) <|
 .seq (.ops [⟨some 68, .load 29 (.tmp 67), false, none⟩]) <|
 .seq (.ops [⟨some 69, .move (.tmp 0), false, none⟩]) <|
 .seq (.ops [⟨some 70, .fieldAddr 47 (.tmp 3) 3, false, none⟩]) <|
 .seq (.ops [⟨some 71, .load 3 (.tmp 70), false, none⟩]) <|
 .seq (.ops [⟨some 72, .nilCheck (.tmp 69), false, none⟩]) <|
 .seq (.ops [⟨some 73, .fieldAddr 63 (.tmp 72) 1, false, none⟩]) <|
 .seq (.ops [⟨some 74, .indexAddr 59 (.tmp 73) (.tmp 71), false, none⟩]) <|
 .seq (.ops [⟨some 75, .load 29 (.tmp 74), false, none⟩]) <|
 .seq (.ops [⟨some 76, .call ⟨.value (.func 131), #[(.tmp 61), (.tmp 68), (.tmp 75)], #[3, 29, 29]⟩, true, none⟩]) <|
 .seq (.ops [⟨some 59, .move (.tmp 76), false, none⟩]) <|
 .seq (.ops [⟨some 77, .extract (.tmp 59) 0, false, none⟩]) <|
 .seq (.ops [⟨some 78, .extract (.tmp 59) 1, false, none⟩]) <|
 .seq (.ops [⟨some 8, .assign (.tmp 77), false, none⟩]) <|
 .seq (.ops [⟨some 9, .assign (.tmp 78), false, none⟩]) <|
 .skip) <|
 .seq (.keep [0, 3, 6, 8, 9]) <|
 .seq (.seq (.ops [⟨some 79, .move (.tmp 8), false, none⟩]) <|
 .seq (.keep [0, 3, 6, 9, 79]) <|
 .cond (.tmp 79) (.seq (.seq (.ops [⟨some 80, .move (.tmp 0), false, none⟩]) <|
 .seq (.ops [⟨some 81, .nilCheck (.tmp 80), false, none⟩]) <|
 .seq (.ops [⟨some 82, .fieldAddr 63 (.tmp 81) 0, false, none⟩]) <|
 .seq (.ops [⟨some 83, .load 29 (.tmp 82), false, none⟩]) <|
 .seq (.ops [⟨some 84, .fieldAddr 47 (.tmp 3) 4, false, none⟩]) <|
 .seq (.ops [⟨some 85, .load 3 (.tmp 84), false, none⟩]) <|
 .seq (.ops [⟨some 86, .convert 3 29 (.tmp 85), false, none⟩]) <|
 .seq (.ops [⟨some 87, .binOp .add 29 (.tmp 83) (.tmp 86) 29, false, none⟩]) <|
 .seq (.ops [⟨some 4, .assign (.tmp 87), false, none⟩]) <|
 .seq (.ops [⟨some 5, .assign (.const (.bool true)), false, none⟩]) <|
 .skip) <|
 .seq (.keep [4, 5]) <|
 .ret) <|
 .skip) <|
 .seq (.keep [6, 9]) <|
 .seq (.ops [⟨some 88, .move (.tmp 6), false, none⟩,
  ⟨some 89, .move (.tmp 9), false, none⟩,
  ⟨some 4, .assign (.tmp 88), false, none⟩,
  ⟨some 5, .assign (.tmp 89), false, none⟩]) <|
 .seq (.keep [4, 5]) <|
 .ret
theorem c107 : Tryz.f107.body.map (fun c => ((compile Tryz.prog kp107 [] kp107 c).map (·.1), fits Tryz.f107.ntmps c)) = some (some s107, true) := by kernel_rfl
theorem r107 : Tryz.f107.results.toList = [.tmp 4, .tmp 5] := by kernel_rfl
attribute [go_sem] s107
abbrev kp108 : List Nat := [2, 3]
def s108 : SC :=
 .seq (.ops [⟨some 2, .assign (.const (.int .i64 0)), false, none⟩,
  ⟨some 3, .assign (.const (.bool false)), false, none⟩]) <|
 .seq (.keep [0]) <|
 .seq (.seq (.ops [⟨some 4, .move (.tmp 0), false, none⟩]) <|
 .seq (.keep [4]) <|
 .block 0 <| .seq (.seq (.ops [⟨some 6, .binOp .eql 3 (.tmp 4) (.const (.int .i64 11)) 3, false, none⟩,
  ⟨some 5, .assign (.tmp 6), false, none⟩]) <|
 .seq (.keep [4, 5]) <|
 .cond (.tmp 5) (.skip) <|
 .ops [⟨some 7, .binOp .eql 3 (.tmp 4) (.const (.int .i64 18)) 3, false, none⟩,
  ⟨some 5, .assign (.tmp 7), false, none⟩]) <|
 .seq (.keep [4, 5]) <|
 .cond (.tmp 5) (.seq (.ops [⟨some 2, .assign (.const (.int .i64 1)), false, none⟩,
  ⟨some 3, .assign (.const (.bool true)), false, none⟩]) <|
 .seq (.keep [2, 3]) <|
 .ret) <|
 .seq (.seq (.ops [⟨some 9, .binOp .eql 3 (.tmp 4) (.const (.int .i64 12)) 3, false, none⟩,
  ⟨some 8, .assign (.tmp 9), false, none⟩]) <|
 .seq (.keep [4, 8]) <|
 .cond (.tmp 8) (.skip) <|
 .ops [⟨some 10, .binOp .eql 3 (.tmp 4) (.const (.int .i64 19)) 3, false, none⟩,
  ⟨some 8, .assign (.tmp 10), false, none⟩]) <|
 .seq (.keep [4, 8]) <|
 .cond (.tmp 8) (.seq (.ops [⟨some 2, .assign (.const (.int .i64 2)), false, none⟩,
  ⟨some 3, .assign (.const (.bool true)), false, none⟩]) <|
 .seq (.keep [2, 3]) <|
 .ret) <|
 .seq (.seq (.ops [⟨some 12, .binOp .eql 3 (.tmp 4) (.const (.int .i64 13)) 3, false, none⟩,
  ⟨some 11, .assign (.tmp 12), false, none⟩]) <|
 .seq (.keep [4, 11]) <|
 .cond (.tmp 11) (.skip) <|
 .ops [⟨some 13, .binOp .eql 3 (.tmp 4) (.const (.int .i64 20)) 3, false, none⟩,
  ⟨some 11, .assign (.tmp 13), false, none⟩]) <|
 .seq (.keep [4, 11]) <|
 .cond (.tmp 11) (.seq (.ops [⟨some 2, .assign (.const (.int .i64 4)), false, none⟩,
  ⟨some 3, .assign (.const (.bool true)), false, none⟩]) <|
 .seq (.keep [2, 3]) <|
 .ret) <|
 .seq (.seq (.ops [⟨some 15, .binOp .eql 3 (.tmp 4) (.const (.int .i64 14)) 3, false, none⟩,
  ⟨some 14, .assign (.tmp 15), false, none⟩]) <|
 .seq (.keep [4, 14]) <|
 .cond (.tmp 14) (.skip) <|
 .ops [⟨some 16, .binOp .eql 3 (.tmp 4) (.const (.int .i64 21)) 3, false, none⟩,
  ⟨some 14, .assign (.tmp 16), false, none⟩]) <|
 .seq (.keep [4, 14]) <|
 .cond (.tmp 14) (.seq (.ops [⟨some 2, .assign (.const (.int .i64 8)), false, none⟩,
  ⟨some 3, .assign (.const (.bool true)), false, none⟩]) <|
 .seq (.keep [2, 3]) <|
 .ret) <|
 .seq (.ops [⟨some 18, .binOp .eql 3 (.tmp 4) (.const (.int .i64 15)) 3, false, none⟩,
  ⟨some 17, .assign (.tmp 18), false, none⟩]) <|
 .seq (.keep [4, 17]) <|
 .cond (.tmp 17) (.seq (.ops [⟨some 2, .assign (.const (.int .i64 1)), false, none⟩,
  ⟨some 3, .assign (.const (.bool false)), false, none⟩]) <|
 .seq (.keep [2, 3]) <|
 .ret) <|
 .seq (.ops [⟨some 20, .binOp .eql 3 (.tmp 4) (.const (.int .i64 16)) 3, false, none⟩,
  ⟨some 19, .assign (.tmp 20), false, none⟩]) <|
 .seq (.keep [4, 19]) <|
 .cond (.tmp 19) (.seq (.ops [⟨some 2, .assign (.const (.int .i64 2)), false, none⟩,
  ⟨some 3, .assign (.const (.bool false)), false, none⟩]) <|
 .seq (.keep [2, 3]) <|
 .ret) <|
 .seq (.ops [⟨some 22, .binOp .eql 3 (.tmp 4) (.const (.int .i64 17)) 3, false, none⟩,
  ⟨some 21, .assign (.tmp 22), false, none⟩]) <|
 .seq (.keep [21]) <|
 .cond (.tmp 21) (.seq (.ops [⟨some 2, .assign (.const (.int .i64 4)), false, none⟩,
  ⟨some 3, .assign (.const (.bool false)), false, none⟩]) <|
 .seq (.keep [2, 3]) <|
 .ret) <|
 .skip) <|
 .seq (.keep []) <|
 .seq (.ops [⟨some 2, .assign (.const (.int .i64 0)), false, none⟩,
  ⟨some 3, .assign (.const (.bool false)), false, none⟩]) <|
 .seq (.keep [2, 3]) <|
 .ret
theorem c108 : Tryz.f108.body.map (fun c => ((compile Tryz.prog kp108 [] kp108 c).map (·.1), fits Tryz.f108.ntmps c)) = some (some s108, true) := by kernel_rfl
theorem r108 : Tryz.f108.results.toList = [.tmp 2, .tmp 3] := by kernel_rfl
attribute [go_sem] s108
abbrev kp109 : List Nat := [10]
def s109 : SC :=
 .seq (.ops [⟨some 7, .box 47 (.tmp 2), true, none⟩,
  ⟨some 10, .alloc 49, true, none⟩]) <|
 .seq (.keep [0, 1, 3, 4, 7, 10]) <|
 .seq (.seq (.ops [⟨some 14, .move (.tmp 1), false, none⟩]) <|
 .seq (.ops [⟨some 15, .fieldAddr 47 (.tmp 7) 2, false, none⟩]) <|
 .seq (.ops [⟨some 16, .load 3 (.tmp 15), false, none⟩]) <|
 .seq (.ops [⟨some 17, .nilCheck (.tmp 14), false, none⟩]) <|
 .seq (.ops [⟨some 18, .fieldAddr 63 (.tmp 17) 1, false, none⟩]) <|
 .seq (.ops [⟨some 19, .indexAddr 59 (.tmp 18) (.tmp 16), false, none⟩]) <|
 .seq (.ops [⟨some 20, .load 29 (.tmp 19), false, none⟩]) <|
 .seq (.ops [⟨some 21, .fieldAddr 47 (.tmp 7) 4, false, none⟩]) <|
 .seq (.ops [⟨some 22, .load 3 (.tmp 21), false, none⟩]) <|
 .seq (.ops [⟨some 23, .convert 3 29 (.tmp 22), false, none⟩]) <|
 .seq (.ops [⟨some 24, .binOp .add 29 (.tmp 20) (.tmp 23) 29, false, none⟩]) <|
 .seq (.ops [⟨some 11, .assign (.tmp 24), false, none⟩]) <|
 .skip) <|
 .seq (.keep [0, 1, 3, 4, 7, 10, 11]) <|
 .seq (.seq (.ops [⟨some 25, .fieldAddr 47 (.tmp 7) 0, false, none⟩,
  ⟨some 26, .load 3 (.tmp 25), false, none⟩,
  ⟨some 27, .binOp .geq 3 (.tmp 26) (.const (.int .i64 18)) 3, false, none⟩,
  ⟨some 28, .move (.tmp 27), false, none⟩,
  ⟨some 29, .fieldAddr 47 (.tmp 7) 0, false, some (28, true)⟩,
  ⟨some 30, .load 3 (.tmp 29), false, some (28, true)⟩,
  ⟨some 31, .binOp .leq 3 (.tmp 30) (.const (.int .i64 21)) 3, false, some (28, true)⟩,
  ⟨some 32, .pick (.tmp 28) (.tmp 31) (.const (.bool false)), false, none⟩]) <|
 .seq (.keep [0, 1, 3, 4, 7, 10, 11, 32]) <|
 .cond (.tmp 32) (.seq (.seq (.ops [⟨some 33, .move (.tmp 0), false, none⟩]) <|
 .seq (.ops [⟨some 34, .nilCheck (.tmp 33), false, none⟩]) <|
 .seq (.ops [⟨some 35, .fieldAddr 120 (.tmp 34) 1, false, none⟩]) <|
 .seq (.ops [⟨some 36, .load 24 (.tmp 35), false, none⟩]) <|
 .seq (.ops [⟨some 37, .move (.tmp 11), false, none⟩]) <|
 .seq (.ops [⟨some 38, .move (.tmp 3), false, none⟩]) <|
 .seq (.ops [⟨some 39, .move (.tmp 1), false, none⟩]) <|
 .seq (.ops [⟨some 40, .fieldAddr 47 (.tmp 7) 3, false, none⟩]) <|
 .seq (.ops [⟨some 41, .load 3 (.tmp 40), false, none⟩]) <|
 .seq (.ops [⟨some 42, .nilCheck (.tmp 39), false, none⟩]) <|
 .seq (.ops [⟨some 43, .fieldAddr 63 (.tmp 42) 1, false, none⟩]) <|
 .seq (.ops [⟨some 44, .indexAddr 59 (.tmp 43) (.tmp 41), false, none⟩]) <|
 .seq (.ops [⟨some 45, .load 29 (.tmp 44), false, none⟩]) <|
 .seq (.ops [⟨some 46, .call ⟨.value (.func 17), #[(.tmp 36), (.tmp 37), (.tmp 38), (.tmp 45)], #[24, 29, 3, 29]⟩, true, none⟩]) <|
 .seq (.ops [⟨some 47, .call ⟨.value (.func 132), #[(.tmp 46)], #[41]⟩, true, none⟩]) <|
 .seq (.ops [⟨none, .store 49 (.tmp 10) (.tmp 47), true, none⟩]) <|
 .skip) <|
 .seq (.keep [10]) <|
 .ret) <|
 .skip) <|
 .seq (.keep [0, 1, 3, 4, 7, 10, 11]) <|
 .seq (.ops [⟨some 49, .move (.tmp 0), false, none⟩,
  ⟨some 50, .nilCheck (.tmp 49), false, none⟩,
  ⟨some 51, .fieldAddr 120 (.tmp 50) 1, false, none⟩,
  ⟨some 52, .load 24 (.tmp 51), false, none⟩,
  ⟨some 53, .move (.tmp 11), false, none⟩,
  ⟨some 54, .move (.tmp 3), false, none⟩,
  ⟨some 55, .call ⟨.value (.func 133), #[(.tmp 52), (.tmp 53), (.tmp 54)], #[24, 29, 3]⟩, true, none⟩,
  ⟨some 48, .move (.tmp 55), false, none⟩,
  ⟨some 56, .extract (.tmp 48) 0, false, none⟩,
  ⟨some 57, .extract (.tmp 48) 1, false, none⟩,
  ⟨some 13, .alloc 41, true, none⟩,
  ⟨some 12, .assign (.tmp 56), false, none⟩,
  ⟨none, .store 41 (.tmp 13) (.tmp 57), true, none⟩]) <|
 .seq (.keep [1, 3, 4, 7, 10, 12, 13]) <|
 .seq (.seq (.ops [⟨some 58, .fieldAddr 41 (.tmp 13) 0, false, none⟩,
  ⟨some 59, .load 3 (.tmp 58), false, none⟩,
  ⟨some 60, .binOp .neq 3 (.tmp 59) (.const (.int .i64 0)) 3, false, none⟩]) <|
 .seq (.keep [1, 3, 4, 7, 10, 12, 13, 60]) <|
 .cond (.tmp 60) (.seq (.ops [⟨some 61, .load 41 (.tmp 13), false, none⟩,
  ⟨some 62, .call ⟨.value (.func 132), #[(.tmp 61)], #[41]⟩, true, none⟩,
  ⟨none, .store 49 (.tmp 10) (.tmp 62), true, none⟩]) <|
 .seq (.keep [10]) <|
 .ret) <|
 .skip) <|
 .seq (.keep [1, 3, 4, 7, 10, 12]) <|
 .seq (.seq (.ops [⟨some 63, .move (.tmp 4), false, none⟩]) <|
 .seq (.keep [1, 3, 7, 10, 12, 63]) <|
 .cond (.tmp 63) (.ops [⟨some 64, .move (.tmp 12), false, none⟩,
  ⟨some 65, .move (.tmp 3), false, none⟩,
  ⟨some 66, .binOp .mul 3 (.const (.int .i64 8)) (.tmp 65) 3, false, none⟩,
  ⟨some 67, .call ⟨.value (.func 134), #[(.tmp 64), (.tmp 66)], #[29, 3]⟩, true, none⟩,
  ⟨some 12, .assign (.tmp 67), false, none⟩]) <|
 .skip) <|
 .seq (.keep [1, 7, 10, 12]) <|
 .seq (.seq (.ops [⟨some 68, .move (.tmp 1), false, none⟩]) <|
 .seq (.ops [⟨some 69, .fieldAddr 47 (.tmp 7) 1, false, none⟩]) <|
 .seq (.ops [⟨some 70, .load 3 (.tmp 69), false, none⟩]) <|
 .seq (.ops [⟨some 71, .move (.tmp 12), false, none⟩]) <|
 .seq (.ops [⟨some 72, .nilCheck (.tmp 68), false, none⟩]) <|
 .seq (.ops [⟨some 73, .fieldAddr 63 (.tmp 72) 1, false, none⟩]) <|
 .seq (.ops [⟨some 74, .indexAddr 59 (.tmp 73) (.tmp 70), false, none⟩]) <|
 .seq (.ops [⟨none, .store 29 (.tmp 74) (.tmp 71), true, none⟩]) <|
 .skip) <|
 .seq (.keep [10]) <|
 .seq (.ops [⟨some 75, .build 49 #[], false, none⟩,
  ⟨none, .store 49 (.tmp 10) (.tmp 75), true, none⟩]) <|
 .seq (.keep [10]) <|
 .ret
theorem c109 : Tryz.f109.body.map (fun c => ((compile Tryz.prog kp109 [] kp109 c).map (·.1), fits Tryz.f109.ntmps c)) = some (some s109, true) := by kernel_rfl
theorem r109 : Tryz.f109.results.toList = [.cell 10 49] := by kernel_rfl
attribute [go_sem] s109
abbrev kp110 : List Nat := [6]
def s110 : SC :=
 .seq (.ops [⟨some 5, .box 47 (.tmp 2), true, none⟩,
  ⟨some 6, .alloc 49, true, none⟩]) <|
 .seq (.keep [0, 1, 5, 6]) <|
 .seq (.seq (.ops [⟨some 12, .fieldAddr 47 (.tmp 5) 0, false, none⟩,
  ⟨some 13, .load 3 (.tmp 12), false, none⟩]) <|
 .seq (.keep [0, 1, 5, 6, 13]) <|
 .block 0 <| .seq (.ops [⟨some 15, .binOp .eql 3 (.tmp 13) (.const (.int .i64 87)) 3, false, none⟩,
  ⟨some 14, .assign (.tmp 15), false, none⟩]) <|
 .seq (.keep [0, 1, 5, 6, 13, 14]) <|
 .cond (.tmp 14) (.seq (.ops [⟨some 16, .build 49 #[(0, (.const (.int .i64 1)))], false, none⟩,
  ⟨none, .store 49 (.tmp 6) (.tmp 16), true, none⟩]) <|
 .seq (.keep [6]) <|
 .ret) <|
 .seq (.ops [⟨some 18, .binOp .eql 3 (.tmp 13) (.const (.int .i64 88)) 3, false, none⟩,
  ⟨some 17, .assign (.tmp 18), false, none⟩]) <|
 .seq (.keep [0, 1, 5, 6, 13, 17]) <|
 .cond (.tmp 17) (.seq (.ops [⟨some 19, .build 49 #[(0, (.const (.int .i64 2)))], false, none⟩,
  ⟨none, .store 49 (.tmp 6) (.tmp 19), true, none⟩]) <|
 .seq (.keep [6]) <|
 .ret) <|
 .seq (.seq (.ops [⟨some 21, .binOp .eql 3 (.tmp 13) (.const (.int .i64 85)) 3, false, none⟩,
  ⟨some 20, .assign (.tmp 21), false, none⟩]) <|
 .seq (.keep [0, 1, 5, 6, 13, 20]) <|
 .cond (.tmp 20) (.skip) <|
 .ops [⟨some 22, .binOp .eql 3 (.tmp 13) (.const (.int .i64 86)) 3, false, none⟩,
  ⟨some 20, .assign (.tmp 22), false, none⟩]) <|
 .seq (.keep [0, 1, 5, 6, 13, 20]) <|
 .cond (.tmp 20) (.seq (.ops [⟨some 23, .build 49 #[], false, none⟩,
  ⟨none, .store 49 (.tmp 6) (.tmp 23), true, none⟩]) <|
 .seq (.keep [6]) <|
 .ret) <|
 .seq (.ops [⟨some 25, .binOp .eql 3 (.tmp 13) (.const (.int .i64 2)) 3, false, none⟩,
  ⟨some 24, .assign (.tmp 25), false, none⟩]) <|
 .seq (.keep [0, 1, 5, 6, 24]) <|
 .cond (.tmp 24) (.seq (.seq (.ops [⟨some 26, .move (.tmp 1), false, none⟩]) <|
 .seq (.ops [⟨some 27, .fieldAddr 47 (.tmp 5) 1, false, none⟩]) <|
 .seq (.ops [⟨some 28, .load 3 (.tmp 27), false, none⟩]) <|
 .seq (.ops [⟨some 29, .move (.tmp 1), false, none⟩]) <|
 .seq (.ops [⟨some 30, .nilCheck (.tmp 29), false, none⟩]) <|
 .seq (.ops [⟨some 31, .fieldAddr 63 (.tmp 30) 0, false, none⟩]) <|
 .seq (.ops [⟨some 32, .load 29 (.tmp 31), false, none⟩]) <|
 .seq (.ops [⟨some 33, .fieldAddr 47 (.tmp 5) 4, false, none⟩]) <|
 .seq (.ops [⟨some 34, .load 3 (.tmp 33), false, none⟩]) <|
 .seq (.ops [⟨some 35, .convert 3 29 (.tmp 34), false, none⟩]) <|
 .seq (.ops [⟨some 36, .binOp .add 29 (.tmp 32) (.tmp 35) 29, false, none⟩]) <|
 .seq (.ops [⟨some 37, .nilCheck (.tmp 26), false, none⟩]) <|
 .seq (.ops [⟨some 38, .fieldAddr 63 (.tmp 37) 1, false, none⟩]) <|
 .seq (.ops [⟨some 39, .indexAddr 59 (.tmp 38) (.tmp 28), false, none⟩]) <|
 .seq (.ops [⟨none, .store 29 (.tmp 39) (.tmp 36), true, none⟩]) <|
 .skip) <|
 .seq (.keep [6]) <|
 .seq (.ops [⟨some 40, .build 49 #[], false, none⟩,
  ⟨none, .store 49 (.tmp 6) (.tmp 40), true, none⟩]) <|
 .seq (.keep [6]) <|
 .ret) <|
 .skip) <|
 .seq (.keep [0, 1, 5, 6]) <|
 .seq (.seq (.seq (.ops [⟨some 42, .fieldAddr 47 (.tmp 5) 0, false, none⟩]) <|
 .seq (.ops [⟨some 44, .move (.tmp 1), false, none⟩]) <|
 .seq (.ops [⟨some 45, .fieldAddr 47 (.tmp 5) 2, false, none⟩]) <|
 .seq (.ops [⟨some 47, .nilCheck (.tmp 44), false, none⟩]) <|
 .seq (.ops [⟨some 48, .fieldAddr 63 (.tmp 47) 1, false, none⟩]) <|
 .seq (.ops [⟨some 51, .move (.tmp 1), false, none⟩]) <|
 .seq (.ops [⟨some 52, .load 47 (.tmp 5), false, none⟩]) <|
 .amb (.seq (.ops [⟨some 43, .load 3 (.tmp 42), false, none⟩]) <|
 .amb (.seq (.ops [⟨some 46, .load 3 (.tmp 45), false, none⟩]) <|
 .seq (.ops [⟨some 49, .indexAddr 59 (.tmp 48) (.tmp 46), false, none⟩]) <|
 .amb (.seq (.ops [⟨some 50, .load 29 (.tmp 49), false, none⟩]) <|
 .seq (.ops [⟨some 53, .call ⟨.value (.func 136), #[(.tmp 51), (.tmp 52)], #[122, 47]⟩, true, none⟩]) <|
 .seq (.ops [⟨some 54, .call ⟨.value (.func 135), #[(.tmp 43), (.tmp 50), (.tmp 53)], #[3, 29, 29]⟩, true, none⟩]) <|
 .seq (.ops [⟨some 41, .move (.tmp 54), false, none⟩]) <|
 .seq (.ops [⟨some 55, .extract (.tmp 41) 0, false, none⟩]) <|
 .seq (.ops [⟨some 56, .extract (.tmp 41) 1, false, none⟩]) <|
 .seq (.ops [⟨some 7, .assign (.tmp 55), false, none⟩]) <|
 .seq (.ops [⟨some 8, .assign (.tmp 56), false, none⟩]) <|
 .skip) (.seq (.ops [⟨some 53, .call ⟨.value (.func 136), #[(.tmp 51), (.tmp 52)], #[122, 47]⟩, true, none⟩]) <|
 .seq (.ops [⟨some 50, .load 29 (.tmp 49), false, none⟩]) <|
 .seq (.ops [⟨some 54, .call ⟨.value (.func 135), #[(.tmp 43), (.tmp 50), (.tmp 53)], #[3, 29, 29]⟩, true, none⟩]) <|
 .seq (.ops [⟨some 41, .move (.tmp 54), false, none⟩]) <|
 .seq (.ops [⟨some 55, .extract (.tmp 41) 0, false, none⟩]) <|
 .seq (.ops [⟨some 56, .extract (.tmp 41) 1, false, none⟩]) <|
 .seq (.ops [⟨some 7, .assign (.tmp 55), false, none⟩]) <|
 .seq (.ops [⟨some 8, .assign (.tmp 56), false, none⟩]) <|
 .skip)) (.seq (.ops [⟨some 53, .call ⟨.value (.func 136), #[(.tmp 51), (.tmp 52)], #[122, 47]⟩, true, none⟩]) <|
 .seq (.ops [⟨some 46, .load 3 (.tmp 45), false, none⟩]) <|
 .seq (.ops [⟨some 49, .indexAddr 59 (.tmp 48) (.tmp 46), false, none⟩]) <|
 .seq (.ops [⟨some 50, .load 29 (.tmp 49), false, none⟩]) <|
 .seq (.ops [⟨some 54, .call ⟨.value (.func 135), #[(.tmp 43), (.tmp 50), (.tmp 53)], #[3, 29, 29]⟩, true, none⟩]) <|
 .seq (.ops [⟨some 41, .move (.tmp 54), false, none⟩]) <|
 .seq (.ops [⟨some 55, .extract (.tmp 41) 0, false, none⟩]) <|
 .seq (.ops [⟨some 56, .extract (.tmp 41) 1, false, none⟩]) <|
 .seq (.ops [⟨some 7, .assign (.tmp 55), false, none⟩]) <|
 .seq (.ops [⟨some 8, .assign (.tmp 56), false, none⟩]) <|
 .skip)) (.amb (.seq (.ops [⟨some 46, .load 3 (.tmp 45), false, none⟩]) <|
 .seq (.ops [⟨some 49, .indexAddr 59 (.tmp 48) (.tmp 46), false, none⟩]) <|
 .amb (.seq (.ops [⟨some 50, .load 29 (.tmp 49), false, none⟩]) <|
 .seq (.ops [⟨some 53, .call ⟨.value (.func 136), #[(.tmp 51), (.tmp 52)], #[122, 47]⟩, true, none⟩]) <|
 .seq (.ops [⟨some 43, .load 3 (.tmp 42), false, none⟩]) <|
 .seq (.ops [⟨some 54, .call ⟨.value (.func 135), #[(.tmp 43), (.tmp 50), (.tmp 53)], #[3, 29, 29]⟩, true, none⟩]) <|
 .seq (.ops [⟨some 41, .move (.tmp 54), false, none⟩]) <|
 .seq (.ops [⟨some 55, .extract (.tmp 41) 0, false, none⟩]) <|
 .seq (.ops [⟨some 56, .extract (.tmp 41) 1, false, none⟩]) <|
 .seq (.ops [⟨some 7, .assign (.tmp 55), false, none⟩]) <|
 .seq (.ops [⟨some 8, .assign (.tmp 56), false, none⟩]) <|
 .skip) (.seq (.ops [⟨some 53, .call ⟨.value (.func 136), #[(.tmp 51), (.tmp 52)], #[122, 47]⟩, true, none⟩]) <|
 .seq (.ops [⟨some 43, .load 3 (.tmp 42), false, none⟩]) <|
 .seq (.ops [⟨some 50, .load 29 (.tmp 49), false, none⟩]) <|
 .seq (.ops [⟨some 54, .call ⟨.value (.func 135), #[(.tmp 43), (.tmp 50), (.tmp 53)], #[3, 29, 29]⟩, true, none⟩]) <|
 .seq (.ops [⟨some 41, .move (.tmp 54), false, none⟩]) <|
 .seq (.ops [⟨some 55, .extract (.tmp 41) 0, false, none⟩]) <|
 .seq (.ops [⟨some 56, .extract (.tmp 41) 1, false, none⟩]) <|
 .seq (.ops [⟨some 7, .assign (.tmp 55), false, none⟩]) <|
 .seq (.ops [⟨some 8, .assign (.tmp 56), false, none⟩]) <|
 .skip)) (.seq (.ops [⟨some 53, .call ⟨.value (.func 136), #[(.tmp 51), (.tmp 52)], #[122, 47]⟩, true, none⟩]) <|
 .seq (.ops [⟨some 43, .load 3 (.tmp 42), false, none⟩]) <|
 .seq (.ops [⟨some 46, .load 3 (.tmp 45), false, none⟩]) <|
 .seq (.ops [⟨some 49, .indexAddr 59 (.tmp 48) (.tmp 46), false, none⟩]) <|
 .seq (.ops [⟨some 50, .load 29 (.tmp 49), false, none⟩]) <|
 .seq (.ops [⟨some 54, .call ⟨.value (.func 135), #[(.tmp 43), (.tmp 50), (.tmp 53)], #[3, 29, 29]⟩, true, none⟩]) <|
 .seq (.ops [⟨some 41, .move (.tmp 54), false, none⟩]) <|
 .seq (.ops [⟨some 55, .extract (.tmp 41) 0, false, none⟩]) <|
 .seq (.ops [⟨some 56, .extract (.tmp 41) 1, false, none⟩]) <|
 .seq (.ops [⟨some 7, .assign (.tmp 55), false, none⟩]) <|
 .seq (.ops [⟨some 8, .assign (.tmp 56), false, none⟩]) <|
 .skip))) <|
 .seq (.keep [0, 1, 5, 6, 7, 8]) <|
 .seq (.ops [⟨some 57, .move (.tmp 8), false, none⟩]) <|
 .seq (.keep [0, 1, 5, 6, 7, 57]) <|
 .cond (.tmp 57) (.seq (.seq (.ops [⟨some 58, .move (.tmp 1), false, none⟩]) <|
 .seq (.ops [⟨some 59, .fieldAddr 47 (.tmp 5) 1, false, none⟩]) <|
 .seq (.ops [⟨some 60, .load 3 (.tmp 59), false, none⟩]) <|
 .seq (.ops [⟨some 61, .move (.tmp 7), false, none⟩]) <|
 .seq (.ops [⟨some 62, .nilCheck (.tmp 58), false, none⟩]) <|
 .seq (.ops [⟨some 63, .fieldAddr 63 (.tmp 62) 1, false, none⟩]) <|
 .seq (.ops [⟨some 64, .indexAddr 59 (.tmp 63) (.tmp 60), false, none⟩]) <|
 .seq (.ops [⟨none, .store 29 (.tmp 64) (.tmp 61), true, none⟩]) <|
 .skip) <|
 .seq (.keep [6]) <|
 .seq (.ops [⟨some 65, .build 49 #[], false, none⟩,
  ⟨none, .store 49 (.tmp 6) (.tmp 65), true, none⟩]) <|
 .seq (.keep [6]) <|
 .ret) <|
 .skip) <|
 .seq (.keep [0, 1, 5, 6]) <|
 .seq (.seq (.ops [⟨some 67, .move (.tmp 0), false, none⟩]) <|
 .seq (.ops [⟨some 68, .nilCheck (.tmp 67), false, none⟩]) <|
 .seq (.ops [⟨some 69, .fieldAddr 120 (.tmp 68) 1, false, none⟩]) <|
 .seq (.ops [⟨some 70, .load 24 (.tmp 69), false, none⟩]) <|
 .seq (.ops [⟨some 71, .move (.tmp 1), false, none⟩]) <|
 .seq (.ops [⟨some 72, .nilCheck (.tmp 71), false, none⟩]) <|
 .seq (.ops [⟨some 73, .fieldAddr 63 (.tmp 72) 2, false, none⟩]) <|
 .seq (.ops [⟨some 74, .load 61 (.tmp 73), false, none⟩]) <|
 .seq (.ops [⟨some 75, .fieldAddr 47 (.tmp 5) 0, false, none⟩]) <|
 .seq (.ops [⟨some 76, .load 3 (.tmp 75), false, none⟩]) <|
 .seq (.ops [⟨some 77, .move (.tmp 1), false, none⟩]) <|
 .seq (.ops [⟨some 78, .fieldAddr 47 (.tmp 5) 2, false, none⟩]) <|
 .seq (.ops [⟨some 79, .load 3 (.tmp 78), false, none⟩]) <|
 .seq (.ops [⟨some 80, .nilCheck (.tmp 77), false, none⟩]) <|
 .seq (.ops [⟨some 81, .fieldAddr 63 (.tmp 80) 1, false, none⟩]) <|
 .seq (.ops [⟨some 82, .indexAddr 59 (.tmp 81) (.tmp 79), false, none⟩]) <|
 .seq (.ops [⟨some 83, .load 29 (.tmp 82), false, none⟩]) <|
 .seq (.ops [⟨some 84, .move (.tmp 1), false, none⟩]) <|
 .seq (.ops [⟨some 85, .fieldAddr 47 (.tmp 5) 3, false, none⟩]) <|
 .seq (.ops [⟨some 86, .load 3 (.tmp 85), false, none⟩]) <|
 .seq (.ops [⟨some 87, .nilCheck (.tmp 84), false, none⟩]) <|
 .seq (.ops [⟨some 88, .fieldAddr 63 (.tmp 87) 1, false, none⟩]) <|
 .seq (.ops [⟨some 89, .indexAddr 59 (.tmp 88) (.tmp 86), false, none⟩]) <|
 .seq (.ops [⟨some 90, .load 29 (.tmp 89), false, none⟩]) <|
 .amb (.seq (.ops [⟨some 91, .call ⟨.value (.func 137), #[(.tmp 70), (.tmp 74), (.tmp 76), (.tmp 83), (.tmp 90)], #[24, 61, 3, 29, 29]⟩, true, none⟩]) <|
 .seq (.ops [⟨some 66, .move (.tmp 91), false, none⟩]) <|
 .seq (.ops [⟨some 92, .extract (.tmp 66) 0, false, none⟩]) <|
 .seq (.ops [⟨some 93, .extract (.tmp 66) 1, false, none⟩]) <|
 .seq (.ops [⟨some 94, .extract (.tmp 66) 2, false, none⟩]) <|
 .amb (.seq (.ops [⟨some 10, .alloc 61, true, none⟩]) <|
 .seq (.ops [⟨some 11, .alloc 49, true, none⟩]) <|
 .seq (.ops [⟨some 9, .assign (.tmp 92), false, none⟩]) <|
 .seq (.ops [⟨none, .store 61 (.tmp 10) (.tmp 93), true, none⟩]) <|
 .seq (.ops [⟨none, .store 49 (.tmp 11) (.tmp 94), true, none⟩]) <|
 .skip) (.seq (.ops [⟨some 11, .alloc 49, true, none⟩]) <|
 .seq (.ops [⟨some 10, .alloc 61, true, none⟩]) <|
 .seq (.ops [⟨some 9, .assign (.tmp 92), false, none⟩]) <|
 .seq (.ops [⟨none, .store 61 (.tmp 10) (.tmp 93), true, none⟩]) <|
 .seq (.ops [⟨none, .store 49 (.tmp 11) (.tmp 94), true, none⟩]) <|
 .skip)) (.amb (.seq (.ops [⟨some 10, .alloc 61, true, none⟩]) <|
 .amb (.seq (.ops [⟨some 91, .call ⟨.value (.func 137), #[(.tmp 70), (.tmp 74), (.tmp 76), (.tmp 83), (.tmp 90)], #[24, 61, 3, 29, 29]⟩, true, none⟩]) <|
 .seq (.ops [⟨some 66, .move (.tmp 91), false, none⟩]) <|
 .seq (.ops [⟨some 92, .extract (.tmp 66) 0, false, none⟩]) <|
 .seq (.ops [⟨some 93, .extract (.tmp 66) 1, false, none⟩]) <|
 .seq (.ops [⟨some 94, .extract (.tmp 66) 2, false, none⟩]) <|
 .seq (.ops [⟨some 11, .alloc 49, true, none⟩]) <|
 .seq (.ops [⟨some 9, .assign (.tmp 92), false, none⟩]) <|
 .seq (.ops [⟨none, .store 61 (.tmp 10) (.tmp 93), true, none⟩]) <|
 .seq (.ops [⟨none, .store 49 (.tmp 11) (.tmp 94), true, none⟩]) <|
 .skip) (.seq (.ops [⟨some 11, .alloc 49, true, none⟩]) <|
 .seq (.ops [⟨some 91, .call ⟨.value (.func 137), #[(.tmp 70), (.tmp 74), (.tmp 76), (.tmp 83), (.tmp 90)], #[24, 61, 3, 29, 29]⟩, true, none⟩]) <|
 .seq (.ops [⟨some 66, .move (.tmp 91), false, none⟩]) <|
 .seq (.ops [⟨some 92, .extract (.tmp 66) 0, false, none⟩]) <|
 .seq (.ops [⟨some 93, .extract (.tmp 66) 1, false, none⟩]) <|
 .seq (.ops [⟨some 94, .extract (.tmp 66) 2, false, none⟩]) <|
 .seq (.ops [⟨some 9, .assign (.tmp 92), false, none⟩]) <|
 .seq (.ops [⟨none, .store 61 (.tmp 10) (.tmp 93), true, none⟩]) <|
 .seq (.ops [⟨none, .store 49 (.tmp 11) (.tmp 94), true, none⟩]) <|
 .skip)) (.seq (.ops [⟨some 11, .alloc 49, true, none⟩]) <|
 .amb (.seq (.ops [⟨some 91, .call ⟨.value (.func 137), #[(.tmp 70), (.tmp 74), (.tmp 76), (.tmp 83), (.tmp 90)], #[24, 61, 3, 29, 29]⟩, true, none⟩]) <|
 .seq (.ops [⟨some 66, .move (.tmp 91), false, none⟩]) <|
 .seq (.ops [⟨some 92, .extract (.tmp 66) 0, false, none⟩]) <|
 .seq (.ops [⟨some 93, .extract (.tmp 66) 1, false, none⟩]) <|
 .seq (.ops [⟨some 94, .extract (.tmp 66) 2, false, none⟩]) <|
 .seq (.ops [⟨some 10, .alloc 61, true, none⟩]) <|
 .seq (.ops [⟨some 9, .assign (.tmp 92), false, none⟩]) <|
 .seq (.ops [⟨none, .store 61 (.tmp 10) (.tmp 93), true, none⟩]) <|
 .seq (.ops [⟨none, .store 49 (.tmp 11) (.tmp 94), true, none⟩]) <|
 .skip) (.seq (.ops [⟨some 10, .alloc 61, true, none⟩]) <|
 .seq (.ops [⟨some 91, .call ⟨.value (.func 137), #[(.tmp 70), (.tmp 74), (.tmp 76), (.tmp 83), (.tmp 90)], #[24, 61, 3, 29, 29]⟩, true, none⟩]) <|
 .seq (.ops [⟨some 66, .move (.tmp 91), false, none⟩]) <|
 .seq (.ops [⟨some 92, .extract (.tmp 66) 0, false, none⟩]) <|
 .seq (.ops [⟨some 93, .extract (.tmp 66) 1, false, none⟩]) <|
 .seq (.ops [⟨some 94, .extract (.tmp 66) 2, false, none⟩]) <|
 .seq (.ops [⟨some 9, .assign (.tmp 92), false, none⟩]) <|
 .seq (.ops [⟨none, .store 61 (.tmp 10) (.tmp 93), true, none⟩]) <|
 .seq (.ops [⟨none, .store 49 (.tmp 11) (.tmp 94), true, none⟩]) <|
 .skip)))) <|
 .seq (.keep [1, 5, 6, 9, 10, 11]) <|
 .seq (.seq (.ops [⟨some 95, .move (.tmp 1), false, none⟩]) <|
 .seq (.ops [⟨some 96, .fieldAddr 47 (.tmp 5) 1, false, none⟩]) <|
 .seq (.ops [⟨some 97, .load 3 (.tmp 96), false, none⟩]) <|
 .seq (.ops [⟨some 98, .move (.tmp 1), false, none⟩]) <|
 .seq (.ops [⟨some 99, .move (.tmp 9), false, none⟩]) <|
 .seq (.ops [⟨some 101, .nilCheck (.tmp 95), false, none⟩]) <|
 .seq (.ops [⟨some 102, .fieldAddr 63 (.tmp 101) 1, false, none⟩]) <|
 .seq (.ops [⟨some 103, .indexAddr 59 (.tmp 102) (.tmp 97), false, none⟩]) <|
 .amb (.seq (.ops [⟨some 100, .load 61 (.tmp 10), false, none⟩]) <|
 .seq (.ops [⟨none, .store 29 (.tmp 103) (.tmp 99), true, none⟩]) <|
 .seq (.ops [⟨some 104, .nilCheck (.tmp 98), false, none⟩]) <|
 .seq (.ops [⟨some 105, .fieldAddr 63 (.tmp 104) 2, false, none⟩]) <|
 .seq (.ops [⟨none, .store 61 (.tmp 105) (.tmp 100), true, none⟩]) <|
 .skip) (.seq (.ops [⟨none, .store 29 (.tmp 103) (.tmp 99), true, none⟩]) <|
 .seq (.ops [⟨some 100, .load 61 (.tmp 10), false, none⟩]) <|
 .seq (.ops [⟨some 104, .nilCheck (.tmp 98), false, none⟩]) <|
 .seq (.ops [⟨some 105, .fieldAddr 63 (.tmp 104) 2, false, none⟩]) <|
 .seq (.ops [⟨none, .store 61 (.tmp 105) (.tmp 100), true, none⟩]) <|
 .skip)) <|
 .seq (.keep [6, 11]) <|
 .seq (.ops [⟨some 106, .load 49 (.tmp 11), false, none⟩,
  ⟨none, .store 49 (.tmp 6) (.tmp 106), true, none⟩]) <|
 .seq (.keep [6]) <|
 .ret
theorem c110 : Tryz.f110.body.map (fun c => ((compile Tryz.prog kp110 [] kp110 c).map (·.1), fits Tryz.f110.ntmps c)) = some (some s110, true) := by kernel_rfl
theorem r110 : Tryz.f110.results.toList = [.cell 6 49] := by kernel_rfl
attribute [go_sem] s110
abbrev kp117 : List Nat := [6]
def s117 : SC :=
 .seq (.ops [⟨some 6, .assign (.const (.slice none 0 0)), false, none⟩]) <|
 .seq (.keep [0, 1, 2]) <|
 .seq (.seq (.ops [⟨some 13, .move (.tmp 0), false, none⟩,
  ⟨some 14, .binOp .eql 81 (.tmp 13) (.const (.pointer none)) 81, false, none⟩,
  ⟨some 15, .move (.tmp 14), false, none⟩,
  ⟨some 16, .move (.tmp 2), false, some (15, false)⟩,
  ⟨some 17, .binOp .lss 3 (.tmp 16) (.const (.int .i64 1)) 3, false, some (15, false)⟩,
  ⟨some 18, .pick (.tmp 15) (.const (.bool true)) (.tmp 17), false, none⟩,
  ⟨some 19, .move (.tmp 18), false, none⟩,
  ⟨some 20, .move (.tmp 2), false, some (19, false)⟩,
  ⟨some 21, .binOp .gtr 3 (.tmp 20) (.const (.int .i64 4194304)) 3, false, some (19, false)⟩,
  ⟨some 22, .pick (.tmp 19) (.const (.bool true)) (.tmp 21), false, none⟩]) <|
 .seq (.keep [0, 1, 2, 22]) <|
 .cond (.tmp 22) (.seq (.ops [⟨some 6, .assign (.const (.slice none 0 0)), false, none⟩]) <|
 .seq (.keep [6]) <|
 .ret) <|
 .skip) <|
 .seq (.keep [0, 1, 2]) <|
 .seq (.ops [⟨some 23, .move (.tmp 2), false, none⟩,
  ⟨some 24, .makeSlice 22 (.tmp 23) (.tmp 23), true, none⟩,
  ⟨some 7, .assign (.tmp 24), false, none⟩]) <|
 .seq (.keep [0, 1, 7]) <|
 .seq (.seq (.ops [⟨some 25, .move (.tmp 7), false, none⟩,
  ⟨some 8, .assign (.tmp 25), false, none⟩]) <|
 .seq (.keep [0, 1, 7, 8]) <|
 .block 0 <| .loop <| .seq (.seq (.seq (.ops [⟨some 26, .move (.tmp 8), false, none⟩,
  ⟨some 27, .call ⟨.builtin .len, #[(.tmp 26)], #[22]⟩, false, none⟩,
  ⟨some 28, .binOp .gtr 3 (.tmp 27) (.const (.int .i64 0)) 3, false, none⟩,
  ⟨some 29, .move (.tmp 28), false, none⟩,
  ⟨some 30, .move (.tmp 1), false, some (29, true)⟩,
  ⟨some 31, .binOp .lss 29 (.tmp 30) (.const (.int .u64 274877906944)) 29, false, some (29, true)⟩,
  ⟨some 32, .pick (.tmp 29) (.tmp 31) (.const (.bool false)), false, none⟩]) <|
 .seq (.keep [0, 1, 7, 8, 32]) <|
 .cond (.tmp 32) (.skip) <|
 .exit 0) <|
 .seq (.keep [0, 1, 7, 8]) <|
 .block 1 <| .seq (.ops [⟨some 34, .move (.tmp 1), false, none⟩,
  ⟨some 35, .move (.tmp 8), false, none⟩,
  ⟨some 36, .call ⟨.builtin .len, #[(.tmp 35)], #[22]⟩, false, none⟩,
  ⟨some 37, .call ⟨.value (.func 83), #[(.tmp 34), (.tmp 36)], #[29, 3]⟩, true, none⟩,
  ⟨some 33, .move (.tmp 37), false, none⟩,
  ⟨some 38, .extract (.tmp 33) 0, false, none⟩,
  ⟨some 39, .extract (.tmp 33) 1, false, none⟩,
  ⟨some 9, .assign (.tmp 38), false, none⟩,
  ⟨some 10, .assign (.tmp 39), false, none⟩]) <|
 .seq (.keep [0, 1, 7, 8, 9, 10]) <|
 .seq (.seq (.ops [⟨some 41, .move (.tmp 0), false, none⟩,
  ⟨some 42, .nilCheck (.tmp 41), false, none⟩,
  ⟨some 43, .fieldAddr 139 (.tmp 42) 0, false, none⟩,
  ⟨some 44, .load 136 (.tmp 43), false, none⟩,
  ⟨some 45, .move (.tmp 1), false, none⟩,
  ⟨some 46, .binOp .quo 29 (.tmp 45) (.const (.int .u64 4096)) 29, false, none⟩,
  ⟨some 47, .lookup 136 (.tmp 44) (.tmp 46) true, false, none⟩,
  ⟨some 40, .move (.tmp 47), false, none⟩,
  ⟨some 48, .extract (.tmp 40) 0, false, none⟩,
  ⟨some 49, .extract (.tmp 40) 1, false, none⟩,
  ⟨some 11, .assign (.tmp 48), false, none⟩,
  ⟨some 12, .assign (.tmp 49), false, none⟩]) <|
 .seq (.keep [0, 1, 7, 8, 9, 10, 11, 12]) <|
 .seq (.ops [⟨some 50, .move (.tmp 12), false, none⟩]) <|
 .seq (.keep [0, 1, 7, 8, 9, 10, 11, 50]) <|
 .cond (.tmp 50) (.seq (.ops [⟨some 51, .move (.tmp 8), false, none⟩]) <|
 .seq (.ops [⟨some 52, .move (.tmp 10), false, none⟩]) <|
 .seq (.ops [⟨some 53, .slice 22 (.tmp 51) none (some (.tmp 52)) none, false, none⟩]) <|
 .seq (.ops [⟨some 54, .move (.tmp 11), false, none⟩]) <|
 .seq (.ops [⟨some 55, .nilCheck (.tmp 54), false, none⟩]) <|
 .seq (.ops [⟨some 56, .move (.tmp 9), false, none⟩]) <|
 .seq (.ops [⟨some 57, .slice 148 (.tmp 55) (some (.tmp 56)) none none, false, none⟩]) <|
 .seq (.ops [⟨some 58, .call ⟨.builtin .copy, #[(.tmp 53), (.tmp 57)], #[22, 22]⟩, true, none⟩]) <|
 .skip) <|
 .skip) <|
 .seq (.keep [0, 1, 7, 8, 10]) <|
 .seq (.ops [⟨some 59, .move (.tmp 8), false, none⟩,
  ⟨some 60, .move (.tmp 10), false, none⟩,
  ⟨some 61, .slice 22 (.tmp 59) (some (.tmp 60)) none none, false, none⟩,
  ⟨some 8, .assign (.tmp 61), false, none⟩]) <|
 .seq (.keep [0, 1, 7, 8, 10]) <|
 .ops [⟨some 62, .move (.tmp 1), false, none⟩,
  ⟨some 63, .move (.tmp 10), false, none⟩,
  ⟨some 64, .convert 3 29 (.tmp 63), false, none⟩,
  ⟨some 65, .binOp .add 29 (.tmp 62) (.tmp 64) 29, false, none⟩,
  ⟨some 1, .assign (.tmp 65), false, none⟩]) <|
 .keep [0, 1, 7, 8]) <|
 .seq (.keep [7]) <|
 .seq (.ops [⟨some 66, .move (.tmp 7), false, none⟩,
  ⟨some 6, .assign (.tmp 66), false, none⟩]) <|
 .seq (.keep [6]) <|
 .ret
theorem c117 : Tryz.f117.body.map (fun c => ((compile Tryz.prog kp117 [] kp117 c).map (·.1), fits Tryz.f117.ntmps c)) = some (some s117, true) := by kernel_rfl
theorem r117 : Tryz.f117.results.toList = [.tmp 6] := by kernel_rfl
attribute [go_sem] s117
abbrev kp118 : List Nat := [4]
def s118 : SC :=
 .seq (.ops [⟨some 4, .assign (.const (.bool false)), false, none⟩]) <|
 .seq (.keep [0, 1]) <|
 .seq (.ops [⟨some 5, .move (.tmp 0), false, none⟩,
  ⟨some 6, .move (.tmp 1), false, none⟩,
  ⟨some 7, .call ⟨.value (.func 81), #[(.tmp 5), (.tmp 6)], #[93, 142]⟩, true, none⟩,
  ⟨some 8, .binOp .geq 3 (.tmp 7) (.const (.int .i64 0)) 3, false, none⟩,
  ⟨some 4, .assign (.tmp 8), false, none⟩]) <|
 .seq (.keep [4]) <|
 .ret
theorem c118 : Tryz.f118.body.map (fun c => ((compile Tryz.prog kp118 [] kp118 c).map (·.1), fits Tryz.f118.ntmps c)) = some (some s118, true) := by kernel_rfl
theorem r118 : Tryz.f118.results.toList = [.tmp 4] := by kernel_rfl
attribute [go_sem] s118
abbrev kp119 : List Nat := [4]
def s119 : SC :=
 .seq (.ops [⟨some 3, .box 96 (.tmp 0), true, none⟩,
  ⟨some 4, .assign (.const (.bool false)), false, none⟩]) <|
 .seq (.keep [1, 2, 3]) <|
 .seq (.ops [⟨some 5, .fieldAddr 96 (.tmp 3) 0, false, none⟩,
  ⟨some 6, .load 29 (.tmp 5), false, none⟩,
  ⟨some 7, .load 29 (.tmp 1), false, none⟩,
  ⟨some 8, .binOp .lss 29 (.tmp 6) (.tmp 7) 29, false, none⟩,
  ⟨some 9, .move (.tmp 8), false, none⟩,
  ⟨some 10, .fieldAddr 96 (.tmp 3) 1, false, some (9, true)⟩,
  ⟨some 11, .load 29 (.tmp 10), false, some (9, true)⟩,
  ⟨some 12, .load 29 (.tmp 2), false, some (9, true)⟩,
  ⟨some 13, .binOp .gtr 29 (.tmp 11) (.tmp 12) 29, false, some (9, true)⟩,
  ⟨some 14, .pick (.tmp 9) (.tmp 13) (.const (.bool false)), false, none⟩,
  ⟨some 4, .assign (.tmp 14), false, none⟩]) <|
 .seq (.keep [4]) <|
 .ret
theorem c119 : Tryz.f119.body.map (fun c => ((compile Tryz.prog kp119 [] kp119 c).map (·.1), fits Tryz.f119.ntmps c)) = some (some s119, true) := by kernel_rfl
theorem r119 : Tryz.f119.results.toList = [.tmp 4] := by kernel_rfl
attribute [go_sem] s119
abbrev kp120 : List Nat := [2]
def s120 : SC :=
 .seq (.ops [⟨some 2, .assign (.const (.slice none 0 0)), false, none⟩]) <|
 .seq (.keep [0]) <|
 .seq (.seq (.ops [⟨some 3, .move (.tmp 0), false, none⟩,
  ⟨some 4, .binOp .eql 93 (.tmp 3) (.const (.slice none 0 0)) 93, false, none⟩]) <|
 .seq (.keep [0, 4]) <|
 .cond (.tmp 4) (.seq (.ops [⟨some 2, .assign (.const (.slice none 0 0)), false, none⟩]) <|
 .seq (.keep [2]) <|
 .ret) <|
 .skip) <|
 .seq (.keep [0]) <|
 .seq (.ops [⟨some 5, .buildSlice 93 0 #[], true, none⟩,
  ⟨some 6, .move (.tmp 0), false, none⟩,
  ⟨some 7, .call ⟨.builtin .append, #[(.tmp 5), (.tmp 6)], #[93, 93]⟩, true, none⟩,
  ⟨some 2, .assign (.tmp 7), false, none⟩]) <|
 .seq (.keep [2]) <|
 .ret
theorem c120 : Tryz.f120.body.map (fun c => ((compile Tryz.prog kp120 [] kp120 c).map (·.1), fits Tryz.f120.ntmps c)) = some (some s120, true) := by kernel_rfl
theorem r120 : Tryz.f120.results.toList = [.tmp 2] := by kernel_rfl
attribute [go_sem] s120
abbrev kp122 : List Nat := [2]
def s122 : SC :=
 .seq (.ops [⟨some 2, .assign (.const (.slice none 0 0)), false, none⟩]) <|
 .seq (.keep [0]) <|
 .seq (.ops [⟨some 3, .assign (.const (.slice none 0 0)), false, none⟩]) <|
 .seq (.keep [0, 3]) <|
 .seq (.seq (.ops [⟨some 7, .move (.tmp 0), false, none⟩,
  ⟨some 8, .call ⟨.builtin .len, #[(.tmp 7)], #[93]⟩, false, none⟩,
  ⟨some 9, .move (.const (.int .i64 0)), false, none⟩]) <|
 .seq (.keep [3, 7, 8, 9]) <|
 .block 0 <| .loop <| .seq (.seq (.ops [⟨some 10, .binOp .lss 3 (.tmp 9) (.tmp 8) 3, false, none⟩]) <|
 .seq (.keep [3, 7, 8, 9, 10]) <|
 .seq (.cond (.tmp 10) (.skip) <|
 .exit 0) <|
 .seq (.keep [3, 7, 8, 9]) <|
 .seq (.block 1 <| .seq (.ops [⟨some 11, .indexAddr 93 (.tmp 7) (.tmp 9), false, none⟩,
  ⟨some 12, .load 96 (.tmp 11), false, none⟩,
  ⟨some 5, .alloc 96, true, none⟩,
  ⟨none, .store 96 (.tmp 5) (.tmp 12), true, none⟩]) <|
 .seq (.keep [3, 5, 7, 8, 9]) <|
 .seq (.seq (.ops [⟨some 13, .move (.tmp 3), false, none⟩,
  ⟨some 14, .call ⟨.builtin .len, #[(.tmp 13)], #[93]⟩, false, none⟩,
  ⟨some 6, .assign (.tmp 14), false, none⟩]) <|
 .seq (.keep [3, 5, 6, 7, 8, 9]) <|
 .seq (.seq (.ops [⟨some 15, .move (.tmp 6), false, none⟩]) <|
 .seq (.ops [⟨some 16, .binOp .gtr 3 (.tmp 15) (.const (.int .i64 0)) 3, false, none⟩]) <|
 .seq (.ops [⟨some 17, .move (.tmp 16), false, none⟩]) <|
 .seq (.ops [⟨some 18, .move (.tmp 3), false, some (17, true)⟩]) <|
 .seq (.ops [⟨some 19, .move (.tmp 6), false, some (17, true)⟩]) <|
 .seq (.ops [⟨some 20, .binOp .sub 3 (.tmp 19) (.const (.int .i64 1)) 3, false, some (17, true)⟩]) <|
 .seq (.ops [⟨some 21, .indexAddr 93 (.tmp 18) (.tmp 20), false, some (17, true)⟩]) <|
 .seq (.ops [⟨some 22, .fieldAddr 96 (.tmp 21) 1, false, some (17, true)⟩]) <|
 .seq (.ops [⟨some 23, .load 29 (.tmp 22), false, some (17, true)⟩]) <|
 .seq (.ops [⟨some 24, .fieldAddr 96 (.tmp 5) 0, false, some (17, true)⟩]) <|
 .seq (.ops [⟨some 25, .load 29 (.tmp 24), false, some (17, true)⟩]) <|
 .seq (.ops [⟨some 26, .binOp .eql 29 (.tmp 23) (.tmp 25) 29, false, some (17, true)⟩]) <|
 .seq (.ops [⟨some 27, .pick (.tmp 17) (.tmp 26) (.const (.bool false)), false, none⟩]) <|
 .seq (.ops [⟨some 28, .move (.tmp 27), false, none⟩]) <|
 .seq (.ops [⟨some 29, .move (.tmp 3), false, some (28, true)⟩]) <|
 .seq (.ops [⟨some 30, .move (.tmp 6), false, some (28, true)⟩]) <|
 .seq (.ops [⟨some 31, .binOp .sub 3 (.tmp 30) (.const (.int .i64 1)) 3, false, some (28, true)⟩]) <|
 .seq (.ops [⟨some 32, .indexAddr 93 (.tmp 29) (.tmp 31), false, some (28, true)⟩]) <|
 .seq (.ops [⟨some 33, .fieldAddr 96 (.tmp 32) 2, false, some (28, true)⟩]) <|
 .seq (.ops [⟨some 34, .load 3 (.tmp 33), false, some (28, true)⟩]) <|
 .seq (.ops [⟨some 35, .fieldAddr 96 (.tmp 5) 2, false, some (28, true)⟩]) <|
 .seq (.ops [⟨some 36, .load 3 (.tmp 35), false, some (28, true)⟩]) <|
 .seq (.ops [⟨some 37, .binOp .eql 3 (.tmp 34) (.tmp 36) 3, false, some (28, true)⟩]) <|
 .seq (.ops [⟨some 38, .pick (.tmp 28) (.tmp 37) (.const (.bool false)), false, none⟩]) <|
 .skip) <|
 .seq (.keep [3, 5, 6, 7, 8, 9, 38]) <|
 .cond (.tmp 38) (.seq (.ops [⟨some 39, .move (.tmp 3), false, none⟩,
  ⟨some 40, .move (.tmp 6), false, none⟩,
  ⟨some 41, .binOp .sub 3 (.tmp 40) (.const (.int .i64 1)) 3, false, none⟩,
  ⟨some 42, .fieldAddr 96 (.tmp 5) 1, false, none⟩,
  ⟨some 43, .load 29 (.tmp 42), false, none⟩,
  ⟨some 44, .indexAddr 93 (.tmp 39) (.tmp 41), false, none⟩,
  ⟨some 45, .fieldAddr 96 (.tmp 44) 1, false, none⟩,
  ⟨none, .store 29 (.tmp 45) (.tmp 43), true, none⟩]) <|
 .seq (.keep [3, 7, 8, 9]) <|
 .exit 1) <|
 .skip) <|
 .seq (.keep [3, 5, 7, 8, 9]) <|
 .ops [⟨some 46, .move (.tmp 3), false, none⟩,
  ⟨some 47, .load 96 (.tmp 5), false, none⟩,
  ⟨some 48, .buildSlice 93 1 #[(0, (.tmp 47))], true, none⟩,
  ⟨some 49, .call ⟨.builtin .append, #[(.tmp 46), (.tmp 48)], #[93, 93]⟩, true, none⟩,
  ⟨some 3, .assign (.tmp 49), false, none⟩]) <|
 .seq (.keep [3, 7, 8, 9]) <|
 .ops [⟨some 50, .binOp .add 3 (.tmp 9) (.const (.int .i64 1)) 3, false, none⟩,
  ⟨some 9, .move (.tmp 50), false, none⟩]) <|
 .keep [3, 7, 8, 9]) <|
 .seq (.keep [3]) <|
 .seq (.ops [⟨some 51, .move (.tmp 3), false, none⟩,
  ⟨some 2, .assign (.tmp 51), false, none⟩]) <|
 .seq (.keep [2]) <|
 .ret
theorem c122 : Tryz.f122.body.map (fun c => ((compile Tryz.prog kp122 [] kp122 c).map (·.1), fits Tryz.f122.ntmps c)) = some (some s122, true) := by kernel_rfl
theorem r122 : Tryz.f122.results.toList = [.tmp 2] := by kernel_rfl
attribute [go_sem] s122
abbrev kp123 : List Nat := [3]
def s123 : SC :=
 .seq (.ops [⟨some 2, .box 96 (.tmp 0), true, none⟩,
  ⟨some 3, .assign (.const (.bool false)), false, none⟩]) <|
 .seq (.keep [1, 2]) <|
 .seq (.ops [⟨some 4, .fieldAddr 96 (.tmp 2) 0, false, none⟩,
  ⟨some 5, .load 29 (.tmp 4), false, none⟩,
  ⟨some 6, .fieldAddr 96 (.tmp 1) 0, false, none⟩,
  ⟨some 7, .load 29 (.tmp 6), false, none⟩,
  ⟨some 8, .binOp .gtr 29 (.tmp 5) (.tmp 7) 29, false, none⟩,
  ⟨some 3, .assign (.tmp 8), false, none⟩]) <|
 .seq (.keep [3]) <|
 .ret
theorem c123 : Tryz.f123.body.map (fun c => ((compile Tryz.prog kp123 [] kp123 c).map (·.1), fits Tryz.f123.ntmps c)) = some (some s123, true) := by kernel_rfl
theorem r123 : Tryz.f123.results.toList = [.tmp 3] := by kernel_rfl
attribute [go_sem] s123
abbrev kp124 : List Nat := [6]
def s124 : SC :=
 .seq (.ops [⟨some 6, .assign (.const (.slice none 0 0)), false, none⟩]) <|
 .seq (.keep [0, 1, 2]) <|
 .seq (.ops [⟨some 10, .move (.tmp 0), false, none⟩,
  ⟨some 11, .move (.tmp 1), false, none⟩,
  ⟨some 12, .slice 93 (.tmp 10) (some (.tmp 11)) none none, false, none⟩]) <|
 .seq (.keep [0, 1, 2]) <|
 .seq (.ops [⟨some 13, .move (.tmp 2), false, none⟩,
  ⟨some 14, .call ⟨.builtin .len, #[(.tmp 13)], #[93]⟩, false, none⟩,
  ⟨some 7, .assign (.tmp 14), false, none⟩]) <|
 .seq (.keep [0, 1, 2, 7]) <|
 .seq (.seq (.ops [⟨some 15, .move (.tmp 7), false, none⟩,
  ⟨some 16, .binOp .eql 3 (.tmp 15) (.const (.int .i64 0)) 3, false, none⟩]) <|
 .seq (.keep [0, 1, 2, 7, 16]) <|
 .cond (.tmp 16) (.seq (.ops [⟨some 17, .move (.tmp 0), false, none⟩,
  ⟨some 6, .assign (.tmp 17), false, none⟩]) <|
 .seq (.keep [6]) <|
 .ret) <|
 .skip) <|
 .seq (.keep [0, 1, 2, 7]) <|
 .seq (.ops [⟨some 18, .move (.tmp 0), false, none⟩,
  ⟨some 19, .call ⟨.builtin .len, #[(.tmp 18)], #[93]⟩, false, none⟩,
  ⟨some 8, .assign (.tmp 19), false, none⟩]) <|
 .seq (.keep [0, 1, 2, 7, 8]) <|
 .seq (.seq (.ops [⟨some 20, .move (.tmp 1), false, none⟩,
  ⟨some 21, .move (.tmp 8), false, none⟩,
  ⟨some 22, .binOp .eql 3 (.tmp 20) (.tmp 21) 3, false, none⟩]) <|
 .seq (.keep [0, 1, 2, 7, 8, 22]) <|
 .cond (.tmp 22) (.seq (.ops [⟨some 23, .move (.tmp 0), false, none⟩,
  ⟨some 24, .move (.tmp 2), false, none⟩,
  ⟨some 25, .call ⟨.builtin .append, #[(.tmp 23), (.tmp 24)], #[93, 93]⟩, true, none⟩,
  ⟨some 6, .assign (.tmp 25), false, none⟩]) <|
 .seq (.keep [6]) <|
 .ret) <|
 .skip) <|
 .seq (.keep [0, 1, 2, 7, 8]) <|
 .seq (.seq (.ops [⟨some 26, .move (.tmp 8), false, none⟩,
  ⟨some 27, .move (.tmp 7), false, none⟩,
  ⟨some 28, .binOp .add 3 (.tmp 26) (.tmp 27) 3, false, none⟩,
  ⟨some 29, .move (.tmp 0), false, none⟩,
  ⟨some 30, .call ⟨.builtin .cap, #[(.tmp 29)], #[93]⟩, false, none⟩,
  ⟨some 31, .binOp .gtr 3 (.tmp 28) (.tmp 30) 3, false, none⟩]) <|
 .seq (.keep [0, 1, 2, 7, 8, 31]) <|
 .cond (.tmp 31) (.seq (.ops [⟨some 32, .move (.tmp 0), false, none⟩,
  ⟨some 33, .move (.tmp 1), false, none⟩,
  ⟨some 34, .slice 93 (.tmp 32) none (some (.tmp 33)) none, false, none⟩,
  ⟨some 35, .move (.tmp 8), false, none⟩,
  ⟨some 36, .move (.tmp 7), false, none⟩,
  ⟨some 37, .binOp .add 3 (.tmp 35) (.tmp 36) 3, false, none⟩,
  ⟨some 38, .move (.tmp 1), false, none⟩,
  ⟨some 39, .binOp .sub 3 (.tmp 37) (.tmp 38) 3, false, none⟩,
  ⟨some 40, .call ⟨.builtin .append, #[(.tmp 34), (.tmp 39)], #[93, 3]⟩, true, none⟩,
  ⟨some 9, .assign (.tmp 40), false, none⟩]) <|
 .seq (.keep [0, 1, 2, 7, 9]) <|
 .seq (.ops [⟨some 41, .move (.tmp 9), false, none⟩,
  ⟨some 42, .move (.tmp 1), false, none⟩,
  ⟨some 43, .slice 93 (.tmp 41) (some (.tmp 42)) none none, false, none⟩,
  ⟨some 44, .move (.tmp 2), false, none⟩,
  ⟨some 45, .call ⟨.builtin .copy, #[(.tmp 43), (.tmp 44)], #[93, 93]⟩, true, none⟩]) <|
 .seq (.keep [0, 1, 7, 9]) <|
 .seq (.seq (.ops [⟨some 46, .move (.tmp 9), false, none⟩]) <|
 .seq (.ops [⟨some 47, .move (.tmp 1), false, none⟩]) <|
 .seq (.ops [⟨some 48, .move (.tmp 7), false, none⟩]) <|
 .seq (.ops [⟨some 49, .binOp .add 3 (.tmp 47) (.tmp 48) 3, false, none⟩]) <|
 .seq (.ops [⟨some 50, .slice 93 (.tmp 46) (some (.tmp 49)) none none, false, none⟩]) <|
 .seq (.ops [⟨some 51, .move (.tmp 0), false, none⟩]) <|
 .seq (.ops [⟨some 52, .move (.tmp 1), false, none⟩]) <|
 .seq (.ops [⟨some 53, .slice 93 (.tmp 51) (some (.tmp 52)) none none, false, none⟩]) <|
 .seq (.ops [⟨some 54, .call ⟨.builtin .copy, #[(.tmp 50), (.tmp 53)], #[93, 93]⟩, true, none⟩]) <|
 .skip) <|
 .seq (.keep [9]) <|
 .seq (.ops [⟨some 55, .move (.tmp 9), false, none⟩,
  ⟨some 6, .assign (.tmp 55), false, none⟩]) <|
 .seq (.keep [6]) <|
 .ret) <|
 .skip) <|
 .seq (.keep [0, 1, 2, 7, 8]) <|
 .seq (.ops [⟨some 56, .move (.tmp 0), false, none⟩,
  ⟨some 57, .move (.tmp 8), false, none⟩,
  ⟨some 58, .move (.tmp 7), false, none⟩,
  ⟨some 59, .binOp .add 3 (.tmp 57) (.tmp 58) 3, false, none⟩,
  ⟨some 60, .slice 93 (.tmp 56) none (some (.tmp 59)) none, false, none⟩,
  ⟨some 0, .assign (.tmp 60), false, none⟩]) <|
 .seq (.keep [0, 1, 2, 7, 8]) <|
 .seq (.seq (.ops [⟨some 61, .move (.tmp 2), false, none⟩,
  ⟨some 62, .move (.tmp 0), false, none⟩,
  ⟨some 63, .move (.tmp 1), false, none⟩,
  ⟨some 64, .move (.tmp 7), false, none⟩,
  ⟨some 65, .binOp .add 3 (.tmp 63) (.tmp 64) 3, false, none⟩,
  ⟨some 66, .slice 93 (.tmp 62) (some (.tmp 65)) none none, false, none⟩,
  ⟨some 67, .call ⟨.value (.func 145), #[(.tmp 61), (.tmp 66)], #[93, 93]⟩, true, none⟩,
  ⟨some 68, .unOp .not 4 (.tmp 67), false, none⟩]) <|
 .seq (.keep [0, 1, 2, 7, 8, 68]) <|
 .cond (.tmp 68) (.seq (.seq (.ops [⟨some 69, .move (.tmp 0), false, none⟩]) <|
 .seq (.ops [⟨some 70, .move (.tmp 1), false, none⟩]) <|
 .seq (.ops [⟨some 71, .move (.tmp 7), false, none⟩]) <|
 .seq (.ops [⟨some 72, .binOp .add 3 (.tmp 70) (.tmp 71) 3, false, none⟩]) <|
 .seq (.ops [⟨some 73, .slice 93 (.tmp 69) (some (.tmp 72)) none none, false, none⟩]) <|
 .seq (.ops [⟨some 74, .move (.tmp 0), false, none⟩]) <|
 .seq (.ops [⟨some 75, .move (.tmp 1), false, none⟩]) <|
 .seq (.ops [⟨some 76, .slice 93 (.tmp 74) (some (.tmp 75)) none none, false, none⟩]) <|
 .seq (.ops [⟨some 77, .call ⟨.builtin .copy, #[(.tmp 73), (.tmp 76)], #[93, 93]⟩, true, none⟩]) <|
 .skip) <|
 .seq (.keep [0, 1, 2]) <|
 .seq (.ops [⟨some 78, .move (.tmp 0), false, none⟩,
  ⟨some 79, .move (.tmp 1), false, none⟩,
  ⟨some 80, .slice 93 (.tmp 78) (some (.tmp 79)) none none, false, none⟩,
  ⟨some 81, .move (.tmp 2), false, none⟩,
  ⟨some 82, .call ⟨.builtin .copy, #[(.tmp 80), (.tmp 81)], #[93, 93]⟩, true, none⟩]) <|
 .seq (.keep [0]) <|
 .seq (.ops [⟨some 83, .move (.tmp 0), false, none⟩,
  ⟨some 6, .assign (.tmp 83), false, none⟩]) <|
 .seq (.keep [6]) <|
 .ret) <|
 .skip) <|
 .seq (.keep [0, 1, 2, 7, 8]) <|
 .seq (.ops [⟨some 84, .move (.tmp 0), false, none⟩,
  ⟨some 85, .move (.tmp 8), false, none⟩,
  ⟨some 86, .slice 93 (.tmp 84) (some (.tmp 85)) none none, false, none⟩,
  ⟨some 87, .move (.tmp 2), false, none⟩,
  ⟨some 88, .call ⟨.builtin .copy, #[(.tmp 86), (.tmp 87)], #[93, 93]⟩, true, none⟩]) <|
 .seq (.keep [0, 1, 7]) <|
 .seq (.ops [⟨some 89, .move (.tmp 0), false, none⟩,
  ⟨some 90, .move (.tmp 1), false, none⟩,
  ⟨some 91, .slice 93 (.tmp 89) (some (.tmp 90)) none none, false, none⟩,
  ⟨some 92, .move (.tmp 7), false, none⟩,
  ⟨some 93, .call ⟨.value (.func 146), #[(.tmp 91), (.tmp 92)], #[93, 3]⟩, true, none⟩]) <|
 .seq (.keep [0]) <|
 .seq (.ops [⟨some 94, .move (.tmp 0), false, none⟩,
  ⟨some 6, .assign (.tmp 94), false, none⟩]) <|
 .seq (.keep [6]) <|
 .ret
theorem c124 : Tryz.f124.body.map (fun c => ((compile Tryz.prog kp124 [] kp124 c).map (·.1), fits Tryz.f124.ntmps c)) = some (some s124, true) := by kernel_rfl
theorem r124 : Tryz.f124.results.toList = [.tmp 6] := by kernel_rfl
attribute [go_sem] s124
abbrev kp125 : List Nat := [4, 5]
def s125 : SC :=
 .seq (.ops [⟨some 4, .assign (.const (.int .u32 0)), false, none⟩,
  ⟨some 5, .alloc 41, true, none⟩]) <|
 .seq (.keep [0, 1, 5]) <|
 .seq (.seq (.ops [⟨some 9, .move (.tmp 0), false, none⟩,
  ⟨some 10, .move (.tmp 1), false, none⟩,
  ⟨some 11, .call ⟨.value (.func 87), #[(.tmp 9), (.tmp 10), (.const (.int .i64 2)), (.const (.int .i64 4))], #[24, 29, 3, 3]⟩, true, none⟩,
  ⟨some 8, .move (.tmp 11), false, none⟩,
  ⟨some 12, .extract (.tmp 8) 0, false, none⟩,
  ⟨some 13, .extract (.tmp 8) 1, false, none⟩,
  ⟨some 6, .assign (.tmp 12), false, none⟩,
  ⟨some 7, .assign (.tmp 13), false, none⟩]) <|
 .seq (.keep [0, 1, 5, 6, 7]) <|
 .seq (.ops [⟨some 14, .move (.tmp 7), false, none⟩]) <|
 .seq (.keep [0, 1, 5, 6, 14]) <|
 .cond (.tmp 14) (.seq (.ops [⟨some 15, .move (.tmp 6), false, none⟩,
  ⟨some 16, .build 41 #[(0, (.const (.int .i64 3))), (1, (.tmp 15))], false, none⟩,
  ⟨some 4, .assign (.const (.int .u32 0)), false, none⟩,
  ⟨none, .store 41 (.tmp 5) (.tmp 16), true, none⟩]) <|
 .seq (.keep [4, 5]) <|
 .ret) <|
 .skip) <|
 .seq (.keep [0, 1, 5]) <|
 .seq (.ops [⟨some 17, .move (.tmp 0), false, none⟩,
  ⟨some 18, .nilCheck (.tmp 17), false, none⟩,
  ⟨some 19, .fieldAddr 84 (.tmp 18) 1, false, none⟩,
  ⟨some 20, .load 81 (.tmp 19), false, none⟩,
  ⟨some 21, .move (.tmp 1), false, none⟩,
  ⟨some 22, .call ⟨.value (.func 117), #[(.tmp 20), (.tmp 21), (.const (.int .i64 2))], #[81, 29, 3]⟩, true, none⟩,
  ⟨some 23, .call ⟨.value (.func 147), #[(.tmp 22), (.const (.int .i64 2))], #[22, 3]⟩, true, none⟩,
  ⟨some 24, .convert 29 37 (.tmp 23), false, none⟩,
  ⟨some 25, .build 41 #[], false, none⟩,
  ⟨some 4, .assign (.tmp 24), false, none⟩,
  ⟨none, .store 41 (.tmp 5) (.tmp 25), true, none⟩]) <|
 .seq (.keep [4, 5]) <|
 .ret
theorem c125 : Tryz.f125.body.map (fun c => ((compile Tryz.prog kp125 [] kp125 c).map (·.1), fits Tryz.f125.ntmps c)) = some (some s125, true) := by kernel_rfl
theorem r125 : Tryz.f125.results.toList = [.tmp 4, .cell 5 41] := by kernel_rfl
attribute [go_sem] s125
abbrev kp126 : List Nat := [2]
def s126 : SC :=
 .seq (.ops [⟨some 2, .assign (.const (.bool false)), false, none⟩]) <|
 .seq (.keep [0]) <|
 .seq (.ops [⟨some 3, .move (.tmp 0), false, none⟩,
  ⟨some 4, .binOp .and 114 (.tmp 3) (.const (.int .u16 3)) 114, false, none⟩,
  ⟨some 5, .binOp .neq 114 (.tmp 4) (.const (.int .u16 3)) 114, false, none⟩,
  ⟨some 2, .assign (.tmp 5), false, none⟩]) <|
 .seq (.keep [2]) <|
 .ret
theorem c126 : Tryz.f126.body.map (fun c => ((compile Tryz.prog kp126 [] kp126 c).map (·.1), fits Tryz.f126.ntmps c)) = some (some s126, true) := by kernel_rfl
theorem r126 : Tryz.f126.results.toList = [.tmp 2] := by kernel_rfl
attribute [go_sem] s126
abbrev kp127 : List Nat := [2, 3]
def s127 : SC :=
 .seq (.ops [⟨some 2, .alloc 47, true, none⟩,
  ⟨some 3, .assign (.const (.bool false)), false, none⟩]) <|
 .seq (.keep [0, 2]) <|
 .seq (.ops [⟨some 4, .alloc 47, true, none⟩]) <|
 .seq (.keep [0, 2, 4]) <|
 .seq (.seq (.ops [⟨some 5, .move (.tmp 0), false, none⟩,
  ⟨some 6, .binOp .and 114 (.tmp 5) (.const (.int .u16 3)) 114, false, none⟩]) <|
 .seq (.keep [0, 2, 4, 6]) <|
 .block 0 <| .seq (.ops [⟨some 8, .binOp .eql 114 (.tmp 6) (.const (.int .u16 0)) 114, false, none⟩,
  ⟨some 7, .assign (.tmp 8), false, none⟩]) <|
 .seq (.keep [0, 2, 4, 6, 7]) <|
 .cond (.tmp 7) (.ops [⟨some 9, .move (.tmp 0), false, none⟩,
  ⟨some 10, .call ⟨.value (.func 148), #[(.tmp 9)], #[189]⟩, true, none⟩,
  ⟨none, .store 47 (.tmp 4) (.tmp 10), true, none⟩]) <|
 .seq (.ops [⟨some 12, .binOp .eql 114 (.tmp 6) (.const (.int .u16 1)) 114, false, none⟩,
  ⟨some 11, .assign (.tmp 12), false, none⟩]) <|
 .seq (.keep [0, 2, 4, 6, 11]) <|
 .cond (.tmp 11) (.ops [⟨some 13, .move (.tmp 0), false, none⟩,
  ⟨some 14, .call ⟨.value (.func 149), #[(.tmp 13)], #[189]⟩, true, none⟩,
  ⟨none, .store 47 (.tmp 4) (.tmp 14), true, none⟩]) <|
 .seq (.ops [⟨some 16, .binOp .eql 114 (.tmp 6) (.const (.int .u16 2)) 114, false, none⟩,
  ⟨some 15, .assign (.tmp 16), false, none⟩]) <|
 .seq (.keep [0, 2, 4, 15]) <|
 .cond (.tmp 15) (.ops [⟨some 17, .move (.tmp 0), false, none⟩,
  ⟨some 18, .call ⟨.value (.func 150), #[(.tmp 17)], #[189]⟩, true, none⟩,
  ⟨none, .store 47 (.tmp 4) (.tmp 18), true, none⟩]) <|
 .skip) <|
 .seq (.keep [2, 4]) <|
 .seq (.seq (.ops [⟨some 19, .fieldAddr 47 (.tmp 4) 0, false, none⟩,
  ⟨some 20, .load 3 (.tmp 19), false, none⟩,
  ⟨some 21, .binOp .eql 3 (.tmp 20) (.const (.int .i64 0)) 3, false, none⟩]) <|
 .seq (.keep [2, 4, 21]) <|
 .cond (.tmp 21) (.seq (.ops [⟨some 22, .build 47 #[], false, none⟩,
  ⟨none, .store 47 (.tmp 2) (.tmp 22), true, none⟩,
  ⟨some 3, .assign (.const (.bool false)), false, none⟩]) <|
 .seq (.keep [2, 3]) <|
 .ret) <|
 .skip) <|
 .seq (.keep [2, 4]) <|
 .seq (.ops [⟨some 23, .fieldAddr 47 (.tmp 4) 6, false, none⟩,
  ⟨none, .store 3 (.tmp 23) (.const (.int .i64 2)), true, none⟩]) <|
 .seq (.keep [2, 4]) <|
 .seq (.ops [⟨some 24, .load 47 (.tmp 4), false, none⟩,
  ⟨none, .store 47 (.tmp 2) (.tmp 24), true, none⟩,
  ⟨some 3, .assign (.const (.bool true)), false, none⟩]) <|
 .seq (.keep [2, 3]) <|
 .ret
theorem c127 : Tryz.f127.body.map (fun c => ((compile Tryz.prog kp127 [] kp127 c).map (·.1), fits Tryz.f127.ntmps c)) = some (some s127, true) := by kernel_rfl
theorem r127 : Tryz.f127.results.toList = [.cell 2 47, .tmp 3] := by kernel_rfl
attribute [go_sem] s127
abbrev kp128 : List Nat := [2, 3]
def s128 : SC :=
 .seq (.ops [⟨some 2, .alloc 47, true, none⟩,
  ⟨some 3, .assign (.const (.bool false)), false, none⟩]) <|
 .seq (.keep [0, 2]) <|
 .seq (.ops [⟨some 10, .move (.tmp 0), false, none⟩,
  ⟨some 11, .call ⟨.value (.func 151), #[(.tmp 10), (.const (.int .i64 7)), (.const (.int .i64 5))], #[37, 3, 3]⟩, true, none⟩,
  ⟨some 12, .move (.tmp 0), false, none⟩,
  ⟨some 13, .call ⟨.value (.func 151), #[(.tmp 12), (.const (.int .i64 12)), (.const (.int .i64 3))], #[37, 3, 3]⟩, true, none⟩,
  ⟨some 14, .move (.tmp 0), false, none⟩,
  ⟨some 15, .call ⟨.value (.func 151), #[(.tmp 14), (.const (.int .i64 15)), (.const (.int .i64 5))], #[37, 3, 3]⟩, true, none⟩,
  ⟨some 16, .move (.tmp 0), false, none⟩,
  ⟨some 17, .call ⟨.value (.func 151), #[(.tmp 16), (.const (.int .i64 20)), (.const (.int .i64 5))], #[37, 3, 3]⟩, true, none⟩,
  ⟨some 18, .move (.tmp 0), false, none⟩,
  ⟨some 19, .call ⟨.value (.func 151), #[(.tmp 18), (.const (.int .i64 25)), (.const (.int .i64 7))], #[37, 3, 3]⟩, true, none⟩,
  ⟨some 4, .assign (.tmp 11), false, none⟩,
  ⟨some 5, .assign (.tmp 13), false, none⟩,
  ⟨some 6, .assign (.tmp 15), false, none⟩,
  ⟨some 7, .assign (.tmp 17), false, none⟩,
  ⟨some 8, .assign (.tmp 19), false, none⟩]) <|
 .seq (.keep [0, 2, 4, 5, 6, 7, 8]) <|
 .seq (.ops [⟨some 9, .alloc 47, true, none⟩]) <|
 .seq (.keep [0, 2, 4, 5, 6, 7, 8, 9]) <|
 .seq (.seq (.ops [⟨some 20, .move (.tmp 0), false, none⟩,
  ⟨some 21, .call ⟨.value (.func 151), #[(.tmp 20), (.const (.int .i64 0)), (.const (.int .i64 7))], #[37, 3, 3]⟩, true, none⟩]) <|
 .seq (.keep [0, 2, 4, 5, 6, 7, 8, 9, 21]) <|
 .block 0 <| .seq (.ops [⟨some 29, .binOp .eql 3 (.tmp 21) (.const (.int .i64 55)) 3, false, none⟩,
  ⟨some 28, .assign (.tmp 29), false, none⟩]) <|
 .seq (.keep [0, 2, 4, 5, 6, 7, 8, 9, 21, 28]) <|
 .cond (.tmp 28) (.ops [⟨some 30, .move (.tmp 4), false, none⟩,
  ⟨some 31, .move (.tmp 0), false, none⟩,
  ⟨some 32, .call ⟨.value (.func 152), #[(.tmp 31)], #[37]⟩, true, none⟩,
  ⟨some 33, .build 47 #[(0, (.const (.int .i64 1))), (1, (.tmp 30)), (4, (.tmp 32))], false, none⟩,
  ⟨none, .store 47 (.tmp 9) (.tmp 33), true, none⟩]) <|
 .seq (.ops [⟨some 35, .binOp .eql 3 (.tmp 21) (.const (.int .i64 23)) 3, false, none⟩,
  ⟨some 34, .assign (.tmp 35), false, none⟩]) <|
 .seq (.keep [0, 2, 4, 5, 6, 7, 8, 9, 21, 34]) <|
 .cond (.tmp 34) (.ops [⟨some 36, .move (.tmp 4), false, none⟩,
  ⟨some 37, .move (.tmp 0), false, none⟩,
  ⟨some 38, .call ⟨.value (.func 152), #[(.tmp 37)], #[37]⟩, true, none⟩,
  ⟨some 39, .build 47 #[(0, (.const (.int .i64 2))), (1, (.tmp 36)), (4, (.tmp 38))], false, none⟩,
  ⟨none, .store 47 (.tmp 9) (.tmp 39), true, none⟩]) <|
 .seq (.ops [⟨some 41, .binOp .eql 3 (.tmp 21) (.const (.int .i64 111)) 3, false, none⟩,
  ⟨some 40, .assign (.tmp 41), false, none⟩]) <|
 .seq (.keep [0, 2, 4, 5, 6, 7, 8, 9, 21, 40]) <|
 .cond (.tmp 40) (.ops [⟨some 42, .move (.tmp 4), false, none⟩,
  ⟨some 43, .move (.tmp 0), false, none⟩,
  ⟨some 44, .call ⟨.value (.func 153), #[(.tmp 43)], #[37]⟩, true, none⟩,
  ⟨some 45, .build 47 #[(0, (.const (.int .i64 3))), (1, (.tmp 42)), (4, (.tmp 44))], false, none⟩,
  ⟨none, .store 47 (.tmp 9) (.tmp 45), true, none⟩]) <|
 .seq (.ops [⟨some 47, .binOp .eql 3 (.tmp 21) (.const (.int .i64 99)) 3, false, none⟩,
  ⟨some 46, .assign (.tmp 47), false, none⟩]) <|
 .seq (.keep [0, 2, 4, 5, 6, 7, 8, 9, 21, 46]) <|
 .cond (.tmp 46) (.ops [⟨some 48, .move (.tmp 5), false, none⟩,
  ⟨some 49, .call ⟨.value (.func 154), #[(.tmp 48)], #[3]⟩, true, none⟩,
  ⟨some 50, .move (.tmp 6), false, none⟩,
  ⟨some 51, .move (.tmp 7), false, none⟩,
  ⟨some 52, .move (.tmp 0), false, none⟩,
  ⟨some 53, .call ⟨.value (.func 155), #[(.tmp 52)], #[37]⟩, true, none⟩,
  ⟨some 54, .build 47 #[(0, (.tmp 49)), (2, (.tmp 50)), (3, (.tmp 51)), (4, (.tmp 53))], false, none⟩,
  ⟨none, .store 47 (.tmp 9) (.tmp 54), true, none⟩]) <|
 .seq (.ops [⟨some 56, .binOp .eql 3 (.tmp 21) (.const (.int .i64 35)) 3, false, none⟩,
  ⟨some 55, .assign (.tmp 56), false, none⟩]) <|
 .seq (.keep [0, 2, 4, 5, 6, 7, 8, 9, 21, 55]) <|
 .cond (.tmp 55) (.ops [⟨some 57, .move (.tmp 5), false, none⟩,
  ⟨some 58, .call ⟨.value (.func 156), #[(.tmp 57)], #[3]⟩, true, none⟩,
  ⟨some 59, .move (.tmp 6), false, none⟩,
  ⟨some 60, .move (.tmp 7), false, none⟩,
  ⟨some 61, .move (.tmp 0), false, none⟩,
  ⟨some 62, .call ⟨.value (.func 157), #[(.tmp 61)], #[37]⟩, true, none⟩,
  ⟨some 63, .build 47 #[(0, (.tmp 58)), (2, (.tmp 59)), (3, (.tmp 60)), (4, (.tmp 62))], false, none⟩,
  ⟨none, .store 47 (.tmp 9) (.tmp 63), true, none⟩]) <|
 .seq (.ops [⟨some 65, .binOp .eql 3 (.tmp 21) (.const (.int .i64 51)) 3, false, none⟩,
  ⟨some 64, .assign (.tmp 65), false, none⟩]) <|
 .seq (.keep [0, 2, 4, 5, 6, 7, 8, 9, 21, 64]) <|
 .cond (.tmp 64) (.ops [⟨some 66, .move (.tmp 8), false, none⟩,
  ⟨some 67, .move (.tmp 5), false, none⟩,
  ⟨some 68, .call ⟨.value (.func 158), #[(.tmp 66), (.tmp 67)], #[3, 3]⟩, true, none⟩,
  ⟨some 69, .move (.tmp 4), false, none⟩,
  ⟨some 70, .move (.tmp 6), false, none⟩,
  ⟨some 71, .move (.tmp 7), false, none⟩,
  ⟨some 72, .build 47 #[(0, (.tmp 68)), (1, (.tmp 69)), (2, (.tmp 70)), (3, (.tmp 71))], false, none⟩,
  ⟨none, .store 47 (.tmp 9) (.tmp 72), true, none⟩]) <|
 .seq (.ops [⟨some 74, .binOp .eql 3 (.tmp 21) (.const (.int .i64 59)) 3, false, none⟩,
  ⟨some 73, .assign (.tmp 74), false, none⟩]) <|
 .seq (.keep [0, 2, 4, 5, 6, 7, 8, 9, 21, 73]) <|
 .cond (.tmp 73) (.ops [⟨some 75, .move (.tmp 8), false, none⟩,
  ⟨some 76, .move (.tmp 5), false, none⟩,
  ⟨some 77, .call ⟨.value (.func 159), #[(.tmp 75), (.tmp 76)], #[3, 3]⟩, true, none⟩,
  ⟨some 78, .move (.tmp 4), false, none⟩,
  ⟨some 79, .move (.tmp 6), false, none⟩,
  ⟨some 80, .move (.tmp 7), false, none⟩,
  ⟨some 81, .build 47 #[(0, (.tmp 77)), (1, (.tmp 78)), (2, (.tmp 79)), (3, (.tmp 80))], false, none⟩,
  ⟨none, .store 47 (.tmp 9) (.tmp 81), true, none⟩]) <|
 .seq (.ops [⟨some 83, .binOp .eql 3 (.tmp 21) (.const (.int .i64 47)) 3, false, none⟩,
  ⟨some 82, .assign (.tmp 83), false, none⟩]) <|
 .seq (.keep [0, 2, 4, 6, 9, 21, 82]) <|
 .cond (.tmp 82) (.seq (.ops [⟨some 84, .move (.tmp 0), false, none⟩,
  ⟨some 85, .call ⟨.value (.func 160), #[(.tmp 84)], #[37]⟩, true, none⟩,
  ⟨none, .store 47 (.tmp 9) (.tmp 85), true, none⟩]) <|
 .seq (.keep [2, 4, 6, 9]) <|
 .ops [⟨some 86, .move (.tmp 4), false, none⟩,
  ⟨some 87, .move (.tmp 6), false, none⟩,
  ⟨some 88, .fieldAddr 47 (.tmp 9) 1, false, none⟩,
  ⟨none, .store 3 (.tmp 88) (.tmp 86), true, none⟩,
  ⟨some 89, .fieldAddr 47 (.tmp 9) 2, false, none⟩,
  ⟨none, .store 3 (.tmp 89) (.tmp 87), true, none⟩]) <|
 .seq (.seq (.ops [⟨some 91, .binOp .eql 3 (.tmp 21) (.const (.int .i64 15)) 3, false, none⟩,
  ⟨some 90, .assign (.tmp 91), false, none⟩]) <|
 .seq (.keep [0, 2, 4, 6, 9, 21, 90]) <|
 .cond (.tmp 90) (.skip) <|
 .ops [⟨some 92, .binOp .eql 3 (.tmp 21) (.const (.int .i64 115)) 3, false, none⟩,
  ⟨some 90, .assign (.tmp 92), false, none⟩]) <|
 .seq (.keep [0, 2, 4, 6, 9, 90]) <|
 .cond (.tmp 90) (.ops [⟨some 93, .move (.tmp 0), false, none⟩,
  ⟨some 94, .call ⟨.value (.func 161), #[(.tmp 93)], #[37]⟩, true, none⟩,
  ⟨none, .store 47 (.tmp 9) (.tmp 94), true, none⟩]) <|
 .seq (.ops [⟨some 22, .move (.tmp 0), false, none⟩,
  ⟨some 23, .call ⟨.value (.func 162), #[(.tmp 22)], #[37]⟩, true, none⟩,
  ⟨none, .store 47 (.tmp 9) (.tmp 23), true, none⟩]) <|
 .seq (.keep [2, 4, 6, 9]) <|
 .ops [⟨some 24, .move (.tmp 4), false, none⟩,
  ⟨some 25, .move (.tmp 6), false, none⟩,
  ⟨some 26, .fieldAddr 47 (.tmp 9) 1, false, none⟩,
  ⟨none, .store 3 (.tmp 26) (.tmp 24), true, none⟩,
  ⟨some 27, .fieldAddr 47 (.tmp 9) 2, false, none⟩,
  ⟨none, .store 3 (.tmp 27) (.tmp 25), true, none⟩]) <|
 .seq (.keep [2, 9]) <|
 .seq (.seq (.ops [⟨some 95, .fieldAddr 47 (.tmp 9) 0, false, none⟩,
  ⟨some 96, .load 3 (.tmp 95), false, none⟩,
  ⟨some 97, .binOp .eql 3 (.tmp 96) (.const (.int .i64 0)) 3, false, none⟩]) <|
 .seq (.keep [2, 9, 97]) <|
 .cond (.tmp 97) (.seq (.ops [⟨some 98, .build 47 #[], false, none⟩,
  ⟨none, .store 47 (.tmp 2) (.tmp 98), true, none⟩,
  ⟨some 3, .assign (.const (.bool false)), false, none⟩]) <|
 .seq (.keep [2, 3]) <|
 .ret) <|
 .skip) <|
 .seq (.keep [2, 9]) <|
 .seq (.ops [⟨some 99, .fieldAddr 47 (.tmp 9) 6, false, none⟩,
  ⟨none, .store 3 (.tmp 99) (.const (.int .i64 4)), true, none⟩]) <|
 .seq (.keep [2, 9]) <|
 .seq (.ops [⟨some 100, .load 47 (.tmp 9), false, none⟩,
  ⟨none, .store 47 (.tmp 2) (.tmp 100), true, none⟩,
  ⟨some 3, .assign (.const (.bool true)), false, none⟩]) <|
 .seq (.keep [2, 3]) <|
 .ret
theorem c128 : Tryz.f128.body.map (fun c => ((compile Tryz.prog kp128 [] kp128 c).map (·.1), fits Tryz.f128.ntmps c)) = some (some s128, true) := by kernel_rfl
theorem r128 : Tryz.f128.results.toList = [.cell 2 47, .tmp 3] := by kernel_rfl
attribute [go_sem] s128
abbrev kp129 : List Nat := [4]
def s129 : SC :=
 .seq (.ops [⟨some 4, .assign (.const (.int .u64 0)), false, none⟩]) <|
 .seq (.keep [0, 1]) <|
 .seq (.seq (.ops [⟨some 5, .move (.tmp 0), false, none⟩,
  ⟨some 6, .binOp .eql 81 (.tmp 5) (.const (.pointer none)) 81, false, none⟩]) <|
 .seq (.keep [0, 1, 6]) <|
 .cond (.tmp 6) (.seq (.ops [⟨some 4, .assign (.const (.int .u64 0)), false, none⟩]) <|
 .seq (.keep [4]) <|
 .ret) <|
 .skip) <|
 .seq (.keep [0, 1]) <|
 .seq (.seq (.ops [⟨some 7, .move (.tmp 0), false, none⟩]) <|
 .seq (.ops [⟨some 8, .nilCheck (.tmp 7), false, none⟩]) <|
 .seq (.ops [⟨some 9, .fieldAddr 139 (.tmp 8) 1, false, none⟩]) <|
 .seq (.ops [⟨some 10, .load 137 (.tmp 9), false, none⟩]) <|
 .seq (.ops [⟨some 11, .move (.tmp 1), false, none⟩]) <|
 .seq (.ops [⟨some 12, .lookup 137 (.tmp 10) (.tmp 11) false, false, none⟩]) <|
 .seq (.ops [⟨some 13, .move (.tmp 0), false, none⟩]) <|
 .seq (.ops [⟨some 14, .nilCheck (.tmp 13), false, none⟩]) <|
 .seq (.ops [⟨some 15, .fieldAddr 139 (.tmp 14) 3, false, none⟩]) <|
 .seq (.ops [⟨some 16, .load 29 (.tmp 15), false, none⟩]) <|
 .seq (.ops [⟨some 17, .call ⟨.builtin .max, #[(.tmp 12), (.tmp 16)], #[29, 29]⟩, false, none⟩]) <|
 .seq (.ops [⟨some 4, .assign (.tmp 17), false, none⟩]) <|
 .skip) <|
 .seq (.keep [4]) <|
 .ret
theorem c129 : Tryz.f129.body.map (fun c => ((compile Tryz.prog kp129 [] kp129 c).map (·.1), fits Tryz.f129.ntmps c)) = some (some s129, true) := by kernel_rfl
theorem r129 : Tryz.f129.results.toList = [.tmp 4] := by kernel_rfl
attribute [go_sem] s129
abbrev kp131 : List Nat := [6, 7]
def s131 : SC :=
 .seq (.ops [⟨some 6, .assign (.const (.bool false)), false, none⟩,
  ⟨some 7, .assign (.const (.bool false)), false, none⟩]) <|
 .seq (.keep [0, 1, 2]) <|
 .seq (.seq (.ops [⟨some 8, .move (.tmp 0), false, none⟩]) <|
 .seq (.keep [1, 2, 8]) <|
 .block 0 <| .seq (.ops [⟨some 10, .binOp .eql 3 (.tmp 8) (.const (.int .i64 5)) 3, false, none⟩,
  ⟨some 9, .assign (.tmp 10), false, none⟩]) <|
 .seq (.keep [1, 2, 8, 9]) <|
 .cond (.tmp 9) (.seq (.ops [⟨some 11, .move (.tmp 1), false, none⟩,
  ⟨some 12, .move (.tmp 2), false, none⟩,
  ⟨some 13, .binOp .eql 29 (.tmp 11) (.tmp 12) 29, false, none⟩,
  ⟨some 6, .assign (.tmp 13), false, none⟩,
  ⟨some 7, .assign (.const (.bool true)), false, none⟩]) <|
 .seq (.keep [6, 7]) <|
 .ret) <|
 .seq (.ops [⟨some 15, .binOp .eql 3 (.tmp 8) (.const (.int .i64 6)) 3, false, none⟩,
  ⟨some 14, .assign (.tmp 15), false, none⟩]) <|
 .seq (.keep [1, 2, 8, 14]) <|
 .cond (.tmp 14) (.seq (.ops [⟨some 16, .move (.tmp 1), false, none⟩,
  ⟨some 17, .move (.tmp 2), false, none⟩,
  ⟨some 18, .binOp .neq 29 (.tmp 16) (.tmp 17) 29, false, none⟩,
  ⟨some 6, .assign (.tmp 18), false, none⟩,
  ⟨some 7, .assign (.const (.bool true)), false, none⟩]) <|
 .seq (.keep [6, 7]) <|
 .ret) <|
 .seq (.ops [⟨some 20, .binOp .eql 3 (.tmp 8) (.const (.int .i64 7)) 3, false, none⟩,
  ⟨some 19, .assign (.tmp 20), false, none⟩]) <|
 .seq (.keep [1, 2, 8, 19]) <|
 .cond (.tmp 19) (.seq (.ops [⟨some 21, .move (.tmp 1), false, none⟩,
  ⟨some 22, .move (.tmp 2), false, none⟩,
  ⟨some 23, .call ⟨.value (.func 163), #[(.tmp 21), (.tmp 22)], #[29, 29]⟩, true, none⟩,
  ⟨some 6, .assign (.tmp 23), false, none⟩,
  ⟨some 7, .assign (.const (.bool true)), false, none⟩]) <|
 .seq (.keep [6, 7]) <|
 .ret) <|
 .seq (.ops [⟨some 25, .binOp .eql 3 (.tmp 8) (.const (.int .i64 8)) 3, false, none⟩,
  ⟨some 24, .assign (.tmp 25), false, none⟩]) <|
 .seq (.keep [1, 2, 8, 24]) <|
 .cond (.tmp 24) (.seq (.ops [⟨some 26, .move (.tmp 1), false, none⟩,
  ⟨some 27, .move (.tmp 2), false, none⟩,
  ⟨some 28, .call ⟨.value (.func 163), #[(.tmp 26), (.tmp 27)], #[29, 29]⟩, true, none⟩,
  ⟨some 29, .unOp .not 4 (.tmp 28), false, none⟩,
  ⟨some 6, .assign (.tmp 29), false, none⟩,
  ⟨some 7, .assign (.const (.bool true)), false, none⟩]) <|
 .seq (.keep [6, 7]) <|
 .ret) <|
 .seq (.ops [⟨some 31, .binOp .eql 3 (.tmp 8) (.const (.int .i64 9)) 3, false, none⟩,
  ⟨some 30, .assign (.tmp 31), false, none⟩]) <|
 .seq (.keep [1, 2, 8, 30]) <|
 .cond (.tmp 30) (.seq (.ops [⟨some 32, .move (.tmp 1), false, none⟩,
  ⟨some 33, .move (.tmp 2), false, none⟩,
  ⟨some 34, .binOp .lss 29 (.tmp 32) (.tmp 33) 29, false, none⟩,
  ⟨some 6, .assign (.tmp 34), false, none⟩,
  ⟨some 7, .assign (.const (.bool true)), false, none⟩]) <|
 .seq (.keep [6, 7]) <|
 .ret) <|
 .seq (.ops [⟨some 36, .binOp .eql 3 (.tmp 8) (.const (.int .i64 10)) 3, false, none⟩,
  ⟨some 35, .assign (.tmp 36), false, none⟩]) <|
 .seq (.keep [1, 2, 35]) <|
 .cond (.tmp 35) (.seq (.ops [⟨some 37, .move (.tmp 1), false, none⟩,
  ⟨some 38, .move (.tmp 2), false, none⟩,
  ⟨some 39, .binOp .geq 29 (.tmp 37) (.tmp 38) 29, false, none⟩,
  ⟨some 6, .assign (.tmp 39), false, none⟩,
  ⟨some 7, .assign (.const (.bool true)), false, none⟩]) <|
 .seq (.keep [6, 7]) <|
 .ret) <|
 .skip) <|
 .seq (.keep []) <|
 .seq (.ops [⟨some 6, .assign (.const (.bool false)), false, none⟩,
  ⟨some 7, .assign (.const (.bool false)), false, none⟩]) <|
 .seq (.keep [6, 7]) <|
 .ret
theorem c131 : Tryz.f131.body.map (fun c => ((compile Tryz.prog kp131 [] kp131 c).map (·.1), fits Tryz.f131.ntmps c)) = some (some s131, true) := by kernel_rfl
theorem r131 : Tryz.f131.results.toList = [.tmp 6, .tmp 7] := by kernel_rfl
attribute [go_sem] s131
abbrev kp132 : List Nat := [2]
def s132 : SC :=
 .seq (.ops [⟨some 1, .box 41 (.tmp 0), true, none⟩,
  ⟨some 2, .alloc 49, true, none⟩]) <|
 .seq (.keep [1, 2]) <|
 .seq (.seq (.ops [⟨some 3, .fieldAddr 41 (.tmp 1) 0, false, none⟩,
  ⟨some 4, .load 3 (.tmp 3), false, none⟩,
  ⟨some 5, .binOp .eql 3 (.tmp 4) (.const (.int .i64 0)) 3, false, none⟩]) <|
 .seq (.keep [1, 2, 5]) <|
 .cond (.tmp 5) (.seq (.ops [⟨some 6, .build 49 #[], false, none⟩,
  ⟨none, .store 49 (.tmp 2) (.tmp 6), true, none⟩]) <|
 .seq (.keep [2]) <|
 .ret) <|
 .skip) <|
 .seq (.keep [1, 2]) <|
 .seq (.ops [⟨some 7, .load 41 (.tmp 1), false, none⟩,
  ⟨some 8, .build 49 #[(0, (.const (.int .i64 4))), (1, (.tmp 7))], false, none⟩,
  ⟨none, .store 49 (.tmp 2) (.tmp 8), true, none⟩]) <|
 .seq (.keep [2]) <|
 .ret
theorem c132 : Tryz.f132.body.map (fun c => ((compile Tryz.prog kp132 [] kp132 c).map (·.1), fits Tryz.f132.ntmps c)) = some (some s132, true) := by kernel_rfl
theorem r132 : Tryz.f132.results.toList = [.cell 2 49] := by kernel_rfl
attribute [go_sem] s132
abbrev kp133 : List Nat := [6, 7]
def s133 : SC :=
 .seq (.ops [⟨some 6, .assign (.const (.int .u64 0)), false, none⟩,
  ⟨some 7, .alloc 41, true, none⟩]) <|
 .seq (.keep [0, 1, 2, 7]) <|
 .seq (.seq (.ops [⟨some 10, .move (.tmp 0), false, none⟩,
  ⟨some 11, .binOp .eql 24 (.tmp 10) (.const (.pointer none)) 24, false, none⟩,
  ⟨some 12, .move (.tmp 11), false, none⟩,
  ⟨some 13, .move (.tmp 2), false, some (12, false)⟩,
  ⟨some 14, .call ⟨.value (.func 86), #[(.tmp 13)], #[3]⟩, true, some (12, false)⟩,
  ⟨some 15, .unOp .not 4 (.tmp 14), false, some (12, false)⟩,
  ⟨some 16, .pick (.tmp 12) (.const (.bool true)) (.tmp 15), false, none⟩]) <|
 .seq (.keep [0, 1, 2, 7, 16]) <|
 .cond (.tmp 16) (.seq (.ops [⟨some 17, .move (.tmp 1), false, none⟩,
  ⟨some 18, .build 41 #[(0, (.const (.int .i64 1))), (1, (.tmp 17))], false, none⟩,
  ⟨some 6, .assign (.const (.int .u64 0)), false, none⟩,
  ⟨none, .store 41 (.tmp 7) (.tmp 18), true, none⟩]) <|
 .seq (.keep [6, 7]) <|
 .ret) <|
 .skip) <|
 .seq (.keep [0, 1, 2, 7]) <|
 .seq (.seq (.ops [⟨some 20, .move (.tmp 0), false, none⟩,
  ⟨some 21, .move (.tmp 1), false, none⟩,
  ⟨some 22, .move (.tmp 2), false, none⟩,
  ⟨some 23, .call ⟨.value (.func 87), #[(.tmp 20), (.tmp 21), (.tmp 22), (.const (.int .i64 1))], #[24, 29, 3, 3]⟩, true, none⟩,
  ⟨some 19, .move (.tmp 23), false, none⟩,
  ⟨some 24, .extract (.tmp 19) 0, false, none⟩,
  ⟨some 25, .extract (.tmp 19) 1, false, none⟩,
  ⟨some 8, .assign (.tmp 24), false, none⟩,
  ⟨some 9, .assign (.tmp 25), false, none⟩]) <|
 .seq (.keep [0, 1, 2, 7, 8, 9]) <|
 .seq (.ops [⟨some 26, .move (.tmp 9), false, none⟩]) <|
 .seq (.keep [0, 1, 2, 7, 8, 26]) <|
 .cond (.tmp 26) (.seq (.ops [⟨some 27, .move (.tmp 8), false, none⟩,
  ⟨some 28, .build 41 #[(0, (.const (.int .i64 1))), (1, (.tmp 27))], false, none⟩,
  ⟨some 6, .assign (.const (.int .u64 0)), false, none⟩,
  ⟨none, .store 41 (.tmp 7) (.tmp 28), true, none⟩]) <|
 .seq (.keep [6, 7]) <|
 .ret) <|
 .skip) <|
 .seq (.keep [0, 1, 2, 7]) <|
 .seq (.ops [⟨some 29, .move (.tmp 0), false, none⟩,
  ⟨some 30, .nilCheck (.tmp 29), false, none⟩,
  ⟨some 31, .fieldAddr 84 (.tmp 30) 1, false, none⟩,
  ⟨some 32, .load 81 (.tmp 31), false, none⟩,
  ⟨some 33, .move (.tmp 1), false, none⟩,
  ⟨some 34, .move (.tmp 2), false, none⟩,
  ⟨some 35, .call ⟨.value (.func 117), #[(.tmp 32), (.tmp 33), (.tmp 34)], #[81, 29, 3]⟩, true, none⟩,
  ⟨some 36, .move (.tmp 2), false, none⟩,
  ⟨some 37, .call ⟨.value (.func 147), #[(.tmp 35), (.tmp 36)], #[22, 3]⟩, true, none⟩,
  ⟨some 38, .build 41 #[], false, none⟩,
  ⟨some 6, .assign (.tmp 37), false, none⟩,
  ⟨none, .store 41 (.tmp 7) (.tmp 38), true, none⟩]) <|
 .seq (.keep [6, 7]) <|
 .ret
theorem c133 : Tryz.f133.body.map (fun c => ((compile Tryz.prog kp133 [] kp133 c).map (·.1), fits Tryz.f133.ntmps c)) = some (some s133, true) := by kernel_rfl
theorem r133 : Tryz.f133.results.toList = [.tmp 6, .cell 7 41] := by kernel_rfl
attribute [go_sem] s133
abbrev kp134 : List Nat := [4]
def s134 : SC :=
 .seq (.ops [⟨some 4, .assign (.const (.int .u64 0)), false, none⟩]) <|
 .seq (.keep [0, 1]) <|
 .seq (.seq (.ops [⟨some 5, .move (.tmp 1), false, none⟩,
  ⟨some 6, .binOp .lss 3 (.tmp 5) (.const (.int .i64 1)) 3, false, none⟩,
  ⟨some 7, .move (.tmp 6), false, none⟩,
  ⟨some 8, .move (.tmp 1), false, some (7, false)⟩,
  ⟨some 9, .binOp .gtr 3 (.tmp 8) (.const (.int .i64 64)) 3, false, some (7, false)⟩,
  ⟨some 10, .pick (.tmp 7) (.const (.bool true)) (.tmp 9), false, none⟩]) <|
 .seq (.keep [0, 1, 10]) <|
 .cond (.tmp 10) (.seq (.ops [⟨some 11, .move (.tmp 0), false, none⟩,
  ⟨some 4, .assign (.tmp 11), false, none⟩]) <|
 .seq (.keep [4]) <|
 .ret) <|
 .skip) <|
 .seq (.keep [0, 1]) <|
 .seq (.ops [⟨some 12, .move (.tmp 0), false, none⟩,
  ⟨some 13, .move (.tmp 1), false, none⟩,
  ⟨some 14, .binOp .sub 3 (.const (.int .i64 64)) (.tmp 13) 3, false, none⟩,
  ⟨some 15, .binOp .shl 29 (.tmp 12) (.tmp 14) 3, false, none⟩,
  ⟨some 16, .convert 29 2 (.tmp 15), false, none⟩,
  ⟨some 17, .move (.tmp 1), false, none⟩,
  ⟨some 18, .binOp .sub 3 (.const (.int .i64 64)) (.tmp 17) 3, false, none⟩,
  ⟨some 19, .binOp .shr 2 (.tmp 16) (.tmp 18) 3, false, none⟩,
  ⟨some 20, .convert 2 29 (.tmp 19), false, none⟩,
  ⟨some 4, .assign (.tmp 20), false, none⟩]) <|
 .seq (.keep [4]) <|
 .ret
theorem c134 : Tryz.f134.body.map (fun c => ((compile Tryz.prog kp134 [] kp134 c).map (·.1), fits Tryz.f134.ntmps c)) = some (some s134, true) := by kernel_rfl
theorem r134 : Tryz.f134.results.toList = [.tmp 4] := by kernel_rfl
attribute [go_sem] s134
abbrev kp135 : List Nat := [6, 7]
def s135 : SC :=
 .seq (.ops [⟨some 6, .assign (.const (.int .u64 0)), false, none⟩,
  ⟨some 7, .assign (.const (.bool false)), false, none⟩]) <|
 .seq (.keep [0, 1, 2]) <|
 .seq (.seq (.ops [⟨some 17, .move (.tmp 0), false, none⟩,
  ⟨some 18, .move (.tmp 1), false, none⟩,
  ⟨some 19, .move (.tmp 2), false, none⟩,
  ⟨some 20, .call ⟨.value (.func 164), #[(.tmp 17), (.tmp 18), (.tmp 19)], #[3, 29, 29]⟩, true, none⟩,
  ⟨some 16, .move (.tmp 20), false, none⟩,
  ⟨some 21, .extract (.tmp 16) 0, false, none⟩,
  ⟨some 22, .extract (.tmp 16) 1, false, none⟩,
  ⟨some 8, .assign (.tmp 21), false, none⟩,
  ⟨some 9, .assign (.tmp 22), false, none⟩]) <|
 .seq (.keep [0, 1, 2, 8, 9]) <|
 .seq (.ops [⟨some 23, .move (.tmp 9), false, none⟩]) <|
 .seq (.keep [0, 1, 2, 8, 23]) <|
 .cond (.tmp 23) (.seq (.ops [⟨some 24, .move (.tmp 8), false, none⟩,
  ⟨some 6, .assign (.tmp 24), false, none⟩,
  ⟨some 7, .assign (.const (.bool true)), false, none⟩]) <|
 .seq (.keep [6, 7]) <|
 .ret) <|
 .skip) <|
 .seq (.keep [0, 1, 2]) <|
 .seq (.seq (.ops [⟨some 26, .move (.tmp 0), false, none⟩,
  ⟨some 27, .move (.tmp 1), false, none⟩,
  ⟨some 28, .move (.tmp 2), false, none⟩,
  ⟨some 29, .call ⟨.value (.func 165), #[(.tmp 26), (.tmp 27), (.tmp 28)], #[3, 29, 29]⟩, true, none⟩,
  ⟨some 25, .move (.tmp 29), false, none⟩,
  ⟨some 30, .extract (.tmp 25) 0, false, none⟩,
  ⟨some 31, .extract (.tmp 25) 1, false, none⟩,
  ⟨some 10, .assign (.tmp 30), false, none⟩,
  ⟨some 11, .assign (.tmp 31), false, none⟩]) <|
 .seq (.keep [0, 1, 2, 10, 11]) <|
 .seq (.ops [⟨some 32, .move (.tmp 11), false, none⟩]) <|
 .seq (.keep [0, 1, 2, 10, 32]) <|
 .cond (.tmp 32) (.seq (.ops [⟨some 33, .move (.tmp 10), false, none⟩,
  ⟨some 6, .assign (.tmp 33), false, none⟩,
  ⟨some 7, .assign (.const (.bool true)), false, none⟩]) <|
 .seq (.keep [6, 7]) <|
 .ret) <|
 .skip) <|
 .seq (.keep [0, 1, 2]) <|
 .seq (.seq (.ops [⟨some 35, .move (.tmp 0), false, none⟩,
  ⟨some 36, .move (.tmp 1), false, none⟩,
  ⟨some 37, .move (.tmp 2), false, none⟩,
  ⟨some 38, .call ⟨.value (.func 166), #[(.tmp 35), (.tmp 36), (.tmp 37)], #[3, 29, 29]⟩, true, none⟩,
  ⟨some 34, .move (.tmp 38), false, none⟩,
  ⟨some 39, .extract (.tmp 34) 0, false, none⟩,
  ⟨some 40, .extract (.tmp 34) 1, false, none⟩,
  ⟨some 12, .assign (.tmp 39), false, none⟩,
  ⟨some 13, .assign (.tmp 40), false, none⟩]) <|
 .seq (.keep [0, 1, 2, 12, 13]) <|
 .seq (.ops [⟨some 41, .move (.tmp 13), false, none⟩]) <|
 .seq (.keep [0, 1, 2, 12, 41]) <|
 .cond (.tmp 41) (.seq (.ops [⟨some 42, .move (.tmp 12), false, none⟩,
  ⟨some 6, .assign (.tmp 42), false, none⟩,
  ⟨some 7, .assign (.const (.bool true)), false, none⟩]) <|
 .seq (.keep [6, 7]) <|
 .ret) <|
 .skip) <|
 .seq (.keep [0, 1, 2]) <|
 .seq (.seq (.ops [⟨some 44, .move (.tmp 0), false, none⟩,
  ⟨some 45, .move (.tmp 1), false, none⟩,
  ⟨some 46, .move (.tmp 2), false, none⟩,
  ⟨some 47, .call ⟨.value (.func 167), #[(.tmp 44), (.tmp 45), (.tmp 46)], #[3, 29, 29]⟩, true, none⟩,
  ⟨some 43, .move (.tmp 47), false, none⟩,
  ⟨some 48, .extract (.tmp 43) 0, false, none⟩,
  ⟨some 49, .extract (.tmp 43) 1, false, none⟩,
  ⟨some 14, .assign (.tmp 48), false, none⟩,
  ⟨some 15, .assign (.tmp 49), false, none⟩]) <|
 .seq (.keep [0, 1, 2, 14, 15]) <|
 .seq (.ops [⟨some 50, .move (.tmp 15), false, none⟩]) <|
 .seq (.keep [0, 1, 2, 14, 50]) <|
 .cond (.tmp 50) (.seq (.ops [⟨some 51, .move (.tmp 14), false, none⟩,
  ⟨some 6, .assign (.tmp 51), false, none⟩,
  ⟨some 7, .assign (.const (.bool true)), false, none⟩]) <|
 .seq (.keep [6, 7]) <|
 .ret) <|
 .skip) <|
 .seq (.keep [0, 1, 2]) <|
 .seq (.ops [⟨some 52, .move (.tmp 0), false, none⟩,
  ⟨some 53, .move (.tmp 1), false, none⟩,
  ⟨some 54, .move (.tmp 2), false, none⟩,
  ⟨some 55, .call ⟨.value (.func 168), #[(.tmp 52), (.tmp 53), (.tmp 54)], #[3, 29, 29]⟩, true, none⟩,
  ⟨some 56, .extract (.tmp 55) 0, false, none⟩,
  ⟨some 57, .extract (.tmp 55) 1, false, none⟩,
  ⟨some 6, .assign (.tmp 56), false, none⟩,
  ⟨some 7, .assign (.tmp 57), false, none⟩]) <|
 .seq (.keep [6, 7]) <|
 .ret
theorem c135 : Tryz.f135.body.map (fun c => ((compile Tryz.prog kp135 [] kp135 c).map (·.1), fits Tryz.f135.ntmps c)) = some (some s135, true) := by kernel_rfl
theorem r135 : Tryz.f135.results.toList = [.tmp 6, .tmp 7] := by kernel_rfl
attribute [go_sem] s135
abbrev kp136 : List Nat := [4]
def s136 : SC :=
 .seq (.ops [⟨some 3, .box 47 (.tmp 1), true, none⟩,
  ⟨some 4, .assign (.const (.int .u64 0)), false, none⟩]) <|
 .seq (.keep [0, 3]) <|
 .seq (.block 0 <| .seq (.ops [⟨some 6, .fieldAddr 47 (.tmp 3) 0, false, none⟩,
  ⟨some 7, .load 3 (.tmp 6), false, none⟩,
  ⟨some 8, .binOp .eql 3 (.tmp 7) (.const (.int .i64 1)) 3, false, none⟩,
  ⟨some 9, .move (.tmp 8), false, none⟩,
  ⟨some 10, .fieldAddr 47 (.tmp 3) 0, false, some (9, false)⟩,
  ⟨some 11, .load 3 (.tmp 10), false, some (9, false)⟩,
  ⟨some 12, .binOp .geq 3 (.tmp 11) (.const (.int .i64 22)) 3, false, some (9, false)⟩,
  ⟨some 13, .move (.tmp 12), false, some (9, false)⟩,
  ⟨some 14, .fieldAddr 47 (.tmp 3) 0, false, some (13, true)⟩,
  ⟨some 15, .load 3 (.tmp 14), false, some (13, true)⟩,
  ⟨some 16, .binOp .leq 3 (.tmp 15) (.const (.int .i64 30)) 3, false, some (13, true)⟩,
  ⟨some 17, .pick (.tmp 13) (.tmp 16) (.const (.bool false)), false, some (9, false)⟩,
  ⟨some 18, .pick (.tmp 9) (.const (.bool true)) (.tmp 17), false, none⟩,
  ⟨some 19, .move (.tmp 18), false, none⟩,
  ⟨some 20, .fieldAddr 47 (.tmp 3) 0, false, some (19, false)⟩,
  ⟨some 21, .load 3 (.tmp 20), false, some (19, false)⟩,
  ⟨some 22, .binOp .geq 3 (.tmp 21) (.const (.int .i64 41)) 3, false, some (19, false)⟩,
  ⟨some 23, .move (.tmp 22), false, some (19, false)⟩,
  ⟨some 24, .fieldAddr 47 (.tmp 3) 0, false, some (23, true)⟩,
  ⟨some 25, .load 3 (.tmp 24), false, some (23, true)⟩,
  ⟨some 26, .binOp .leq 3 (.tmp 25) (.const (.int .i64 44)) 3, false, some (23, true)⟩,
  ⟨some 27, .pick (.tmp 23) (.tmp 26) (.const (.bool false)), false, some (19, false)⟩,
  ⟨some 28, .pick (.tmp 19) (.const (.bool true)) (.tmp 27), false, none⟩,
  ⟨some 5, .assign (.tmp 28), false, none⟩]) <|
 .seq (.keep [0, 3, 5]) <|
 .cond (.tmp 5) (.seq (.ops [⟨some 29, .fieldAddr 47 (.tmp 3) 4, false, none⟩,
  ⟨some 30, .load 3 (.tmp 29), false, none⟩,
  ⟨some 31, .convert 3 29 (.tmp 30), false, none⟩,
  ⟨some 4, .assign (.tmp 31), false, none⟩]) <|
 .seq (.keep [4]) <|
 .ret) <|
 .skip) <|
 .seq (.keep [0, 3]) <|
 .seq (.seq (.ops [⟨some 32, .move (.tmp 0), false, none⟩]) <|
 .seq (.ops [⟨some 33, .fieldAddr 47 (.tmp 3) 3, false, none⟩]) <|
 .seq (.ops [⟨some 34, .load 3 (.tmp 33), false, none⟩]) <|
 .seq (.ops [⟨some 35, .nilCheck (.tmp 32), false, none⟩]) <|
 .seq (.ops [⟨some 36, .fieldAddr 63 (.tmp 35) 1, false, none⟩]) <|
 .seq (.ops [⟨some 37, .indexAddr 59 (.tmp 36) (.tmp 34), false, none⟩]) <|
 .seq (.ops [⟨some 38, .load 29 (.tmp 37), false, none⟩]) <|
 .seq (.ops [⟨some 4, .assign (.tmp 38), false, none⟩]) <|
 .skip) <|
 .seq (.keep [4]) <|
 .ret
theorem c136 : Tryz.f136.body.map (fun c => ((compile Tryz.prog kp136 [] kp136 c).map (·.1), fits Tryz.f136.ntmps c)) = some (some s136, true) := by kernel_rfl
theorem r136 : Tryz.f136.results.toList = [.tmp 4] := by kernel_rfl
attribute [go_sem] s136
abbrev kp137 : List Nat := [10, 11, 12]
def s137 : SC :=
 .seq (.ops [⟨some 6, .box 61 (.tmp 1), true, none⟩,
  ⟨some 10, .assign (.const (.int .u64 0)), false, none⟩,
  ⟨some 11, .alloc 61, true, none⟩,
  ⟨some 12, .alloc 49, true, none⟩]) <|
 .seq (.keep [0, 2, 3, 4, 6, 11, 12]) <|
 .seq (.ops [⟨some 19, .move (.tmp 2), false, none⟩,
  ⟨some 20, .call ⟨.value (.func 169), #[(.tmp 19)], #[3]⟩, true, none⟩,
  ⟨some 13, .assign (.tmp 20), false, none⟩]) <|
 .seq (.keep [0, 2, 3, 4, 6, 11, 12, 13]) <|
 .seq (.block 0 <| .seq (.ops [⟨some 22, .move (.tmp 13), false, none⟩,
  ⟨some 23, .binOp .eql 3 (.tmp 22) (.const (.int .i64 0)) 3, false, none⟩,
  ⟨some 21, .assign (.tmp 23), false, none⟩]) <|
 .seq (.keep [0, 2, 3, 4, 6, 11, 12, 13, 21]) <|
 .cond (.tmp 21) (.seq (.ops [⟨some 24, .build 61 #[], false, none⟩,
  ⟨some 25, .build 49 #[(0, (.const (.int .i64 3)))], false, none⟩,
  ⟨some 10, .assign (.const (.int .u64 0)), false, none⟩,
  ⟨none, .store 61 (.tmp 11) (.tmp 24), true, none⟩,
  ⟨none, .store 49 (.tmp 12) (.tmp 25), true, none⟩]) <|
 .seq (.keep [10, 11, 12]) <|
 .ret) <|
 .seq (.ops [⟨some 27, .move (.tmp 3), false, none⟩,
  ⟨some 28, .move (.tmp 13), false, none⟩,
  ⟨some 29, .convert 3 29 (.tmp 28), false, none⟩,
  ⟨some 30, .binOp .rem 29 (.tmp 27) (.tmp 29) 29, false, none⟩,
  ⟨some 31, .binOp .neq 29 (.tmp 30) (.const (.int .u64 0)) 29, false, none⟩,
  ⟨some 26, .assign (.tmp 31), false, none⟩]) <|
 .seq (.keep [0, 2, 3, 4, 6, 11, 12, 13, 26]) <|
 .cond (.tmp 26) (.seq (.ops [⟨some 32, .build 61 #[], false, none⟩,
  ⟨some 33, .move (.tmp 3), false, none⟩,
  ⟨some 34, .build 41 #[(1, (.tmp 33))], false, none⟩,
  ⟨some 35, .build 49 #[(0, (.const (.int .i64 5))), (1, (.tmp 34))], false, none⟩,
  ⟨some 10, .assign (.const (.int .u64 0)), false, none⟩,
  ⟨none, .store 61 (.tmp 11) (.tmp 32), true, none⟩,
  ⟨none, .store 49 (.tmp 12) (.tmp 35), true, none⟩]) <|
 .seq (.keep [10, 11, 12]) <|
 .ret) <|
 .seq (.ops [⟨some 37, .move (.tmp 2), false, none⟩,
  ⟨some 38, .call ⟨.value (.func 170), #[(.tmp 37)], #[3]⟩, true, none⟩,
  ⟨some 39, .binOp .eql 3 (.tmp 38) (.const (.int .i64 64)) 3, false, none⟩,
  ⟨some 36, .assign (.tmp 39), false, none⟩]) <|
 .seq (.keep [0, 2, 3, 4, 6, 11, 12, 13, 36]) <|
 .cond (.tmp 36) (.seq (.ops [⟨some 41, .move (.tmp 0), false, none⟩,
  ⟨some 42, .load 61 (.tmp 6), false, none⟩,
  ⟨some 43, .move (.tmp 3), false, none⟩,
  ⟨some 44, .move (.tmp 13), false, none⟩,
  ⟨some 45, .move (.tmp 4), false, none⟩,
  ⟨some 46, .call ⟨.value (.func 171), #[(.tmp 41), (.tmp 42), (.tmp 43), (.tmp 44), (.tmp 45)], #[24, 61, 29, 3, 29]⟩, true, none⟩,
  ⟨some 40, .move (.tmp 46), false, none⟩,
  ⟨some 47, .extract (.tmp 40) 0, false, none⟩,
  ⟨some 48, .extract (.tmp 40) 1, false, none⟩,
  ⟨some 10, .assign (.tmp 47), false, none⟩,
  ⟨none, .store 49 (.tmp 12) (.tmp 48), true, none⟩]) <|
 .seq (.keep [10, 11, 12]) <|
 .seq (.seq (.ops [⟨some 49, .move (.tmp 10), false, none⟩]) <|
 .seq (.ops [⟨some 50, .build 61 #[], false, none⟩]) <|
 .seq (.ops [⟨some 10, .assign (.tmp 49), false, none⟩]) <|
 .amb (.seq (.ops [⟨some 51, .load 49 (.tmp 12), false, none⟩]) <|
 .seq (.ops [⟨none, .store 61 (.tmp 11) (.tmp 50), true, none⟩]) <|
 .seq (.ops [⟨none, .store 49 (.tmp 12) (.tmp 51), true, none⟩]) <|
 .skip) (.seq (.ops [⟨none, .store 61 (.tmp 11) (.tmp 50), true, none⟩]) <|
 .seq (.ops [⟨some 51, .load 49 (.tmp 12), false, none⟩]) <|
 .seq (.ops [⟨none, .store 49 (.tmp 12) (.tmp 51), true, none⟩]) <|
 .skip)) <|
 .seq (.keep [10, 11, 12]) <|
 .ret) <|
 .skip) <|
 .seq (.keep [0, 2, 3, 4, 6, 11, 12, 13]) <|
 .seq (.ops [⟨some 53, .move (.tmp 0), false, none⟩,
  ⟨some 54, .move (.tmp 3), false, none⟩,
  ⟨some 55, .move (.tmp 13), false, none⟩,
  ⟨some 56, .call ⟨.value (.func 133), #[(.tmp 53), (.tmp 54), (.tmp 55)], #[24, 29, 3]⟩, true, none⟩,
  ⟨some 52, .move (.tmp 56), false, none⟩,
  ⟨some 57, .extract (.tmp 52) 0, false, none⟩,
  ⟨some 58, .extract (.tmp 52) 1, false, none⟩,
  ⟨some 15, .alloc 41, true, none⟩,
  ⟨some 14, .assign (.tmp 57), false, none⟩,
  ⟨none, .store 41 (.tmp 15) (.tmp 58), true, none⟩]) <|
 .seq (.keep [0, 2, 3, 4, 6, 11, 12, 13, 14, 15]) <|
 .seq (.seq (.ops [⟨some 59, .fieldAddr 41 (.tmp 15) 0, false, none⟩,
  ⟨some 60, .load 3 (.tmp 59), false, none⟩,
  ⟨some 61, .binOp .neq 3 (.tmp 60) (.const (.int .i64 0)) 3, false, none⟩]) <|
 .seq (.keep [0, 2, 3, 4, 6, 11, 12, 13, 14, 15, 61]) <|
 .cond (.tmp 61) (.seq (.ops [⟨some 62, .build 61 #[], false, none⟩,
  ⟨some 63, .load 41 (.tmp 15), false, none⟩,
  ⟨some 64, .call ⟨.value (.func 172), #[(.tmp 63)], #[41]⟩, true, none⟩,
  ⟨some 10, .assign (.const (.int .u64 0)), false, none⟩,
  ⟨none, .store 61 (.tmp 11) (.tmp 62), true, none⟩,
  ⟨none, .store 49 (.tmp 12) (.tmp 64), true, none⟩]) <|
 .seq (.keep [10, 11, 12]) <|
 .ret) <|
 .skip) <|
 .seq (.keep [0, 2, 3, 4, 6, 11, 12, 13, 14]) <|
 .seq (.ops [⟨some 65, .move (.tmp 14), false, none⟩,
  ⟨some 66, .move (.tmp 13), false, none⟩,
  ⟨some 67, .binOp .mul 3 (.const (.int .i64 8)) (.tmp 66) 3, false, none⟩,
  ⟨some 68, .call ⟨.value (.func 134), #[(.tmp 65), (.tmp 67)], #[29, 3]⟩, true, none⟩,
  ⟨some 10, .assign (.tmp 68), false, none⟩]) <|
 .seq (.keep [0, 2, 3, 4, 6, 10, 11, 12, 13, 14]) <|
 .seq (.seq (.ops [⟨some 69, .move (.tmp 2), false, none⟩,
  ⟨some 70, .call ⟨.value (.func 170), #[(.tmp 69)], #[3]⟩, true, none⟩,
  ⟨some 71, .binOp .eql 3 (.tmp 70) (.const (.int .i64 63)) 3, false, none⟩]) <|
 .seq (.keep [0, 2, 3, 4, 6, 10, 11, 12, 13, 14, 71]) <|
 .cond (.tmp 71) (.seq (.ops [⟨some 72, .move (.tmp 10), false, none⟩,
  ⟨some 73, .move (.tmp 3), false, none⟩,
  ⟨some 74, .move (.tmp 13), false, none⟩,
  ⟨some 75, .build 61 #[(0, (.tmp 73)), (1, (.tmp 74))], false, none⟩,
  ⟨some 76, .build 49 #[], false, none⟩,
  ⟨some 10, .assign (.tmp 72), false, none⟩,
  ⟨none, .store 61 (.tmp 11) (.tmp 75), true, none⟩,
  ⟨none, .store 49 (.tmp 12) (.tmp 76), true, none⟩]) <|
 .seq (.keep [10, 11, 12]) <|
 .ret) <|
 .skip) <|
 .seq (.keep [0, 2, 3, 4, 6, 10, 11, 12, 13, 14]) <|
 .seq (.ops [⟨some 78, .move (.tmp 2), false, none⟩,
  ⟨some 79, .move (.tmp 14), false, none⟩,
  ⟨some 80, .move (.tmp 4), false, none⟩,
  ⟨some 81, .call ⟨.value (.func 173), #[(.tmp 78), (.tmp 79), (.tmp 80)], #[3, 29, 29]⟩, true, none⟩,
  ⟨some 77, .move (.tmp 81), false, none⟩,
  ⟨some 82, .extract (.tmp 77) 0, false, none⟩,
  ⟨some 83, .extract (.tmp 77) 1, false, none⟩,
  ⟨some 16, .assign (.tmp 82), false, none⟩,
  ⟨some 17, .assign (.tmp 83), false, none⟩]) <|
 .seq (.keep [0, 3, 6, 10, 11, 12, 13, 16]) <|
 .seq (.seq (.ops [⟨some 84, .move (.tmp 0), false, none⟩,
  ⟨some 85, .move (.tmp 3), false, none⟩,
  ⟨some 86, .move (.tmp 13), false, none⟩,
  ⟨some 87, .move (.tmp 16), false, none⟩,
  ⟨some 88, .call ⟨.value (.func 17), #[(.tmp 84), (.tmp 85), (.tmp 86), (.tmp 87)], #[24, 29, 3, 29]⟩, true, none⟩,
  ⟨some 18, .alloc 41, true, none⟩,
  ⟨none, .store 41 (.tmp 18) (.tmp 88), true, none⟩]) <|
 .seq (.keep [6, 10, 11, 12, 18]) <|
 .seq (.ops [⟨some 89, .fieldAddr 41 (.tmp 18) 0, false, none⟩,
  ⟨some 90, .load 3 (.tmp 89), false, none⟩,
  ⟨some 91, .binOp .neq 3 (.tmp 90) (.const (.int .i64 0)) 3, false, none⟩]) <|
 .seq (.keep [6, 10, 11, 12, 18, 91]) <|
 .cond (.tmp 91) (.seq (.ops [⟨some 92, .build 61 #[], false, none⟩,
  ⟨some 93, .load 41 (.tmp 18), false, none⟩,
  ⟨some 94, .call ⟨.value (.func 172), #[(.tmp 93)], #[41]⟩, true, none⟩,
  ⟨some 10, .assign (.const (.int .u64 0)), false, none⟩,
  ⟨none, .store 61 (.tmp 11) (.tmp 92), true, none⟩,
  ⟨none, .store 49 (.tmp 12) (.tmp 94), true, none⟩]) <|
 .seq (.keep [10, 11, 12]) <|
 .ret) <|
 .skip) <|
 .seq (.keep [6, 10, 11, 12]) <|
 .seq (.seq (.ops [⟨some 95, .move (.tmp 10), false, none⟩]) <|
 .seq (.ops [⟨some 96, .load 61 (.tmp 6), false, none⟩]) <|
 .seq (.ops [⟨some 97, .build 49 #[], false, none⟩]) <|
 .seq (.ops [⟨some 10, .assign (.tmp 95), false, none⟩]) <|
 .seq (.ops [⟨none, .store 61 (.tmp 11) (.tmp 96), true, none⟩]) <|
 .seq (.ops [⟨none, .store 49 (.tmp 12) (.tmp 97), true, none⟩]) <|
 .skip) <|
 .seq (.keep [10, 11, 12]) <|
 .ret
theorem c137 : Tryz.f137.body.map (fun c => ((compile Tryz.prog kp137 [] kp137 c).map (·.1), fits Tryz.f137.ntmps c)) = some (some s137, true) := by kernel_rfl
theorem r137 : Tryz.f137.results.toList = [.tmp 10, .cell 11 61, .cell 12 49] := by kernel_rfl
attribute [go_sem] s137
abbrev kp147 : List Nat := [4]
end Go.SX.G
