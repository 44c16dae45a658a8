/- The compiled texts of the functions that are walked here, each checked against the loaded program; facts on its types. Printed by a program of this session. -/
import Derived.Test.YthippanonfbboaaDoorGenA
import Derived.Test.YthippanonfbboaaDoorProg
set_option linter.unusedVariables false
namespace Go.SX.G
open Go Go.SX Go.Proofs
-- marionette/marionettelaw15.both
abbrev kp19 : List Nat := [6, 7]
def s19 : SC :=
 .seq (.ops [⟨some 5, .box 52 (.tmp 2), true, none⟩,
  ⟨some 6, .assign (.const (.string ⟨#[]⟩)), false, none⟩,
  ⟨some 7, .assign (.const (.string ⟨#[]⟩)), false, none⟩]) <|
 .seq (.keep [0, 1, 5]) <|
 .seq (.ops [⟨some 8, .assign (.const (.int .i64 0)), false, none⟩,
  ⟨some 9, .assign (.const (.int .i64 0)), false, none⟩]) <|
 .seq (.keep [0, 1, 5, 8, 9]) <|
 .seq (.ops [⟨some 10, .assign (.const (.int .i64 0)), false, none⟩,
  ⟨some 11, .assign (.const (.int .i64 0)), false, none⟩]) <|
 .seq (.keep [0, 1, 5, 8, 9, 10, 11]) <|
 .seq (.ops [⟨some 12, .assign (.const (.slice none 0 0)), false, none⟩,
  ⟨some 13, .assign (.const (.slice none 0 0)), false, none⟩]) <|
 .seq (.keep [0, 1, 5, 8, 9, 10, 11, 12, 13]) <|
 .seq (.seq (.ops [⟨some 16, .fieldAddr 52 (.tmp 5) 0, false, none⟩,
  ⟨some 17, .load 3 (.tmp 16), false, none⟩]) <|
 .seq (.keep [0, 1, 5, 8, 9, 10, 11, 12, 13, 17]) <|
 .block 0 <| .seq (.ops [⟨some 19, .binOp .eql 3 (.tmp 17) (.const (.int .i64 1)) 3, false, none⟩,
  ⟨some 18, .assign (.tmp 19), false, none⟩]) <|
 .seq (.keep [0, 1, 5, 8, 9, 10, 11, 12, 13, 17, 18]) <|
 .cond (.tmp 18) (.seq (.seq (.ops [⟨some 21, .move (.tmp 0), false, none⟩]) <|
 .seq (.ops [⟨some 22, .fieldAddr 52 (.tmp 5) 1, false, none⟩]) <|
 .seq (.ops [⟨some 24, .fieldAddr 52 (.tmp 5) 5, false, none⟩]) <|
 .seq (.ops [⟨some 26, .fieldAddr 52 (.tmp 5) 3, false, none⟩]) <|
 .seq (.ops [⟨some 28, .fieldAddr 52 (.tmp 5) 4, false, none⟩]) <|
 .seq (.ops [⟨some 31, .fieldAddr 52 (.tmp 5) 7, false, none⟩]) <|
 .amb (.seq (.ops [⟨some 23, .load 3 (.tmp 22), false, none⟩]) <|
 .amb (.seq (.ops [⟨some 25, .load 9 (.tmp 24), false, none⟩]) <|
 .amb (.seq (.ops [⟨some 27, .load 3 (.tmp 26), false, none⟩]) <|
 .amb (.seq (.ops [⟨some 29, .load 3 (.tmp 28), false, none⟩]) <|
 .amb (.seq (.ops [⟨some 30, .buildSlice 23 0 #[], true, none⟩]) <|
 .seq (.ops [⟨some 32, .load 23 (.tmp 31), false, none⟩]) <|
 .seq (.ops [⟨some 33, .call ⟨.builtin .append, #[(.tmp 30), (.tmp 32)], #[23, 23]⟩, true, none⟩]) <|
 .seq (.ops [⟨some 34, .call ⟨.value (.func 9), #[(.tmp 21), (.tmp 23), (.tmp 25), (.tmp 27), (.tmp 29), (.tmp 33)], #[25, 3, 9, 3, 3, 23]⟩, true, none⟩]) <|
 .seq (.ops [⟨some 20, .move (.tmp 34), false, none⟩]) <|
 .seq (.ops [⟨some 35, .extract (.tmp 20) 0, false, none⟩]) <|
 .seq (.ops [⟨some 36, .extract (.tmp 20) 1, false, none⟩]) <|
 .seq (.ops [⟨some 8, .assign (.tmp 35), false, none⟩]) <|
 .seq (.ops [⟨some 10, .assign (.tmp 36), false, none⟩]) <|
 .skip) (.seq (.ops [⟨some 32, .load 23 (.tmp 31), false, none⟩]) <|
 .seq (.ops [⟨some 30, .buildSlice 23 0 #[], true, none⟩]) <|
 .seq (.ops [⟨some 33, .call ⟨.builtin .append, #[(.tmp 30), (.tmp 32)], #[23, 23]⟩, true, none⟩]) <|
 .seq (.ops [⟨some 34, .call ⟨.value (.func 9), #[(.tmp 21), (.tmp 23), (.tmp 25), (.tmp 27), (.tmp 29), (.tmp 33)], #[25, 3, 9, 3, 3, 23]⟩, true, none⟩]) <|
 .seq (.ops [⟨some 20, .move (.tmp 34), false, none⟩]) <|
 .seq (.ops [⟨some 35, .extract (.tmp 20) 0, false, none⟩]) <|
 .seq (.ops [⟨some 36, .extract (.tmp 20) 1, false, none⟩]) <|
 .seq (.ops [⟨some 8, .assign (.tmp 35), false, none⟩]) <|
 .seq (.ops [⟨some 10, .assign (.tmp 36), false, none⟩]) <|
 .skip)) (.amb (.seq (.ops [⟨some 30, .buildSlice 23 0 #[], true, none⟩]) <|
 .seq (.ops [⟨some 32, .load 23 (.tmp 31), false, none⟩]) <|
 .amb (.seq (.ops [⟨some 29, .load 3 (.tmp 28), false, none⟩]) <|
 .seq (.ops [⟨some 33, .call ⟨.builtin .append, #[(.tmp 30), (.tmp 32)], #[23, 23]⟩, true, none⟩]) <|
 .seq (.ops [⟨some 34, .call ⟨.value (.func 9), #[(.tmp 21), (.tmp 23), (.tmp 25), (.tmp 27), (.tmp 29), (.tmp 33)], #[25, 3, 9, 3, 3, 23]⟩, true, none⟩]) <|
 .seq (.ops [⟨some 20, .move (.tmp 34), false, none⟩]) <|
 .seq (.ops [⟨some 35, .extract (.tmp 20) 0, false, none⟩]) <|
 .seq (.ops [⟨some 36, .extract (.tmp 20) 1, false, none⟩]) <|
 .seq (.ops [⟨some 8, .assign (.tmp 35), false, none⟩]) <|
 .seq (.ops [⟨some 10, .assign (.tmp 36), false, none⟩]) <|
 .skip) (.seq (.ops [⟨some 33, .call ⟨.builtin .append, #[(.tmp 30), (.tmp 32)], #[23, 23]⟩, true, none⟩]) <|
 .seq (.ops [⟨some 29, .load 3 (.tmp 28), false, none⟩]) <|
 .seq (.ops [⟨some 34, .call ⟨.value (.func 9), #[(.tmp 21), (.tmp 23), (.tmp 25), (.tmp 27), (.tmp 29), (.tmp 33)], #[25, 3, 9, 3, 3, 23]⟩, true, none⟩]) <|
 .seq (.ops [⟨some 20, .move (.tmp 34), false, none⟩]) <|
 .seq (.ops [⟨some 35, .extract (.tmp 20) 0, false, none⟩]) <|
 .seq (.ops [⟨some 36, .extract (.tmp 20) 1, false, none⟩]) <|
 .seq (.ops [⟨some 8, .assign (.tmp 35), false, none⟩]) <|
 .seq (.ops [⟨some 10, .assign (.tmp 36), false, none⟩]) <|
 .skip)) (.seq (.ops [⟨some 32, .load 23 (.tmp 31), false, none⟩]) <|
 .seq (.ops [⟨some 30, .buildSlice 23 0 #[], true, none⟩]) <|
 .amb (.seq (.ops [⟨some 29, .load 3 (.tmp 28), false, none⟩]) <|
 .seq (.ops [⟨some 33, .call ⟨.builtin .append, #[(.tmp 30), (.tmp 32)], #[23, 23]⟩, true, none⟩]) <|
 .seq (.ops [⟨some 34, .call ⟨.value (.func 9), #[(.tmp 21), (.tmp 23), (.tmp 25), (.tmp 27), (.tmp 29), (.tmp 33)], #[25, 3, 9, 3, 3, 23]⟩, true, none⟩]) <|
 .seq (.ops [⟨some 20, .move (.tmp 34), false, none⟩]) <|
 .seq (.ops [⟨some 35, .extract (.tmp 20) 0, false, none⟩]) <|
 .seq (.ops [⟨some 36, .extract (.tmp 20) 1, false, none⟩]) <|
 .seq (.ops [⟨some 8, .assign (.tmp 35), false, none⟩]) <|
 .seq (.ops [⟨some 10, .assign (.tmp 36), false, none⟩]) <|
 .skip) (.seq (.ops [⟨some 33, .call ⟨.builtin .append, #[(.tmp 30), (.tmp 32)], #[23, 23]⟩, true, none⟩]) <|
 .seq (.ops [⟨some 29, .load 3 (.tmp 28), false, none⟩]) <|
 .seq (.ops [⟨some 34, .call ⟨.value (.func 9), #[(.tmp 21), (.tmp 23), (.tmp 25), (.tmp 27), (.tmp 29), (.tmp 33)], #[25, 3, 9, 3, 3, 23]⟩, true, none⟩]) <|
 .seq (.ops [⟨some 20, .move (.tmp 34), false, none⟩]) <|
 .seq (.ops [⟨some 35, .extract (.tmp 20) 0, false, none⟩]) <|
 .seq (.ops [⟨some 36, .extract (.tmp 20) 1, false, none⟩]) <|
 .seq (.ops [⟨some 8, .assign (.tmp 35), false, none⟩]) <|
 .seq (.ops [⟨some 10, .assign (.tmp 36), false, none⟩]) <|
 .skip)))) (.amb (.seq (.ops [⟨some 29, .load 3 (.tmp 28), false, none⟩]) <|
 .amb (.seq (.ops [⟨some 30, .buildSlice 23 0 #[], true, none⟩]) <|
 .seq (.ops [⟨some 32, .load 23 (.tmp 31), false, none⟩]) <|
 .amb (.seq (.ops [⟨some 27, .load 3 (.tmp 26), false, none⟩]) <|
 .seq (.ops [⟨some 33, .call ⟨.builtin .append, #[(.tmp 30), (.tmp 32)], #[23, 23]⟩, true, none⟩]) <|
 .seq (.ops [⟨some 34, .call ⟨.value (.func 9), #[(.tmp 21), (.tmp 23), (.tmp 25), (.tmp 27), (.tmp 29), (.tmp 33)], #[25, 3, 9, 3, 3, 23]⟩, true, none⟩]) <|
 .seq (.ops [⟨some 20, .move (.tmp 34), false, none⟩]) <|
 .seq (.ops [⟨some 35, .extract (.tmp 20) 0, false, none⟩]) <|
 .seq (.ops [⟨some 36, .extract (.tmp 20) 1, false, none⟩]) <|
 .seq (.ops [⟨some 8, .assign (.tmp 35), false, none⟩]) <|
 .seq (.ops [⟨some 10, .assign (.tmp 36), false, none⟩]) <|
 .skip) (.seq (.ops [⟨some 33, .call ⟨.builtin .append, #[(.tmp 30), (.tmp 32)], #[23, 23]⟩, true, none⟩]) <|
 .seq (.ops [⟨some 27, .load 3 (.tmp 26), false, none⟩]) <|
 .seq (.ops [⟨some 34, .call ⟨.value (.func 9), #[(.tmp 21), (.tmp 23), (.tmp 25), (.tmp 27), (.tmp 29), (.tmp 33)], #[25, 3, 9, 3, 3, 23]⟩, true, none⟩]) <|
 .seq (.ops [⟨some 20, .move (.tmp 34), false, none⟩]) <|
 .seq (.ops [⟨some 35, .extract (.tmp 20) 0, false, none⟩]) <|
 .seq (.ops [⟨some 36, .extract (.tmp 20) 1, false, none⟩]) <|
 .seq (.ops [⟨some 8, .assign (.tmp 35), false, none⟩]) <|
 .seq (.ops [⟨some 10, .assign (.tmp 36), false, none⟩]) <|
 .skip)) (.seq (.ops [⟨some 32, .load 23 (.tmp 31), false, none⟩]) <|
 .seq (.ops [⟨some 30, .buildSlice 23 0 #[], true, none⟩]) <|
 .amb (.seq (.ops [⟨some 27, .load 3 (.tmp 26), false, none⟩]) <|
 .seq (.ops [⟨some 33, .call ⟨.builtin .append, #[(.tmp 30), (.tmp 32)], #[23, 23]⟩, true, none⟩]) <|
 .seq (.ops [⟨some 34, .call ⟨.value (.func 9), #[(.tmp 21), (.tmp 23), (.tmp 25), (.tmp 27), (.tmp 29), (.tmp 33)], #[25, 3, 9, 3, 3, 23]⟩, true, none⟩]) <|
 .seq (.ops [⟨some 20, .move (.tmp 34), false, none⟩]) <|
 .seq (.ops [⟨some 35, .extract (.tmp 20) 0, false, none⟩]) <|
 .seq (.ops [⟨some 36, .extract (.tmp 20) 1, false, none⟩]) <|
 .seq (.ops [⟨some 8, .assign (.tmp 35), false, none⟩]) <|
 .seq (.ops [⟨some 10, .assign (.tmp 36), false, none⟩]) <|
 .skip) (.seq (.ops [⟨some 33, .call ⟨.builtin .append, #[(.tmp 30), (.tmp 32)], #[23, 23]⟩, true, none⟩]) <|
 .seq (.ops [⟨some 27, .load 3 (.tmp 26), false, none⟩]) <|
 .seq (.ops [⟨some 34, .call ⟨.value (.func 9), #[(.tmp 21), (.tmp 23), (.tmp 25), (.tmp 27), (.tmp 29), (.tmp 33)], #[25, 3, 9, 3, 3, 23]⟩, true, none⟩]) <|
 .seq (.ops [⟨some 20, .move (.tmp 34), false, none⟩]) <|
 .seq (.ops [⟨some 35, .extract (.tmp 20) 0, false, none⟩]) <|
 .seq (.ops [⟨some 36, .extract (.tmp 20) 1, false, none⟩]) <|
 .seq (.ops [⟨some 8, .assign (.tmp 35), false, none⟩]) <|
 .seq (.ops [⟨some 10, .assign (.tmp 36), false, none⟩]) <|
 .skip))) (.amb (.seq (.ops [⟨some 30, .buildSlice 23 0 #[], true, none⟩]) <|
 .seq (.ops [⟨some 32, .load 23 (.tmp 31), false, none⟩]) <|
 .amb (.seq (.ops [⟨some 27, .load 3 (.tmp 26), false, none⟩]) <|
 .amb (.seq (.ops [⟨some 29, .load 3 (.tmp 28), false, none⟩]) <|
 .seq (.ops [⟨some 33, .call ⟨.builtin .append, #[(.tmp 30), (.tmp 32)], #[23, 23]⟩, true, none⟩]) <|
 .seq (.ops [⟨some 34, .call ⟨.value (.func 9), #[(.tmp 21), (.tmp 23), (.tmp 25), (.tmp 27), (.tmp 29), (.tmp 33)], #[25, 3, 9, 3, 3, 23]⟩, true, none⟩]) <|
 .seq (.ops [⟨some 20, .move (.tmp 34), false, none⟩]) <|
 .seq (.ops [⟨some 35, .extract (.tmp 20) 0, false, none⟩]) <|
 .seq (.ops [⟨some 36, .extract (.tmp 20) 1, false, none⟩]) <|
 .seq (.ops [⟨some 8, .assign (.tmp 35), false, none⟩]) <|
 .seq (.ops [⟨some 10, .assign (.tmp 36), false, none⟩]) <|
 .skip) (.seq (.ops [⟨some 33, .call ⟨.builtin .append, #[(.tmp 30), (.tmp 32)], #[23, 23]⟩, true, none⟩]) <|
 .seq (.ops [⟨some 29, .load 3 (.tmp 28), false, none⟩]) <|
 .seq (.ops [⟨some 34, .call ⟨.value (.func 9), #[(.tmp 21), (.tmp 23), (.tmp 25), (.tmp 27), (.tmp 29), (.tmp 33)], #[25, 3, 9, 3, 3, 23]⟩, true, none⟩]) <|
 .seq (.ops [⟨some 20, .move (.tmp 34), false, none⟩]) <|
 .seq (.ops [⟨some 35, .extract (.tmp 20) 0, false, none⟩]) <|
 .seq (.ops [⟨some 36, .extract (.tmp 20) 1, false, none⟩]) <|
 .seq (.ops [⟨some 8, .assign (.tmp 35), false, none⟩]) <|
 .seq (.ops [⟨some 10, .assign (.tmp 36), false, none⟩]) <|
 .skip)) (.amb (.seq (.ops [⟨some 29, .load 3 (.tmp 28), false, none⟩]) <|
 .seq (.ops [⟨some 33, .call ⟨.builtin .append, #[(.tmp 30), (.tmp 32)], #[23, 23]⟩, true, none⟩]) <|
 .seq (.ops [⟨some 27, .load 3 (.tmp 26), false, none⟩]) <|
 .seq (.ops [⟨some 34, .call ⟨.value (.func 9), #[(.tmp 21), (.tmp 23), (.tmp 25), (.tmp 27), (.tmp 29), (.tmp 33)], #[25, 3, 9, 3, 3, 23]⟩, true, none⟩]) <|
 .seq (.ops [⟨some 20, .move (.tmp 34), false, none⟩]) <|
 .seq (.ops [⟨some 35, .extract (.tmp 20) 0, false, none⟩]) <|
 .seq (.ops [⟨some 36, .extract (.tmp 20) 1, false, none⟩]) <|
 .seq (.ops [⟨some 8, .assign (.tmp 35), false, none⟩]) <|
 .seq (.ops [⟨some 10, .assign (.tmp 36), false, none⟩]) <|
 .skip) (.seq (.ops [⟨some 33, .call ⟨.builtin .append, #[(.tmp 30), (.tmp 32)], #[23, 23]⟩, true, none⟩]) <|
 .seq (.ops [⟨some 27, .load 3 (.tmp 26), false, none⟩]) <|
 .seq (.ops [⟨some 29, .load 3 (.tmp 28), false, none⟩]) <|
 .seq (.ops [⟨some 34, .call ⟨.value (.func 9), #[(.tmp 21), (.tmp 23), (.tmp 25), (.tmp 27), (.tmp 29), (.tmp 33)], #[25, 3, 9, 3, 3, 23]⟩, true, none⟩]) <|
 .seq (.ops [⟨some 20, .move (.tmp 34), false, none⟩]) <|
 .seq (.ops [⟨some 35, .extract (.tmp 20) 0, false, none⟩]) <|
 .seq (.ops [⟨some 36, .extract (.tmp 20) 1, false, none⟩]) <|
 .seq (.ops [⟨some 8, .assign (.tmp 35), false, none⟩]) <|
 .seq (.ops [⟨some 10, .assign (.tmp 36), false, none⟩]) <|
 .skip))) (.seq (.ops [⟨some 32, .load 23 (.tmp 31), false, none⟩]) <|
 .seq (.ops [⟨some 30, .buildSlice 23 0 #[], true, none⟩]) <|
 .amb (.seq (.ops [⟨some 27, .load 3 (.tmp 26), false, none⟩]) <|
 .amb (.seq (.ops [⟨some 29, .load 3 (.tmp 28), false, none⟩]) <|
 .seq (.ops [⟨some 33, .call ⟨.builtin .append, #[(.tmp 30), (.tmp 32)], #[23, 23]⟩, true, none⟩]) <|
 .seq (.ops [⟨some 34, .call ⟨.value (.func 9), #[(.tmp 21), (.tmp 23), (.tmp 25), (.tmp 27), (.tmp 29), (.tmp 33)], #[25, 3, 9, 3, 3, 23]⟩, true, none⟩]) <|
 .seq (.ops [⟨some 20, .move (.tmp 34), false, none⟩]) <|
 .seq (.ops [⟨some 35, .extract (.tmp 20) 0, false, none⟩]) <|
 .seq (.ops [⟨some 36, .extract (.tmp 20) 1, false, none⟩]) <|
 .seq (.ops [⟨some 8, .assign (.tmp 35), false, none⟩]) <|
 .seq (.ops [⟨some 10, .assign (.tmp 36), false, none⟩]) <|
 .skip) (.seq (.ops [⟨some 33, .call ⟨.builtin .append, #[(.tmp 30), (.tmp 32)], #[23, 23]⟩, true, none⟩]) <|
 .seq (.ops [⟨some 29, .load 3 (.tmp 28), false, none⟩]) <|
 .seq (.ops [⟨some 34, .call ⟨.value (.func 9), #[(.tmp 21), (.tmp 23), (.tmp 25), (.tmp 27), (.tmp 29), (.tmp 33)], #[25, 3, 9, 3, 3, 23]⟩, true, none⟩]) <|
 .seq (.ops [⟨some 20, .move (.tmp 34), false, none⟩]) <|
 .seq (.ops [⟨some 35, .extract (.tmp 20) 0, false, none⟩]) <|
 .seq (.ops [⟨some 36, .extract (.tmp 20) 1, false, none⟩]) <|
 .seq (.ops [⟨some 8, .assign (.tmp 35), false, none⟩]) <|
 .seq (.ops [⟨some 10, .assign (.tmp 36), false, none⟩]) <|
 .skip)) (.amb (.seq (.ops [⟨some 29, .load 3 (.tmp 28), false, none⟩]) <|
 .seq (.ops [⟨some 33, .call ⟨.builtin .append, #[(.tmp 30), (.tmp 32)], #[23, 23]⟩, true, none⟩]) <|
 .seq (.ops [⟨some 27, .load 3 (.tmp 26), false, none⟩]) <|
 .seq (.ops [⟨some 34, .call ⟨.value (.func 9), #[(.tmp 21), (.tmp 23), (.tmp 25), (.tmp 27), (.tmp 29), (.tmp 33)], #[25, 3, 9, 3, 3, 23]⟩, true, none⟩]) <|
 .seq (.ops [⟨some 20, .move (.tmp 34), false, none⟩]) <|
 .seq (.ops [⟨some 35, .extract (.tmp 20) 0, false, none⟩]) <|
 .seq (.ops [⟨some 36, .extract (.tmp 20) 1, false, none⟩]) <|
 .seq (.ops [⟨some 8, .assign (.tmp 35), false, none⟩]) <|
 .seq (.ops [⟨some 10, .assign (.tmp 36), false, none⟩]) <|
 .skip) (.seq (.ops [⟨some 33, .call ⟨.builtin .append, #[(.tmp 30), (.tmp 32)], #[23, 23]⟩, true, none⟩]) <|
 .seq (.ops [⟨some 27, .load 3 (.tmp 26), false, none⟩]) <|
 .seq (.ops [⟨some 29, .load 3 (.tmp 28), false, none⟩]) <|
 .seq (.ops [⟨some 34, .call ⟨.value (.func 9), #[(.tmp 21), (.tmp 23), (.tmp 25), (.tmp 27), (.tmp 29), (.tmp 33)], #[25, 3, 9, 3, 3, 23]⟩, true, none⟩]) <|
 .seq (.ops [⟨some 20, .move (.tmp 34), false, none⟩]) <|
 .seq (.ops [⟨some 35, .extract (.tmp 20) 0, false, none⟩]) <|
 .seq (.ops [⟨some 36, .extract (.tmp 20) 1, false, none⟩]) <|
 .seq (.ops [⟨some 8, .assign (.tmp 35), false, none⟩]) <|
 .seq (.ops [⟨some 10, .assign (.tmp 36), false, none⟩]) <|
 .skip)))))) (.amb (.seq (.ops [⟨some 27, .load 3 (.tmp 26), false, none⟩]) <|
 .amb (.seq (.ops [⟨some 29, .load 3 (.tmp 28), false, none⟩]) <|
 .amb (.seq (.ops [⟨some 30, .buildSlice 23 0 #[], true, none⟩]) <|
 .seq (.ops [⟨some 32, .load 23 (.tmp 31), false, none⟩]) <|
 .amb (.seq (.ops [⟨some 25, .load 9 (.tmp 24), false, none⟩]) <|
 .seq (.ops [⟨some 33, .call ⟨.builtin .append, #[(.tmp 30), (.tmp 32)], #[23, 23]⟩, true, none⟩]) <|
 .seq (.ops [⟨some 34, .call ⟨.value (.func 9), #[(.tmp 21), (.tmp 23), (.tmp 25), (.tmp 27), (.tmp 29), (.tmp 33)], #[25, 3, 9, 3, 3, 23]⟩, true, none⟩]) <|
 .seq (.ops [⟨some 20, .move (.tmp 34), false, none⟩]) <|
 .seq (.ops [⟨some 35, .extract (.tmp 20) 0, false, none⟩]) <|
 .seq (.ops [⟨some 36, .extract (.tmp 20) 1, false, none⟩]) <|
 .seq (.ops [⟨some 8, .assign (.tmp 35), false, none⟩]) <|
 .seq (.ops [⟨some 10, .assign (.tmp 36), false, none⟩]) <|
 .skip) (.seq (.ops [⟨some 33, .call ⟨.builtin .append, #[(.tmp 30), (.tmp 32)], #[23, 23]⟩, true, none⟩]) <|
 .seq (.ops [⟨some 25, .load 9 (.tmp 24), false, none⟩]) <|
 .seq (.ops [⟨some 34, .call ⟨.value (.func 9), #[(.tmp 21), (.tmp 23), (.tmp 25), (.tmp 27), (.tmp 29), (.tmp 33)], #[25, 3, 9, 3, 3, 23]⟩, true, none⟩]) <|
 .seq (.ops [⟨some 20, .move (.tmp 34), false, none⟩]) <|
 .seq (.ops [⟨some 35, .extract (.tmp 20) 0, false, none⟩]) <|
 .seq (.ops [⟨some 36, .extract (.tmp 20) 1, false, none⟩]) <|
 .seq (.ops [⟨some 8, .assign (.tmp 35), false, none⟩]) <|
 .seq (.ops [⟨some 10, .assign (.tmp 36), false, none⟩]) <|
 .skip)) (.seq (.ops [⟨some 32, .load 23 (.tmp 31), false, none⟩]) <|
 .seq (.ops [⟨some 30, .buildSlice 23 0 #[], true, none⟩]) <|
 .amb (.seq (.ops [⟨some 25, .load 9 (.tmp 24), false, none⟩]) <|
 .seq (.ops [⟨some 33, .call ⟨.builtin .append, #[(.tmp 30), (.tmp 32)], #[23, 23]⟩, true, none⟩]) <|
 .seq (.ops [⟨some 34, .call ⟨.value (.func 9), #[(.tmp 21), (.tmp 23), (.tmp 25), (.tmp 27), (.tmp 29), (.tmp 33)], #[25, 3, 9, 3, 3, 23]⟩, true, none⟩]) <|
 .seq (.ops [⟨some 20, .move (.tmp 34), false, none⟩]) <|
 .seq (.ops [⟨some 35, .extract (.tmp 20) 0, false, none⟩]) <|
 .seq (.ops [⟨some 36, .extract (.tmp 20) 1, false, none⟩]) <|
 .seq (.ops [⟨some 8, .assign (.tmp 35), false, none⟩]) <|
 .seq (.ops [⟨some 10, .assign (.tmp 36), false, none⟩]) <|
 .skip) (.seq (.ops [⟨some 33, .call ⟨.builtin .append, #[(.tmp 30), (.tmp 32)], #[23, 23]⟩, true, none⟩]) <|
 .seq (.ops [⟨some 25, .load 9 (.tmp 24), false, none⟩]) <|
 .seq (.ops [⟨some 34, .call ⟨.value (.func 9), #[(.tmp 21), (.tmp 23), (.tmp 25), (.tmp 27), (.tmp 29), (.tmp 33)], #[25, 3, 9, 3, 3, 23]⟩, true, none⟩]) <|
 .seq (.ops [⟨some 20, .move (.tmp 34), false, none⟩]) <|
 .seq (.ops [⟨some 35, .extract (.tmp 20) 0, false, none⟩]) <|
 .seq (.ops [⟨some 36, .extract (.tmp 20) 1, false, none⟩]) <|
 .seq (.ops [⟨some 8, .assign (.tmp 35), false, none⟩]) <|
 .seq (.ops [⟨some 10, .assign (.tmp 36), false, none⟩]) <|
 .skip))) (.amb (.seq (.ops [⟨some 30, .buildSlice 23 0 #[], true, none⟩]) <|
 .seq (.ops [⟨some 32, .load 23 (.tmp 31), false, none⟩]) <|
 .amb (.seq (.ops [⟨some 25, .load 9 (.tmp 24), false, none⟩]) <|
 .amb (.seq (.ops [⟨some 29, .load 3 (.tmp 28), false, none⟩]) <|
 .seq (.ops [⟨some 33, .call ⟨.builtin .append, #[(.tmp 30), (.tmp 32)], #[23, 23]⟩, true, none⟩]) <|
 .seq (.ops [⟨some 34, .call ⟨.value (.func 9), #[(.tmp 21), (.tmp 23), (.tmp 25), (.tmp 27), (.tmp 29), (.tmp 33)], #[25, 3, 9, 3, 3, 23]⟩, true, none⟩]) <|
 .seq (.ops [⟨some 20, .move (.tmp 34), false, none⟩]) <|
 .seq (.ops [⟨some 35, .extract (.tmp 20) 0, false, none⟩]) <|
 .seq (.ops [⟨some 36, .extract (.tmp 20) 1, false, none⟩]) <|
 .seq (.ops [⟨some 8, .assign (.tmp 35), false, none⟩]) <|
 .seq (.ops [⟨some 10, .assign (.tmp 36), false, none⟩]) <|
 .skip) (.seq (.ops [⟨some 33, .call ⟨.builtin .append, #[(.tmp 30), (.tmp 32)], #[23, 23]⟩, true, none⟩]) <|
 .seq (.ops [⟨some 29, .load 3 (.tmp 28), false, none⟩]) <|
 .seq (.ops [⟨some 34, .call ⟨.value (.func 9), #[(.tmp 21), (.tmp 23), (.tmp 25), (.tmp 27), (.tmp 29), (.tmp 33)], #[25, 3, 9, 3, 3, 23]⟩, true, none⟩]) <|
 .seq (.ops [⟨some 20, .move (.tmp 34), false, none⟩]) <|
 .seq (.ops [⟨some 35, .extract (.tmp 20) 0, false, none⟩]) <|
 .seq (.ops [⟨some 36, .extract (.tmp 20) 1, false, none⟩]) <|
 .seq (.ops [⟨some 8, .assign (.tmp 35), false, none⟩]) <|
 .seq (.ops [⟨some 10, .assign (.tmp 36), false, none⟩]) <|
 .skip)) (.amb (.seq (.ops [⟨some 29, .load 3 (.tmp 28), false, none⟩]) <|
 .seq (.ops [⟨some 33, .call ⟨.builtin .append, #[(.tmp 30), (.tmp 32)], #[23, 23]⟩, true, none⟩]) <|
 .seq (.ops [⟨some 25, .load 9 (.tmp 24), false, none⟩]) <|
 .seq (.ops [⟨some 34, .call ⟨.value (.func 9), #[(.tmp 21), (.tmp 23), (.tmp 25), (.tmp 27), (.tmp 29), (.tmp 33)], #[25, 3, 9, 3, 3, 23]⟩, true, none⟩]) <|
 .seq (.ops [⟨some 20, .move (.tmp 34), false, none⟩]) <|
 .seq (.ops [⟨some 35, .extract (.tmp 20) 0, false, none⟩]) <|
 .seq (.ops [⟨some 36, .extract (.tmp 20) 1, false, none⟩]) <|
 .seq (.ops [⟨some 8, .assign (.tmp 35), false, none⟩]) <|
 .seq (.ops [⟨some 10, .assign (.tmp 36), false, none⟩]) <|
 .skip) (.seq (.ops [⟨some 33, .call ⟨.builtin .append, #[(.tmp 30), (.tmp 32)], #[23, 23]⟩, true, none⟩]) <|
 .seq (.ops [⟨some 25, .load 9 (.tmp 24), false, none⟩]) <|
 .seq (.ops [⟨some 29, .load 3 (.tmp 28), false, none⟩]) <|
 .seq (.ops [⟨some 34, .call ⟨.value (.func 9), #[(.tmp 21), (.tmp 23), (.tmp 25), (.tmp 27), (.tmp 29), (.tmp 33)], #[25, 3, 9, 3, 3, 23]⟩, true, none⟩]) <|
 .seq (.ops [⟨some 20, .move (.tmp 34), false, none⟩]) <|
 .seq (.ops [⟨some 35, .extract (.tmp 20) 0, false, none⟩]) <|
 .seq (.ops [⟨some 36, .extract (.tmp 20) 1, false, none⟩]) <|
 .seq (.ops [⟨some 8, .assign (.tmp 35), false, none⟩]) <|
 .seq (.ops [⟨some 10, .assign (.tmp 36), false, none⟩]) <|
 .skip))) (.seq (.ops [⟨some 32, .load 23 (.tmp 31), false, none⟩]) <|
 .seq (.ops [⟨some 30, .buildSlice 23 0 #[], true, none⟩]) <|
 .amb (.seq (.ops [⟨some 25, .load 9 (.tmp 24), false, none⟩]) <|
 .amb (.seq (.ops [⟨some 29, .load 3 (.tmp 28), false, none⟩]) <|
 .seq (.ops [⟨some 33, .call ⟨.builtin .append, #[(.tmp 30), (.tmp 32)], #[23, 23]⟩, true, none⟩]) <|
 .seq (.ops [⟨some 34, .call ⟨.value (.func 9), #[(.tmp 21), (.tmp 23), (.tmp 25), (.tmp 27), (.tmp 29), (.tmp 33)], #[25, 3, 9, 3, 3, 23]⟩, true, none⟩]) <|
 .seq (.ops [⟨some 20, .move (.tmp 34), false, none⟩]) <|
 .seq (.ops [⟨some 35, .extract (.tmp 20) 0, false, none⟩]) <|
 .seq (.ops [⟨some 36, .extract (.tmp 20) 1, false, none⟩]) <|
 .seq (.ops [⟨some 8, .assign (.tmp 35), false, none⟩]) <|
 .seq (.ops [⟨some 10, .assign (.tmp 36), false, none⟩]) <|
 .skip) (.seq (.ops [⟨some 33, .call ⟨.builtin .append, #[(.tmp 30), (.tmp 32)], #[23, 23]⟩, true, none⟩]) <|
 .seq (.ops [⟨some 29, .load 3 (.tmp 28), false, none⟩]) <|
 .seq (.ops [⟨some 34, .call ⟨.value (.func 9), #[(.tmp 21), (.tmp 23), (.tmp 25), (.tmp 27), (.tmp 29), (.tmp 33)], #[25, 3, 9, 3, 3, 23]⟩, true, none⟩]) <|
 .seq (.ops [⟨some 20, .move (.tmp 34), false, none⟩]) <|
 .seq (.ops [⟨some 35, .extract (.tmp 20) 0, false, none⟩]) <|
 .seq (.ops [⟨some 36, .extract (.tmp 20) 1, false, none⟩]) <|
 .seq (.ops [⟨some 8, .assign (.tmp 35), false, none⟩]) <|
 .seq (.ops [⟨some 10, .assign (.tmp 36), false, none⟩]) <|
 .skip)) (.amb (.seq (.ops [⟨some 29, .load 3 (.tmp 28), false, none⟩]) <|
 .seq (.ops [⟨some 33, .call ⟨.builtin .append, #[(.tmp 30), (.tmp 32)], #[23, 23]⟩, true, none⟩]) <|
 .seq (.ops [⟨some 25, .load 9 (.tmp 24), false, none⟩]) <|
 .seq (.ops [⟨some 34, .call ⟨.value (.func 9), #[(.tmp 21), (.tmp 23), (.tmp 25), (.tmp 27), (.tmp 29), (.tmp 33)], #[25, 3, 9, 3, 3, 23]⟩, true, none⟩]) <|
 .seq (.ops [⟨some 20, .move (.tmp 34), false, none⟩]) <|
 .seq (.ops [⟨some 35, .extract (.tmp 20) 0, false, none⟩]) <|
 .seq (.ops [⟨some 36, .extract (.tmp 20) 1, false, none⟩]) <|
 .seq (.ops [⟨some 8, .assign (.tmp 35), false, none⟩]) <|
 .seq (.ops [⟨some 10, .assign (.tmp 36), false, none⟩]) <|
 .skip) (.seq (.ops [⟨some 33, .call ⟨.builtin .append, #[(.tmp 30), (.tmp 32)], #[23, 23]⟩, true, none⟩]) <|
 .seq (.ops [⟨some 25, .load 9 (.tmp 24), false, none⟩]) <|
 .seq (.ops [⟨some 29, .load 3 (.tmp 28), false, none⟩]) <|
 .seq (.ops [⟨some 34, .call ⟨.value (.func 9), #[(.tmp 21), (.tmp 23), (.tmp 25), (.tmp 27), (.tmp 29), (.tmp 33)], #[25, 3, 9, 3, 3, 23]⟩, true, none⟩]) <|
 .seq (.ops [⟨some 20, .move (.tmp 34), false, none⟩]) <|
 .seq (.ops [⟨some 35, .extract (.tmp 20) 0, false, none⟩]) <|
 .seq (.ops [⟨some 36, .extract (.tmp 20) 1, false, none⟩]) <|
 .seq (.ops [⟨some 8, .assign (.tmp 35), false, none⟩]) <|
 .seq (.ops [⟨some 10, .assign (.tmp 36), false, none⟩]) <|
 .skip))))) (.amb (.seq (.ops [⟨some 29, .load 3 (.tmp 28), false, none⟩]) <|
 .amb (.seq (.ops [⟨some 30, .buildSlice 23 0 #[], true, none⟩]) <|
 .seq (.ops [⟨some 32, .load 23 (.tmp 31), false, none⟩]) <|
 .amb (.seq (.ops [⟨some 25, .load 9 (.tmp 24), false, none⟩]) <|
 .amb (.seq (.ops [⟨some 27, .load 3 (.tmp 26), false, none⟩]) <|
 .seq (.ops [⟨some 33, .call ⟨.builtin .append, #[(.tmp 30), (.tmp 32)], #[23, 23]⟩, true, none⟩]) <|
 .seq (.ops [⟨some 34, .call ⟨.value (.func 9), #[(.tmp 21), (.tmp 23), (.tmp 25), (.tmp 27), (.tmp 29), (.tmp 33)], #[25, 3, 9, 3, 3, 23]⟩, true, none⟩]) <|
 .seq (.ops [⟨some 20, .move (.tmp 34), false, none⟩]) <|
 .seq (.ops [⟨some 35, .extract (.tmp 20) 0, false, none⟩]) <|
 .seq (.ops [⟨some 36, .extract (.tmp 20) 1, false, none⟩]) <|
 .seq (.ops [⟨some 8, .assign (.tmp 35), false, none⟩]) <|
 .seq (.ops [⟨some 10, .assign (.tmp 36), false, none⟩]) <|
 .skip) (.seq (.ops [⟨some 33, .call ⟨.builtin .append, #[(.tmp 30), (.tmp 32)], #[23, 23]⟩, true, none⟩]) <|
 .seq (.ops [⟨some 27, .load 3 (.tmp 26), false, none⟩]) <|
 .seq (.ops [⟨some 34, .call ⟨.value (.func 9), #[(.tmp 21), (.tmp 23), (.tmp 25), (.tmp 27), (.tmp 29), (.tmp 33)], #[25, 3, 9, 3, 3, 23]⟩, true, none⟩]) <|
 .seq (.ops [⟨some 20, .move (.tmp 34), false, none⟩]) <|
 .seq (.ops [⟨some 35, .extract (.tmp 20) 0, false, none⟩]) <|
 .seq (.ops [⟨some 36, .extract (.tmp 20) 1, false, none⟩]) <|
 .seq (.ops [⟨some 8, .assign (.tmp 35), false, none⟩]) <|
 .seq (.ops [⟨some 10, .assign (.tmp 36), false, none⟩]) <|
 .skip)) (.amb (.seq (.ops [⟨some 27, .load 3 (.tmp 26), false, none⟩]) <|
 .seq (.ops [⟨some 33, .call ⟨.builtin .append, #[(.tmp 30), (.tmp 32)], #[23, 23]⟩, true, none⟩]) <|
 .seq (.ops [⟨some 25, .load 9 (.tmp 24), false, none⟩]) <|
 .seq (.ops [⟨some 34, .call ⟨.value (.func 9), #[(.tmp 21), (.tmp 23), (.tmp 25), (.tmp 27), (.tmp 29), (.tmp 33)], #[25, 3, 9, 3, 3, 23]⟩, true, none⟩]) <|
 .seq (.ops [⟨some 20, .move (.tmp 34), false, none⟩]) <|
 .seq (.ops [⟨some 35, .extract (.tmp 20) 0, false, none⟩]) <|
 .seq (.ops [⟨some 36, .extract (.tmp 20) 1, false, none⟩]) <|
 .seq (.ops [⟨some 8, .assign (.tmp 35), false, none⟩]) <|
 .seq (.ops [⟨some 10, .assign (.tmp 36), false, none⟩]) <|
 .skip) (.seq (.ops [⟨some 33, .call ⟨.builtin .append, #[(.tmp 30), (.tmp 32)], #[23, 23]⟩, true, none⟩]) <|
 .seq (.ops [⟨some 25, .load 9 (.tmp 24), false, none⟩]) <|
 .seq (.ops [⟨some 27, .load 3 (.tmp 26), false, none⟩]) <|
 .seq (.ops [⟨some 34, .call ⟨.value (.func 9), #[(.tmp 21), (.tmp 23), (.tmp 25), (.tmp 27), (.tmp 29), (.tmp 33)], #[25, 3, 9, 3, 3, 23]⟩, true, none⟩]) <|
 .seq (.ops [⟨some 20, .move (.tmp 34), false, none⟩]) <|
 .seq (.ops [⟨some 35, .extract (.tmp 20) 0, false, none⟩]) <|
 .seq (.ops [⟨some 36, .extract (.tmp 20) 1, false, none⟩]) <|
 .seq (.ops [⟨some 8, .assign (.tmp 35), false, none⟩]) <|
 .seq (.ops [⟨some 10, .assign (.tmp 36), false, none⟩]) <|
 .skip))) (.seq (.ops [⟨some 32, .load 23 (.tmp 31), false, none⟩]) <|
 .seq (.ops [⟨some 30, .buildSlice 23 0 #[], true, none⟩]) <|
 .amb (.seq (.ops [⟨some 25, .load 9 (.tmp 24), false, none⟩]) <|
 .amb (.seq (.ops [⟨some 27, .load 3 (.tmp 26), false, none⟩]) <|
 .seq (.ops [⟨some 33, .call ⟨.builtin .append, #[(.tmp 30), (.tmp 32)], #[23, 23]⟩, true, none⟩]) <|
 .seq (.ops [⟨some 34, .call ⟨.value (.func 9), #[(.tmp 21), (.tmp 23), (.tmp 25), (.tmp 27), (.tmp 29), (.tmp 33)], #[25, 3, 9, 3, 3, 23]⟩, true, none⟩]) <|
 .seq (.ops [⟨some 20, .move (.tmp 34), false, none⟩]) <|
 .seq (.ops [⟨some 35, .extract (.tmp 20) 0, false, none⟩]) <|
 .seq (.ops [⟨some 36, .extract (.tmp 20) 1, false, none⟩]) <|
 .seq (.ops [⟨some 8, .assign (.tmp 35), false, none⟩]) <|
 .seq (.ops [⟨some 10, .assign (.tmp 36), false, none⟩]) <|
 .skip) (.seq (.ops [⟨some 33, .call ⟨.builtin .append, #[(.tmp 30), (.tmp 32)], #[23, 23]⟩, true, none⟩]) <|
 .seq (.ops [⟨some 27, .load 3 (.tmp 26), false, none⟩]) <|
 .seq (.ops [⟨some 34, .call ⟨.value (.func 9), #[(.tmp 21), (.tmp 23), (.tmp 25), (.tmp 27), (.tmp 29), (.tmp 33)], #[25, 3, 9, 3, 3, 23]⟩, true, none⟩]) <|
 .seq (.ops [⟨some 20, .move (.tmp 34), false, none⟩]) <|
 .seq (.ops [⟨some 35, .extract (.tmp 20) 0, false, none⟩]) <|
 .seq (.ops [⟨some 36, .extract (.tmp 20) 1, false, none⟩]) <|
 .seq (.ops [⟨some 8, .assign (.tmp 35), false, none⟩]) <|
 .seq (.ops [⟨some 10, .assign (.tmp 36), false, none⟩]) <|
 .skip)) (.amb (.seq (.ops [⟨some 27, .load 3 (.tmp 26), false, none⟩]) <|
 .seq (.ops [⟨some 33, .call ⟨.builtin .append, #[(.tmp 30), (.tmp 32)], #[23, 23]⟩, true, none⟩]) <|
 .seq (.ops [⟨some 25, .load 9 (.tmp 24), false, none⟩]) <|
 .seq (.ops [⟨some 34, .call ⟨.value (.func 9), #[(.tmp 21), (.tmp 23), (.tmp 25), (.tmp 27), (.tmp 29), (.tmp 33)], #[25, 3, 9, 3, 3, 23]⟩, true, none⟩]) <|
 .seq (.ops [⟨some 20, .move (.tmp 34), false, none⟩]) <|
 .seq (.ops [⟨some 35, .extract (.tmp 20) 0, false, none⟩]) <|
 .seq (.ops [⟨some 36, .extract (.tmp 20) 1, false, none⟩]) <|
 .seq (.ops [⟨some 8, .assign (.tmp 35), false, none⟩]) <|
 .seq (.ops [⟨some 10, .assign (.tmp 36), false, none⟩]) <|
 .skip) (.seq (.ops [⟨some 33, .call ⟨.builtin .append, #[(.tmp 30), (.tmp 32)], #[23, 23]⟩, true, none⟩]) <|
 .seq (.ops [⟨some 25, .load 9 (.tmp 24), false, none⟩]) <|
 .seq (.ops [⟨some 27, .load 3 (.tmp 26), false, none⟩]) <|
 .seq (.ops [⟨some 34, .call ⟨.value (.func 9), #[(.tmp 21), (.tmp 23), (.tmp 25), (.tmp 27), (.tmp 29), (.tmp 33)], #[25, 3, 9, 3, 3, 23]⟩, true, none⟩]) <|
 .seq (.ops [⟨some 20, .move (.tmp 34), false, none⟩]) <|
 .seq (.ops [⟨some 35, .extract (.tmp 20) 0, false, none⟩]) <|
 .seq (.ops [⟨some 36, .extract (.tmp 20) 1, false, none⟩]) <|
 .seq (.ops [⟨some 8, .assign (.tmp 35), false, none⟩]) <|
 .seq (.ops [⟨some 10, .assign (.tmp 36), false, none⟩]) <|
 .skip)))) (.amb (.seq (.ops [⟨some 30, .buildSlice 23 0 #[], true, none⟩]) <|
 .seq (.ops [⟨some 32, .load 23 (.tmp 31), false, none⟩]) <|
 .amb (.seq (.ops [⟨some 25, .load 9 (.tmp 24), false, none⟩]) <|
 .amb (.seq (.ops [⟨some 27, .load 3 (.tmp 26), false, none⟩]) <|
 .amb (.seq (.ops [⟨some 29, .load 3 (.tmp 28), false, none⟩]) <|
 .seq (.ops [⟨some 33, .call ⟨.builtin .append, #[(.tmp 30), (.tmp 32)], #[23, 23]⟩, true, none⟩]) <|
 .seq (.ops [⟨some 34, .call ⟨.value (.func 9), #[(.tmp 21), (.tmp 23), (.tmp 25), (.tmp 27), (.tmp 29), (.tmp 33)], #[25, 3, 9, 3, 3, 23]⟩, true, none⟩]) <|
 .seq (.ops [⟨some 20, .move (.tmp 34), false, none⟩]) <|
 .seq (.ops [⟨some 35, .extract (.tmp 20) 0, false, none⟩]) <|
 .seq (.ops [⟨some 36, .extract (.tmp 20) 1, false, none⟩]) <|
 .seq (.ops [⟨some 8, .assign (.tmp 35), false, none⟩]) <|
 .seq (.ops [⟨some 10, .assign (.tmp 36), false, none⟩]) <|
 .skip) (.seq (.ops [⟨some 33, .call ⟨.builtin .append, #[(.tmp 30), (.tmp 32)], #[23, 23]⟩, true, none⟩]) <|
 .seq (.ops [⟨some 29, .load 3 (.tmp 28), false, none⟩]) <|
 .seq (.ops [⟨some 34, .call ⟨.value (.func 9), #[(.tmp 21), (.tmp 23), (.tmp 25), (.tmp 27), (.tmp 29), (.tmp 33)], #[25, 3, 9, 3, 3, 23]⟩, true, none⟩]) <|
 .seq (.ops [⟨some 20, .move (.tmp 34), false, none⟩]) <|
 .seq (.ops [⟨some 35, .extract (.tmp 20) 0, false, none⟩]) <|
 .seq (.ops [⟨some 36, .extract (.tmp 20) 1, false, none⟩]) <|
 .seq (.ops [⟨some 8, .assign (.tmp 35), false, none⟩]) <|
 .seq (.ops [⟨some 10, .assign (.tmp 36), false, none⟩]) <|
 .skip)) (.amb (.seq (.ops [⟨some 29, .load 3 (.tmp 28), false, none⟩]) <|
 .seq (.ops [⟨some 33, .call ⟨.builtin .append, #[(.tmp 30), (.tmp 32)], #[23, 23]⟩, true, none⟩]) <|
 .seq (.ops [⟨some 27, .load 3 (.tmp 26), false, none⟩]) <|
 .seq (.ops [⟨some 34, .call ⟨.value (.func 9), #[(.tmp 21), (.tmp 23), (.tmp 25), (.tmp 27), (.tmp 29), (.tmp 33)], #[25, 3, 9, 3, 3, 23]⟩, true, none⟩]) <|
 .seq (.ops [⟨some 20, .move (.tmp 34), false, none⟩]) <|
 .seq (.ops [⟨some 35, .extract (.tmp 20) 0, false, none⟩]) <|
 .seq (.ops [⟨some 36, .extract (.tmp 20) 1, false, none⟩]) <|
 .seq (.ops [⟨some 8, .assign (.tmp 35), false, none⟩]) <|
 .seq (.ops [⟨some 10, .assign (.tmp 36), false, none⟩]) <|
 .skip) (.seq (.ops [⟨some 33, .call ⟨.builtin .append, #[(.tmp 30), (.tmp 32)], #[23, 23]⟩, true, none⟩]) <|
 .seq (.ops [⟨some 27, .load 3 (.tmp 26), false, none⟩]) <|
 .seq (.ops [⟨some 29, .load 3 (.tmp 28), false, none⟩]) <|
 .seq (.ops [⟨some 34, .call ⟨.value (.func 9), #[(.tmp 21), (.tmp 23), (.tmp 25), (.tmp 27), (.tmp 29), (.tmp 33)], #[25, 3, 9, 3, 3, 23]⟩, true, none⟩]) <|
 .seq (.ops [⟨some 20, .move (.tmp 34), false, none⟩]) <|
 .seq (.ops [⟨some 35, .extract (.tmp 20) 0, false, none⟩]) <|
 .seq (.ops [⟨some 36, .extract (.tmp 20) 1, false, none⟩]) <|
 .seq (.ops [⟨some 8, .assign (.tmp 35), false, none⟩]) <|
 .seq (.ops [⟨some 10, .assign (.tmp 36), false, none⟩]) <|
 .skip))) (.amb (.seq (.ops [⟨some 27, .load 3 (.tmp 26), false, none⟩]) <|
 .amb (.seq (.ops [⟨some 29, .load 3 (.tmp 28), false, none⟩]) <|
 .seq (.ops [⟨some 33, .call ⟨.builtin .append, #[(.tmp 30), (.tmp 32)], #[23, 23]⟩, true, none⟩]) <|
 .seq (.ops [⟨some 25, .load 9 (.tmp 24), false, none⟩]) <|
 .seq (.ops [⟨some 34, .call ⟨.value (.func 9), #[(.tmp 21), (.tmp 23), (.tmp 25), (.tmp 27), (.tmp 29), (.tmp 33)], #[25, 3, 9, 3, 3, 23]⟩, true, none⟩]) <|
 .seq (.ops [⟨some 20, .move (.tmp 34), false, none⟩]) <|
 .seq (.ops [⟨some 35, .extract (.tmp 20) 0, false, none⟩]) <|
 .seq (.ops [⟨some 36, .extract (.tmp 20) 1, false, none⟩]) <|
 .seq (.ops [⟨some 8, .assign (.tmp 35), false, none⟩]) <|
 .seq (.ops [⟨some 10, .assign (.tmp 36), false, none⟩]) <|
 .skip) (.seq (.ops [⟨some 33, .call ⟨.builtin .append, #[(.tmp 30), (.tmp 32)], #[23, 23]⟩, true, none⟩]) <|
 .seq (.ops [⟨some 25, .load 9 (.tmp 24), false, none⟩]) <|
 .seq (.ops [⟨some 29, .load 3 (.tmp 28), false, none⟩]) <|
 .seq (.ops [⟨some 34, .call ⟨.value (.func 9), #[(.tmp 21), (.tmp 23), (.tmp 25), (.tmp 27), (.tmp 29), (.tmp 33)], #[25, 3, 9, 3, 3, 23]⟩, true, none⟩]) <|
 .seq (.ops [⟨some 20, .move (.tmp 34), false, none⟩]) <|
 .seq (.ops [⟨some 35, .extract (.tmp 20) 0, false, none⟩]) <|
 .seq (.ops [⟨some 36, .extract (.tmp 20) 1, false, none⟩]) <|
 .seq (.ops [⟨some 8, .assign (.tmp 35), false, none⟩]) <|
 .seq (.ops [⟨some 10, .assign (.tmp 36), false, none⟩]) <|
 .skip)) (.amb (.seq (.ops [⟨some 29, .load 3 (.tmp 28), false, none⟩]) <|
 .seq (.ops [⟨some 33, .call ⟨.builtin .append, #[(.tmp 30), (.tmp 32)], #[23, 23]⟩, true, none⟩]) <|
 .seq (.ops [⟨some 25, .load 9 (.tmp 24), false, none⟩]) <|
 .seq (.ops [⟨some 27, .load 3 (.tmp 26), false, none⟩]) <|
 .seq (.ops [⟨some 34, .call ⟨.value (.func 9), #[(.tmp 21), (.tmp 23), (.tmp 25), (.tmp 27), (.tmp 29), (.tmp 33)], #[25, 3, 9, 3, 3, 23]⟩, true, none⟩]) <|
 .seq (.ops [⟨some 20, .move (.tmp 34), false, none⟩]) <|
 .seq (.ops [⟨some 35, .extract (.tmp 20) 0, false, none⟩]) <|
 .seq (.ops [⟨some 36, .extract (.tmp 20) 1, false, none⟩]) <|
 .seq (.ops [⟨some 8, .assign (.tmp 35), false, none⟩]) <|
 .seq (.ops [⟨some 10, .assign (.tmp 36), false, none⟩]) <|
 .skip) (.seq (.ops [⟨some 33, .call ⟨.builtin .append, #[(.tmp 30), (.tmp 32)], #[23, 23]⟩, true, none⟩]) <|
 .seq (.ops [⟨some 25, .load 9 (.tmp 24), false, none⟩]) <|
 .seq (.ops [⟨some 27, .load 3 (.tmp 26), false, none⟩]) <|
 .seq (.ops [⟨some 29, .load 3 (.tmp 28), false, none⟩]) <|
 .seq (.ops [⟨some 34, .call ⟨.value (.func 9), #[(.tmp 21), (.tmp 23), (.tmp 25), (.tmp 27), (.tmp 29), (.tmp 33)], #[25, 3, 9, 3, 3, 23]⟩, true, none⟩]) <|
 .seq (.ops [⟨some 20, .move (.tmp 34), false, none⟩]) <|
 .seq (.ops [⟨some 35, .extract (.tmp 20) 0, false, none⟩]) <|
 .seq (.ops [⟨some 36, .extract (.tmp 20) 1, false, none⟩]) <|
 .seq (.ops [⟨some 8, .assign (.tmp 35), false, none⟩]) <|
 .seq (.ops [⟨some 10, .assign (.tmp 36), false, none⟩]) <|
 .skip)))) (.seq (.ops [⟨some 32, .load 23 (.tmp 31), false, none⟩]) <|
 .seq (.ops [⟨some 30, .buildSlice 23 0 #[], true, none⟩]) <|
 .amb (.seq (.ops [⟨some 25, .load 9 (.tmp 24), false, none⟩]) <|
 .amb (.seq (.ops [⟨some 27, .load 3 (.tmp 26), false, none⟩]) <|
 .amb (.seq (.ops [⟨some 29, .load 3 (.tmp 28), false, none⟩]) <|
 .seq (.ops [⟨some 33, .call ⟨.builtin .append, #[(.tmp 30), (.tmp 32)], #[23, 23]⟩, true, none⟩]) <|
 .seq (.ops [⟨some 34, .call ⟨.value (.func 9), #[(.tmp 21), (.tmp 23), (.tmp 25), (.tmp 27), (.tmp 29), (.tmp 33)], #[25, 3, 9, 3, 3, 23]⟩, true, none⟩]) <|
 .seq (.ops [⟨some 20, .move (.tmp 34), false, none⟩]) <|
 .seq (.ops [⟨some 35, .extract (.tmp 20) 0, false, none⟩]) <|
 .seq (.ops [⟨some 36, .extract (.tmp 20) 1, false, none⟩]) <|
 .seq (.ops [⟨some 8, .assign (.tmp 35), false, none⟩]) <|
 .seq (.ops [⟨some 10, .assign (.tmp 36), false, none⟩]) <|
 .skip) (.seq (.ops [⟨some 33, .call ⟨.builtin .append, #[(.tmp 30), (.tmp 32)], #[23, 23]⟩, true, none⟩]) <|
 .seq (.ops [⟨some 29, .load 3 (.tmp 28), false, none⟩]) <|
 .seq (.ops [⟨some 34, .call ⟨.value (.func 9), #[(.tmp 21), (.tmp 23), (.tmp 25), (.tmp 27), (.tmp 29), (.tmp 33)], #[25, 3, 9, 3, 3, 23]⟩, true, none⟩]) <|
 .seq (.ops [⟨some 20, .move (.tmp 34), false, none⟩]) <|
 .seq (.ops [⟨some 35, .extract (.tmp 20) 0, false, none⟩]) <|
 .seq (.ops [⟨some 36, .extract (.tmp 20) 1, false, none⟩]) <|
 .seq (.ops [⟨some 8, .assign (.tmp 35), false, none⟩]) <|
 .seq (.ops [⟨some 10, .assign (.tmp 36), false, none⟩]) <|
 .skip)) (.amb (.seq (.ops [⟨some 29, .load 3 (.tmp 28), false, none⟩]) <|
 .seq (.ops [⟨some 33, .call ⟨.builtin .append, #[(.tmp 30), (.tmp 32)], #[23, 23]⟩, true, none⟩]) <|
 .seq (.ops [⟨some 27, .load 3 (.tmp 26), false, none⟩]) <|
 .seq (.ops [⟨some 34, .call ⟨.value (.func 9), #[(.tmp 21), (.tmp 23), (.tmp 25), (.tmp 27), (.tmp 29), (.tmp 33)], #[25, 3, 9, 3, 3, 23]⟩, true, none⟩]) <|
 .seq (.ops [⟨some 20, .move (.tmp 34), false, none⟩]) <|
 .seq (.ops [⟨some 35, .extract (.tmp 20) 0, false, none⟩]) <|
 .seq (.ops [⟨some 36, .extract (.tmp 20) 1, false, none⟩]) <|
 .seq (.ops [⟨some 8, .assign (.tmp 35), false, none⟩]) <|
 .seq (.ops [⟨some 10, .assign (.tmp 36), false, none⟩]) <|
 .skip) (.seq (.ops [⟨some 33, .call ⟨.builtin .append, #[(.tmp 30), (.tmp 32)], #[23, 23]⟩, true, none⟩]) <|
 .seq (.ops [⟨some 27, .load 3 (.tmp 26), false, none⟩]) <|
 .seq (.ops [⟨some 29, .load 3 (.tmp 28), false, none⟩]) <|
 .seq (.ops [⟨some 34, .call ⟨.value (.func 9), #[(.tmp 21), (.tmp 23), (.tmp 25), (.tmp 27), (.tmp 29), (.tmp 33)], #[25, 3, 9, 3, 3, 23]⟩, true, none⟩]) <|
 .seq (.ops [⟨some 20, .move (.tmp 34), false, none⟩]) <|
 .seq (.ops [⟨some 35, .extract (.tmp 20) 0, false, none⟩]) <|
 .seq (.ops [⟨some 36, .extract (.tmp 20) 1, false, none⟩]) <|
 .seq (.ops [⟨some 8, .assign (.tmp 35), false, none⟩]) <|
 .seq (.ops [⟨some 10, .assign (.tmp 36), false, none⟩]) <|
 .skip))) (.amb (.seq (.ops [⟨some 27, .load 3 (.tmp 26), false, none⟩]) <|
 .amb (.seq (.ops [⟨some 29, .load 3 (.tmp 28), false, none⟩]) <|
 .seq (.ops [⟨some 33, .call ⟨.builtin .append, #[(.tmp 30), (.tmp 32)], #[23, 23]⟩, true, none⟩]) <|
 .seq (.ops [⟨some 25, .load 9 (.tmp 24), false, none⟩]) <|
 .seq (.ops [⟨some 34, .call ⟨.value (.func 9), #[(.tmp 21), (.tmp 23), (.tmp 25), (.tmp 27), (.tmp 29), (.tmp 33)], #[25, 3, 9, 3, 3, 23]⟩, true, none⟩]) <|
 .seq (.ops [⟨some 20, .move (.tmp 34), false, none⟩]) <|
 .seq (.ops [⟨some 35, .extract (.tmp 20) 0, false, none⟩]) <|
 .seq (.ops [⟨some 36, .extract (.tmp 20) 1, false, none⟩]) <|
 .seq (.ops [⟨some 8, .assign (.tmp 35), false, none⟩]) <|
 .seq (.ops [⟨some 10, .assign (.tmp 36), false, none⟩]) <|
 .skip) (.seq (.ops [⟨some 33, .call ⟨.builtin .append, #[(.tmp 30), (.tmp 32)], #[23, 23]⟩, true, none⟩]) <|
 .seq (.ops [⟨some 25, .load 9 (.tmp 24), false, none⟩]) <|
 .seq (.ops [⟨some 29, .load 3 (.tmp 28), false, none⟩]) <|
 .seq (.ops [⟨some 34, .call ⟨.value (.func 9), #[(.tmp 21), (.tmp 23), (.tmp 25), (.tmp 27), (.tmp 29), (.tmp 33)], #[25, 3, 9, 3, 3, 23]⟩, true, none⟩]) <|
 .seq (.ops [⟨some 20, .move (.tmp 34), false, none⟩]) <|
 .seq (.ops [⟨some 35, .extract (.tmp 20) 0, false, none⟩]) <|
 .seq (.ops [⟨some 36, .extract (.tmp 20) 1, false, none⟩]) <|
 .seq (.ops [⟨some 8, .assign (.tmp 35), false, none⟩]) <|
 .seq (.ops [⟨some 10, .assign (.tmp 36), false, none⟩]) <|
 .skip)) (.amb (.seq (.ops [⟨some 29, .load 3 (.tmp 28), false, none⟩]) <|
 .seq (.ops [⟨some 33, .call ⟨.builtin .append, #[(.tmp 30), (.tmp 32)], #[23, 23]⟩, true, none⟩]) <|
 .seq (.ops [⟨some 25, .load 9 (.tmp 24), false, none⟩]) <|
 .seq (.ops [⟨some 27, .load 3 (.tmp 26), false, none⟩]) <|
 .seq (.ops [⟨some 34, .call ⟨.value (.func 9), #[(.tmp 21), (.tmp 23), (.tmp 25), (.tmp 27), (.tmp 29), (.tmp 33)], #[25, 3, 9, 3, 3, 23]⟩, true, none⟩]) <|
 .seq (.ops [⟨some 20, .move (.tmp 34), false, none⟩]) <|
 .seq (.ops [⟨some 35, .extract (.tmp 20) 0, false, none⟩]) <|
 .seq (.ops [⟨some 36, .extract (.tmp 20) 1, false, none⟩]) <|
 .seq (.ops [⟨some 8, .assign (.tmp 35), false, none⟩]) <|
 .seq (.ops [⟨some 10, .assign (.tmp 36), false, none⟩]) <|
 .skip) (.seq (.ops [⟨some 33, .call ⟨.builtin .append, #[(.tmp 30), (.tmp 32)], #[23, 23]⟩, true, none⟩]) <|
 .seq (.ops [⟨some 25, .load 9 (.tmp 24), false, none⟩]) <|
 .seq (.ops [⟨some 27, .load 3 (.tmp 26), false, none⟩]) <|
 .seq (.ops [⟨some 29, .load 3 (.tmp 28), false, none⟩]) <|
 .seq (.ops [⟨some 34, .call ⟨.value (.func 9), #[(.tmp 21), (.tmp 23), (.tmp 25), (.tmp 27), (.tmp 29), (.tmp 33)], #[25, 3, 9, 3, 3, 23]⟩, true, none⟩]) <|
 .seq (.ops [⟨some 20, .move (.tmp 34), false, none⟩]) <|
 .seq (.ops [⟨some 35, .extract (.tmp 20) 0, false, none⟩]) <|
 .seq (.ops [⟨some 36, .extract (.tmp 20) 1, false, none⟩]) <|
 .seq (.ops [⟨some 8, .assign (.tmp 35), false, none⟩]) <|
 .seq (.ops [⟨some 10, .assign (.tmp 36), false, none⟩]) <|
 .skip)))))))) (.amb (.seq (.ops [⟨some 25, .load 9 (.tmp 24), false, none⟩]) <|
 .amb (.seq (.ops [⟨some 27, .load 3 (.tmp 26), false, none⟩]) <|
 .amb (.seq (.ops [⟨some 29, .load 3 (.tmp 28), false, none⟩]) <|
 .amb (.seq (.ops [⟨some 30, .buildSlice 23 0 #[], true, none⟩]) <|
 .seq (.ops [⟨some 32, .load 23 (.tmp 31), false, none⟩]) <|
 .amb (.seq (.ops [⟨some 23, .load 3 (.tmp 22), false, none⟩]) <|
 .seq (.ops [⟨some 33, .call ⟨.builtin .append, #[(.tmp 30), (.tmp 32)], #[23, 23]⟩, true, none⟩]) <|
 .seq (.ops [⟨some 34, .call ⟨.value (.func 9), #[(.tmp 21), (.tmp 23), (.tmp 25), (.tmp 27), (.tmp 29), (.tmp 33)], #[25, 3, 9, 3, 3, 23]⟩, true, none⟩]) <|
 .seq (.ops [⟨some 20, .move (.tmp 34), false, none⟩]) <|
 .seq (.ops [⟨some 35, .extract (.tmp 20) 0, false, none⟩]) <|
 .seq (.ops [⟨some 36, .extract (.tmp 20) 1, false, none⟩]) <|
 .seq (.ops [⟨some 8, .assign (.tmp 35), false, none⟩]) <|
 .seq (.ops [⟨some 10, .assign (.tmp 36), false, none⟩]) <|
 .skip) (.seq (.ops [⟨some 33, .call ⟨.builtin .append, #[(.tmp 30), (.tmp 32)], #[23, 23]⟩, true, none⟩]) <|
 .seq (.ops [⟨some 23, .load 3 (.tmp 22), false, none⟩]) <|
 .seq (.ops [⟨some 34, .call ⟨.value (.func 9), #[(.tmp 21), (.tmp 23), (.tmp 25), (.tmp 27), (.tmp 29), (.tmp 33)], #[25, 3, 9, 3, 3, 23]⟩, true, none⟩]) <|
 .seq (.ops [⟨some 20, .move (.tmp 34), false, none⟩]) <|
 .seq (.ops [⟨some 35, .extract (.tmp 20) 0, false, none⟩]) <|
 .seq (.ops [⟨some 36, .extract (.tmp 20) 1, false, none⟩]) <|
 .seq (.ops [⟨some 8, .assign (.tmp 35), false, none⟩]) <|
 .seq (.ops [⟨some 10, .assign (.tmp 36), false, none⟩]) <|
 .skip)) (.seq (.ops [⟨some 32, .load 23 (.tmp 31), false, none⟩]) <|
 .seq (.ops [⟨some 30, .buildSlice 23 0 #[], true, none⟩]) <|
 .amb (.seq (.ops [⟨some 23, .load 3 (.tmp 22), false, none⟩]) <|
 .seq (.ops [⟨some 33, .call ⟨.builtin .append, #[(.tmp 30), (.tmp 32)], #[23, 23]⟩, true, none⟩]) <|
 .seq (.ops [⟨some 34, .call ⟨.value (.func 9), #[(.tmp 21), (.tmp 23), (.tmp 25), (.tmp 27), (.tmp 29), (.tmp 33)], #[25, 3, 9, 3, 3, 23]⟩, true, none⟩]) <|
 .seq (.ops [⟨some 20, .move (.tmp 34), false, none⟩]) <|
 .seq (.ops [⟨some 35, .extract (.tmp 20) 0, false, none⟩]) <|
 .seq (.ops [⟨some 36, .extract (.tmp 20) 1, false, none⟩]) <|
 .seq (.ops [⟨some 8, .assign (.tmp 35), false, none⟩]) <|
 .seq (.ops [⟨some 10, .assign (.tmp 36), false, none⟩]) <|
 .skip) (.seq (.ops [⟨some 33, .call ⟨.builtin .append, #[(.tmp 30), (.tmp 32)], #[23, 23]⟩, true, none⟩]) <|
 .seq (.ops [⟨some 23, .load 3 (.tmp 22), false, none⟩]) <|
 .seq (.ops [⟨some 34, .call ⟨.value (.func 9), #[(.tmp 21), (.tmp 23), (.tmp 25), (.tmp 27), (.tmp 29), (.tmp 33)], #[25, 3, 9, 3, 3, 23]⟩, true, none⟩]) <|
 .seq (.ops [⟨some 20, .move (.tmp 34), false, none⟩]) <|
 .seq (.ops [⟨some 35, .extract (.tmp 20) 0, false, none⟩]) <|
 .seq (.ops [⟨some 36, .extract (.tmp 20) 1, false, none⟩]) <|
 .seq (.ops [⟨some 8, .assign (.tmp 35), false, none⟩]) <|
 .seq (.ops [⟨some 10, .assign (.tmp 36), false, none⟩]) <|
 .skip))) (.amb (.seq (.ops [⟨some 30, .buildSlice 23 0 #[], true, none⟩]) <|
 .seq (.ops [⟨some 32, .load 23 (.tmp 31), false, none⟩]) <|
 .amb (.seq (.ops [⟨some 23, .load 3 (.tmp 22), false, none⟩]) <|
 .amb (.seq (.ops [⟨some 29, .load 3 (.tmp 28), false, none⟩]) <|
 .seq (.ops [⟨some 33, .call ⟨.builtin .append, #[(.tmp 30), (.tmp 32)], #[23, 23]⟩, true, none⟩]) <|
 .seq (.ops [⟨some 34, .call ⟨.value (.func 9), #[(.tmp 21), (.tmp 23), (.tmp 25), (.tmp 27), (.tmp 29), (.tmp 33)], #[25, 3, 9, 3, 3, 23]⟩, true, none⟩]) <|
 .seq (.ops [⟨some 20, .move (.tmp 34), false, none⟩]) <|
 .seq (.ops [⟨some 35, .extract (.tmp 20) 0, false, none⟩]) <|
 .seq (.ops [⟨some 36, .extract (.tmp 20) 1, false, none⟩]) <|
 .seq (.ops [⟨some 8, .assign (.tmp 35), false, none⟩]) <|
 .seq (.ops [⟨some 10, .assign (.tmp 36), false, none⟩]) <|
 .skip) (.seq (.ops [⟨some 33, .call ⟨.builtin .append, #[(.tmp 30), (.tmp 32)], #[23, 23]⟩, true, none⟩]) <|
 .seq (.ops [⟨some 29, .load 3 (.tmp 28), false, none⟩]) <|
 .seq (.ops [⟨some 34, .call ⟨.value (.func 9), #[(.tmp 21), (.tmp 23), (.tmp 25), (.tmp 27), (.tmp 29), (.tmp 33)], #[25, 3, 9, 3, 3, 23]⟩, true, none⟩]) <|
 .seq (.ops [⟨some 20, .move (.tmp 34), false, none⟩]) <|
 .seq (.ops [⟨some 35, .extract (.tmp 20) 0, false, none⟩]) <|
 .seq (.ops [⟨some 36, .extract (.tmp 20) 1, false, none⟩]) <|
 .seq (.ops [⟨some 8, .assign (.tmp 35), false, none⟩]) <|
 .seq (.ops [⟨some 10, .assign (.tmp 36), false, none⟩]) <|
 .skip)) (.amb (.seq (.ops [⟨some 29, .load 3 (.tmp 28), false, none⟩]) <|
 .seq (.ops [⟨some 33, .call ⟨.builtin .append, #[(.tmp 30), (.tmp 32)], #[23, 23]⟩, true, none⟩]) <|
 .seq (.ops [⟨some 23, .load 3 (.tmp 22), false, none⟩]) <|
 .seq (.ops [⟨some 34, .call ⟨.value (.func 9), #[(.tmp 21), (.tmp 23), (.tmp 25), (.tmp 27), (.tmp 29), (.tmp 33)], #[25, 3, 9, 3, 3, 23]⟩, true, none⟩]) <|
 .seq (.ops [⟨some 20, .move (.tmp 34), false, none⟩]) <|
 .seq (.ops [⟨some 35, .extract (.tmp 20) 0, false, none⟩]) <|
 .seq (.ops [⟨some 36, .extract (.tmp 20) 1, false, none⟩]) <|
 .seq (.ops [⟨some 8, .assign (.tmp 35), false, none⟩]) <|
 .seq (.ops [⟨some 10, .assign (.tmp 36), false, none⟩]) <|
 .skip) (.seq (.ops [⟨some 33, .call ⟨.builtin .append, #[(.tmp 30), (.tmp 32)], #[23, 23]⟩, true, none⟩]) <|
 .seq (.ops [⟨some 23, .load 3 (.tmp 22), false, none⟩]) <|
 .seq (.ops [⟨some 29, .load 3 (.tmp 28), false, none⟩]) <|
 .seq (.ops [⟨some 34, .call ⟨.value (.func 9), #[(.tmp 21), (.tmp 23), (.tmp 25), (.tmp 27), (.tmp 29), (.tmp 33)], #[25, 3, 9, 3, 3, 23]⟩, true, none⟩]) <|
 .seq (.ops [⟨some 20, .move (.tmp 34), false, none⟩]) <|
 .seq (.ops [⟨some 35, .extract (.tmp 20) 0, false, none⟩]) <|
 .seq (.ops [⟨some 36, .extract (.tmp 20) 1, false, none⟩]) <|
 .seq (.ops [⟨some 8, .assign (.tmp 35), false, none⟩]) <|
 .seq (.ops [⟨some 10, .assign (.tmp 36), false, none⟩]) <|
 .skip))) (.seq (.ops [⟨some 32, .load 23 (.tmp 31), false, none⟩]) <|
 .seq (.ops [⟨some 30, .buildSlice 23 0 #[], true, none⟩]) <|
 .amb (.seq (.ops [⟨some 23, .load 3 (.tmp 22), false, none⟩]) <|
 .amb (.seq (.ops [⟨some 29, .load 3 (.tmp 28), false, none⟩]) <|
 .seq (.ops [⟨some 33, .call ⟨.builtin .append, #[(.tmp 30), (.tmp 32)], #[23, 23]⟩, true, none⟩]) <|
 .seq (.ops [⟨some 34, .call ⟨.value (.func 9), #[(.tmp 21), (.tmp 23), (.tmp 25), (.tmp 27), (.tmp 29), (.tmp 33)], #[25, 3, 9, 3, 3, 23]⟩, true, none⟩]) <|
 .seq (.ops [⟨some 20, .move (.tmp 34), false, none⟩]) <|
 .seq (.ops [⟨some 35, .extract (.tmp 20) 0, false, none⟩]) <|
 .seq (.ops [⟨some 36, .extract (.tmp 20) 1, false, none⟩]) <|
 .seq (.ops [⟨some 8, .assign (.tmp 35), false, none⟩]) <|
 .seq (.ops [⟨some 10, .assign (.tmp 36), false, none⟩]) <|
 .skip) (.seq (.ops [⟨some 33, .call ⟨.builtin .append, #[(.tmp 30), (.tmp 32)], #[23, 23]⟩, true, none⟩]) <|
 .seq (.ops [⟨some 29, .load 3 (.tmp 28), false, none⟩]) <|
 .seq (.ops [⟨some 34, .call ⟨.value (.func 9), #[(.tmp 21), (.tmp 23), (.tmp 25), (.tmp 27), (.tmp 29), (.tmp 33)], #[25, 3, 9, 3, 3, 23]⟩, true, none⟩]) <|
 .seq (.ops [⟨some 20, .move (.tmp 34), false, none⟩]) <|
 .seq (.ops [⟨some 35, .extract (.tmp 20) 0, false, none⟩]) <|
 .seq (.ops [⟨some 36, .extract (.tmp 20) 1, false, none⟩]) <|
 .seq (.ops [⟨some 8, .assign (.tmp 35), false, none⟩]) <|
 .seq (.ops [⟨some 10, .assign (.tmp 36), false, none⟩]) <|
 .skip)) (.amb (.seq (.ops [⟨some 29, .load 3 (.tmp 28), false, none⟩]) <|
 .seq (.ops [⟨some 33, .call ⟨.builtin .append, #[(.tmp 30), (.tmp 32)], #[23, 23]⟩, true, none⟩]) <|
 .seq (.ops [⟨some 23, .load 3 (.tmp 22), false, none⟩]) <|
 .seq (.ops [⟨some 34, .call ⟨.value (.func 9), #[(.tmp 21), (.tmp 23), (.tmp 25), (.tmp 27), (.tmp 29), (.tmp 33)], #[25, 3, 9, 3, 3, 23]⟩, true, none⟩]) <|
 .seq (.ops [⟨some 20, .move (.tmp 34), false, none⟩]) <|
 .seq (.ops [⟨some 35, .extract (.tmp 20) 0, false, none⟩]) <|
 .seq (.ops [⟨some 36, .extract (.tmp 20) 1, false, none⟩]) <|
 .seq (.ops [⟨some 8, .assign (.tmp 35), false, none⟩]) <|
 .seq (.ops [⟨some 10, .assign (.tmp 36), false, none⟩]) <|
 .skip) (.seq (.ops [⟨some 33, .call ⟨.builtin .append, #[(.tmp 30), (.tmp 32)], #[23, 23]⟩, true, none⟩]) <|
 .seq (.ops [⟨some 23, .load 3 (.tmp 22), false, none⟩]) <|
 .seq (.ops [⟨some 29, .load 3 (.tmp 28), false, none⟩]) <|
 .seq (.ops [⟨some 34, .call ⟨.value (.func 9), #[(.tmp 21), (.tmp 23), (.tmp 25), (.tmp 27), (.tmp 29), (.tmp 33)], #[25, 3, 9, 3, 3, 23]⟩, true, none⟩]) <|
 .seq (.ops [⟨some 20, .move (.tmp 34), false, none⟩]) <|
 .seq (.ops [⟨some 35, .extract (.tmp 20) 0, false, none⟩]) <|
 .seq (.ops [⟨some 36, .extract (.tmp 20) 1, false, none⟩]) <|
 .seq (.ops [⟨some 8, .assign (.tmp 35), false, none⟩]) <|
 .seq (.ops [⟨some 10, .assign (.tmp 36), false, none⟩]) <|
 .skip))))) (.amb (.seq (.ops [⟨some 29, .load 3 (.tmp 28), false, none⟩]) <|
 .amb (.seq (.ops [⟨some 30, .buildSlice 23 0 #[], true, none⟩]) <|
 .seq (.ops [⟨some 32, .load 23 (.tmp 31), false, none⟩]) <|
 .amb (.seq (.ops [⟨some 23, .load 3 (.tmp 22), false, none⟩]) <|
 .amb (.seq (.ops [⟨some 27, .load 3 (.tmp 26), false, none⟩]) <|
 .seq (.ops [⟨some 33, .call ⟨.builtin .append, #[(.tmp 30), (.tmp 32)], #[23, 23]⟩, true, none⟩]) <|
 .seq (.ops [⟨some 34, .call ⟨.value (.func 9), #[(.tmp 21), (.tmp 23), (.tmp 25), (.tmp 27), (.tmp 29), (.tmp 33)], #[25, 3, 9, 3, 3, 23]⟩, true, none⟩]) <|
 .seq (.ops [⟨some 20, .move (.tmp 34), false, none⟩]) <|
 .seq (.ops [⟨some 35, .extract (.tmp 20) 0, false, none⟩]) <|
 .seq (.ops [⟨some 36, .extract (.tmp 20) 1, false, none⟩]) <|
 .seq (.ops [⟨some 8, .assign (.tmp 35), false, none⟩]) <|
 .seq (.ops [⟨some 10, .assign (.tmp 36), false, none⟩]) <|
 .skip) (.seq (.ops [⟨some 33, .call ⟨.builtin .append, #[(.tmp 30), (.tmp 32)], #[23, 23]⟩, true, none⟩]) <|
 .seq (.ops [⟨some 27, .load 3 (.tmp 26), false, none⟩]) <|
 .seq (.ops [⟨some 34, .call ⟨.value (.func 9), #[(.tmp 21), (.tmp 23), (.tmp 25), (.tmp 27), (.tmp 29), (.tmp 33)], #[25, 3, 9, 3, 3, 23]⟩, true, none⟩]) <|
 .seq (.ops [⟨some 20, .move (.tmp 34), false, none⟩]) <|
 .seq (.ops [⟨some 35, .extract (.tmp 20) 0, false, none⟩]) <|
 .seq (.ops [⟨some 36, .extract (.tmp 20) 1, false, none⟩]) <|
 .seq (.ops [⟨some 8, .assign (.tmp 35), false, none⟩]) <|
 .seq (.ops [⟨some 10, .assign (.tmp 36), false, none⟩]) <|
 .skip)) (.amb (.seq (.ops [⟨some 27, .load 3 (.tmp 26), false, none⟩]) <|
 .seq (.ops [⟨some 33, .call ⟨.builtin .append, #[(.tmp 30), (.tmp 32)], #[23, 23]⟩, true, none⟩]) <|
 .seq (.ops [⟨some 23, .load 3 (.tmp 22), false, none⟩]) <|
 .seq (.ops [⟨some 34, .call ⟨.value (.func 9), #[(.tmp 21), (.tmp 23), (.tmp 25), (.tmp 27), (.tmp 29), (.tmp 33)], #[25, 3, 9, 3, 3, 23]⟩, true, none⟩]) <|
 .seq (.ops [⟨some 20, .move (.tmp 34), false, none⟩]) <|
 .seq (.ops [⟨some 35, .extract (.tmp 20) 0, false, none⟩]) <|
 .seq (.ops [⟨some 36, .extract (.tmp 20) 1, false, none⟩]) <|
 .seq (.ops [⟨some 8, .assign (.tmp 35), false, none⟩]) <|
 .seq (.ops [⟨some 10, .assign (.tmp 36), false, none⟩]) <|
 .skip) (.seq (.ops [⟨some 33, .call ⟨.builtin .append, #[(.tmp 30), (.tmp 32)], #[23, 23]⟩, true, none⟩]) <|
 .seq (.ops [⟨some 23, .load 3 (.tmp 22), false, none⟩]) <|
 .seq (.ops [⟨some 27, .load 3 (.tmp 26), false, none⟩]) <|
 .seq (.ops [⟨some 34, .call ⟨.value (.func 9), #[(.tmp 21), (.tmp 23), (.tmp 25), (.tmp 27), (.tmp 29), (.tmp 33)], #[25, 3, 9, 3, 3, 23]⟩, true, none⟩]) <|
 .seq (.ops [⟨some 20, .move (.tmp 34), false, none⟩]) <|
 .seq (.ops [⟨some 35, .extract (.tmp 20) 0, false, none⟩]) <|
 .seq (.ops [⟨some 36, .extract (.tmp 20) 1, false, none⟩]) <|
 .seq (.ops [⟨some 8, .assign (.tmp 35), false, none⟩]) <|
 .seq (.ops [⟨some 10, .assign (.tmp 36), false, none⟩]) <|
 .skip))) (.seq (.ops [⟨some 32, .load 23 (.tmp 31), false, none⟩]) <|
 .seq (.ops [⟨some 30, .buildSlice 23 0 #[], true, none⟩]) <|
 .amb (.seq (.ops [⟨some 23, .load 3 (.tmp 22), false, none⟩]) <|
 .amb (.seq (.ops [⟨some 27, .load 3 (.tmp 26), false, none⟩]) <|
 .seq (.ops [⟨some 33, .call ⟨.builtin .append, #[(.tmp 30), (.tmp 32)], #[23, 23]⟩, true, none⟩]) <|
 .seq (.ops [⟨some 34, .call ⟨.value (.func 9), #[(.tmp 21), (.tmp 23), (.tmp 25), (.tmp 27), (.tmp 29), (.tmp 33)], #[25, 3, 9, 3, 3, 23]⟩, true, none⟩]) <|
 .seq (.ops [⟨some 20, .move (.tmp 34), false, none⟩]) <|
 .seq (.ops [⟨some 35, .extract (.tmp 20) 0, false, none⟩]) <|
 .seq (.ops [⟨some 36, .extract (.tmp 20) 1, false, none⟩]) <|
 .seq (.ops [⟨some 8, .assign (.tmp 35), false, none⟩]) <|
 .seq (.ops [⟨some 10, .assign (.tmp 36), false, none⟩]) <|
 .skip) (.seq (.ops [⟨some 33, .call ⟨.builtin .append, #[(.tmp 30), (.tmp 32)], #[23, 23]⟩, true, none⟩]) <|
 .seq (.ops [⟨some 27, .load 3 (.tmp 26), false, none⟩]) <|
 .seq (.ops [⟨some 34, .call ⟨.value (.func 9), #[(.tmp 21), (.tmp 23), (.tmp 25), (.tmp 27), (.tmp 29), (.tmp 33)], #[25, 3, 9, 3, 3, 23]⟩, true, none⟩]) <|
 .seq (.ops [⟨some 20, .move (.tmp 34), false, none⟩]) <|
 .seq (.ops [⟨some 35, .extract (.tmp 20) 0, false, none⟩]) <|
 .seq (.ops [⟨some 36, .extract (.tmp 20) 1, false, none⟩]) <|
 .seq (.ops [⟨some 8, .assign (.tmp 35), false, none⟩]) <|
 .seq (.ops [⟨some 10, .assign (.tmp 36), false, none⟩]) <|
 .skip)) (.amb (.seq (.ops [⟨some 27, .load 3 (.tmp 26), false, none⟩]) <|
 .seq (.ops [⟨some 33, .call ⟨.builtin .append, #[(.tmp 30), (.tmp 32)], #[23, 23]⟩, true, none⟩]) <|
 .seq (.ops [⟨some 23, .load 3 (.tmp 22), false, none⟩]) <|
 .seq (.ops [⟨some 34, .call ⟨.value (.func 9), #[(.tmp 21), (.tmp 23), (.tmp 25), (.tmp 27), (.tmp 29), (.tmp 33)], #[25, 3, 9, 3, 3, 23]⟩, true, none⟩]) <|
 .seq (.ops [⟨some 20, .move (.tmp 34), false, none⟩]) <|
 .seq (.ops [⟨some 35, .extract (.tmp 20) 0, false, none⟩]) <|
 .seq (.ops [⟨some 36, .extract (.tmp 20) 1, false, none⟩]) <|
 .seq (.ops [⟨some 8, .assign (.tmp 35), false, none⟩]) <|
 .seq (.ops [⟨some 10, .assign (.tmp 36), false, none⟩]) <|
 .skip) (.seq (.ops [⟨some 33, .call ⟨.builtin .append, #[(.tmp 30), (.tmp 32)], #[23, 23]⟩, true, none⟩]) <|
 .seq (.ops [⟨some 23, .load 3 (.tmp 22), false, none⟩]) <|
 .seq (.ops [⟨some 27, .load 3 (.tmp 26), false, none⟩]) <|
 .seq (.ops [⟨some 34, .call ⟨.value (.func 9), #[(.tmp 21), (.tmp 23), (.tmp 25), (.tmp 27), (.tmp 29), (.tmp 33)], #[25, 3, 9, 3, 3, 23]⟩, true, none⟩]) <|
 .seq (.ops [⟨some 20, .move (.tmp 34), false, none⟩]) <|
 .seq (.ops [⟨some 35, .extract (.tmp 20) 0, false, none⟩]) <|
 .seq (.ops [⟨some 36, .extract (.tmp 20) 1, false, none⟩]) <|
 .seq (.ops [⟨some 8, .assign (.tmp 35), false, none⟩]) <|
 .seq (.ops [⟨some 10, .assign (.tmp 36), false, none⟩]) <|
 .skip)))) (.amb (.seq (.ops [⟨some 30, .buildSlice 23 0 #[], true, none⟩]) <|
 .seq (.ops [⟨some 32, .load 23 (.tmp 31), false, none⟩]) <|
 .amb (.seq (.ops [⟨some 23, .load 3 (.tmp 22), false, none⟩]) <|
 .amb (.seq (.ops [⟨some 27, .load 3 (.tmp 26), false, none⟩]) <|
 .amb (.seq (.ops [⟨some 29, .load 3 (.tmp 28), false, none⟩]) <|
 .seq (.ops [⟨some 33, .call ⟨.builtin .append, #[(.tmp 30), (.tmp 32)], #[23, 23]⟩, true, none⟩]) <|
 .seq (.ops [⟨some 34, .call ⟨.value (.func 9), #[(.tmp 21), (.tmp 23), (.tmp 25), (.tmp 27), (.tmp 29), (.tmp 33)], #[25, 3, 9, 3, 3, 23]⟩, true, none⟩]) <|
 .seq (.ops [⟨some 20, .move (.tmp 34), false, none⟩]) <|
 .seq (.ops [⟨some 35, .extract (.tmp 20) 0, false, none⟩]) <|
 .seq (.ops [⟨some 36, .extract (.tmp 20) 1, false, none⟩]) <|
 .seq (.ops [⟨some 8, .assign (.tmp 35), false, none⟩]) <|
 .seq (.ops [⟨some 10, .assign (.tmp 36), false, none⟩]) <|
 .skip) (.seq (.ops [⟨some 33, .call ⟨.builtin .append, #[(.tmp 30), (.tmp 32)], #[23, 23]⟩, true, none⟩]) <|
 .seq (.ops [⟨some 29, .load 3 (.tmp 28), false, none⟩]) <|
 .seq (.ops [⟨some 34, .call ⟨.value (.func 9), #[(.tmp 21), (.tmp 23), (.tmp 25), (.tmp 27), (.tmp 29), (.tmp 33)], #[25, 3, 9, 3, 3, 23]⟩, true, none⟩]) <|
 .seq (.ops [⟨some 20, .move (.tmp 34), false, none⟩]) <|
 .seq (.ops [⟨some 35, .extract (.tmp 20) 0, false, none⟩]) <|
 .seq (.ops [⟨some 36, .extract (.tmp 20) 1, false, none⟩]) <|
 .seq (.ops [⟨some 8, .assign (.tmp 35), false, none⟩]) <|
 .seq (.ops [⟨some 10, .assign (.tmp 36), false, none⟩]) <|
 .skip)) (.amb (.seq (.ops [⟨some 29, .load 3 (.tmp 28), false, none⟩]) <|
 .seq (.ops [⟨some 33, .call ⟨.builtin .append, #[(.tmp 30), (.tmp 32)], #[23, 23]⟩, true, none⟩]) <|
 .seq (.ops [⟨some 27, .load 3 (.tmp 26), false, none⟩]) <|
 .seq (.ops [⟨some 34, .call ⟨.value (.func 9), #[(.tmp 21), (.tmp 23), (.tmp 25), (.tmp 27), (.tmp 29), (.tmp 33)], #[25, 3, 9, 3, 3, 23]⟩, true, none⟩]) <|
 .seq (.ops [⟨some 20, .move (.tmp 34), false, none⟩]) <|
 .seq (.ops [⟨some 35, .extract (.tmp 20) 0, false, none⟩]) <|
 .seq (.ops [⟨some 36, .extract (.tmp 20) 1, false, none⟩]) <|
 .seq (.ops [⟨some 8, .assign (.tmp 35), false, none⟩]) <|
 .seq (.ops [⟨some 10, .assign (.tmp 36), false, none⟩]) <|
 .skip) (.seq (.ops [⟨some 33, .call ⟨.builtin .append, #[(.tmp 30), (.tmp 32)], #[23, 23]⟩, true, none⟩]) <|
 .seq (.ops [⟨some 27, .load 3 (.tmp 26), false, none⟩]) <|
 .seq (.ops [⟨some 29, .load 3 (.tmp 28), false, none⟩]) <|
 .seq (.ops [⟨some 34, .call ⟨.value (.func 9), #[(.tmp 21), (.tmp 23), (.tmp 25), (.tmp 27), (.tmp 29), (.tmp 33)], #[25, 3, 9, 3, 3, 23]⟩, true, none⟩]) <|
 .seq (.ops [⟨some 20, .move (.tmp 34), false, none⟩]) <|
 .seq (.ops [⟨some 35, .extract (.tmp 20) 0, false, none⟩]) <|
 .seq (.ops [⟨some 36, .extract (.tmp 20) 1, false, none⟩]) <|
 .seq (.ops [⟨some 8, .assign (.tmp 35), false, none⟩]) <|
 .seq (.ops [⟨some 10, .assign (.tmp 36), false, none⟩]) <|
 .skip))) (.amb (.seq (.ops [⟨some 27, .load 3 (.tmp 26), false, none⟩]) <|
 .amb (.seq (.ops [⟨some 29, .load 3 (.tmp 28), false, none⟩]) <|
 .seq (.ops [⟨some 33, .call ⟨.builtin .append, #[(.tmp 30), (.tmp 32)], #[23, 23]⟩, true, none⟩]) <|
 .seq (.ops [⟨some 23, .load 3 (.tmp 22), false, none⟩]) <|
 .seq (.ops [⟨some 34, .call ⟨.value (.func 9), #[(.tmp 21), (.tmp 23), (.tmp 25), (.tmp 27), (.tmp 29), (.tmp 33)], #[25, 3, 9, 3, 3, 23]⟩, true, none⟩]) <|
 .seq (.ops [⟨some 20, .move (.tmp 34), false, none⟩]) <|
 .seq (.ops [⟨some 35, .extract (.tmp 20) 0, false, none⟩]) <|
 .seq (.ops [⟨some 36, .extract (.tmp 20) 1, false, none⟩]) <|
 .seq (.ops [⟨some 8, .assign (.tmp 35), false, none⟩]) <|
 .seq (.ops [⟨some 10, .assign (.tmp 36), false, none⟩]) <|
 .skip) (.seq (.ops [⟨some 33, .call ⟨.builtin .append, #[(.tmp 30), (.tmp 32)], #[23, 23]⟩, true, none⟩]) <|
 .seq (.ops [⟨some 23, .load 3 (.tmp 22), false, none⟩]) <|
 .seq (.ops [⟨some 29, .load 3 (.tmp 28), false, none⟩]) <|
 .seq (.ops [⟨some 34, .call ⟨.value (.func 9), #[(.tmp 21), (.tmp 23), (.tmp 25), (.tmp 27), (.tmp 29), (.tmp 33)], #[25, 3, 9, 3, 3, 23]⟩, true, none⟩]) <|
 .seq (.ops [⟨some 20, .move (.tmp 34), false, none⟩]) <|
 .seq (.ops [⟨some 35, .extract (.tmp 20) 0, false, none⟩]) <|
 .seq (.ops [⟨some 36, .extract (.tmp 20) 1, false, none⟩]) <|
 .seq (.ops [⟨some 8, .assign (.tmp 35), false, none⟩]) <|
 .seq (.ops [⟨some 10, .assign (.tmp 36), false, none⟩]) <|
 .skip)) (.amb (.seq (.ops [⟨some 29, .load 3 (.tmp 28), false, none⟩]) <|
 .seq (.ops [⟨some 33, .call ⟨.builtin .append, #[(.tmp 30), (.tmp 32)], #[23, 23]⟩, true, none⟩]) <|
 .seq (.ops [⟨some 23, .load 3 (.tmp 22), false, none⟩]) <|
 .seq (.ops [⟨some 27, .load 3 (.tmp 26), false, none⟩]) <|
 .seq (.ops [⟨some 34, .call ⟨.value (.func 9), #[(.tmp 21), (.tmp 23), (.tmp 25), (.tmp 27), (.tmp 29), (.tmp 33)], #[25, 3, 9, 3, 3, 23]⟩, true, none⟩]) <|
 .seq (.ops [⟨some 20, .move (.tmp 34), false, none⟩]) <|
 .seq (.ops [⟨some 35, .extract (.tmp 20) 0, false, none⟩]) <|
 .seq (.ops [⟨some 36, .extract (.tmp 20) 1, false, none⟩]) <|
 .seq (.ops [⟨some 8, .assign (.tmp 35), false, none⟩]) <|
 .seq (.ops [⟨some 10, .assign (.tmp 36), false, none⟩]) <|
 .skip) (.seq (.ops [⟨some 33, .call ⟨.builtin .append, #[(.tmp 30), (.tmp 32)], #[23, 23]⟩, true, none⟩]) <|
 .seq (.ops [⟨some 23, .load 3 (.tmp 22), false, none⟩]) <|
 .seq (.ops [⟨some 27, .load 3 (.tmp 26), false, none⟩]) <|
 .seq (.ops [⟨some 29, .load 3 (.tmp 28), false, none⟩]) <|
 .seq (.ops [⟨some 34, .call ⟨.value (.func 9), #[(.tmp 21), (.tmp 23), (.tmp 25), (.tmp 27), (.tmp 29), (.tmp 33)], #[25, 3, 9, 3, 3, 23]⟩, true, none⟩]) <|
 .seq (.ops [⟨some 20, .move (.tmp 34), false, none⟩]) <|
 .seq (.ops [⟨some 35, .extract (.tmp 20) 0, false, none⟩]) <|
 .seq (.ops [⟨some 36, .extract (.tmp 20) 1, false, none⟩]) <|
 .seq (.ops [⟨some 8, .assign (.tmp 35), false, none⟩]) <|
 .seq (.ops [⟨some 10, .assign (.tmp 36), false, none⟩]) <|
 .skip)))) (.seq (.ops [⟨some 32, .load 23 (.tmp 31), false, none⟩]) <|
 .seq (.ops [⟨some 30, .buildSlice 23 0 #[], true, none⟩]) <|
 .amb (.seq (.ops [⟨some 23, .load 3 (.tmp 22), false, none⟩]) <|
 .amb (.seq (.ops [⟨some 27, .load 3 (.tmp 26), false, none⟩]) <|
 .amb (.seq (.ops [⟨some 29, .load 3 (.tmp 28), false, none⟩]) <|
 .seq (.ops [⟨some 33, .call ⟨.builtin .append, #[(.tmp 30), (.tmp 32)], #[23, 23]⟩, true, none⟩]) <|
 .seq (.ops [⟨some 34, .call ⟨.value (.func 9), #[(.tmp 21), (.tmp 23), (.tmp 25), (.tmp 27), (.tmp 29), (.tmp 33)], #[25, 3, 9, 3, 3, 23]⟩, true, none⟩]) <|
 .seq (.ops [⟨some 20, .move (.tmp 34), false, none⟩]) <|
 .seq (.ops [⟨some 35, .extract (.tmp 20) 0, false, none⟩]) <|
 .seq (.ops [⟨some 36, .extract (.tmp 20) 1, false, none⟩]) <|
 .seq (.ops [⟨some 8, .assign (.tmp 35), false, none⟩]) <|
 .seq (.ops [⟨some 10, .assign (.tmp 36), false, none⟩]) <|
 .skip) (.seq (.ops [⟨some 33, .call ⟨.builtin .append, #[(.tmp 30), (.tmp 32)], #[23, 23]⟩, true, none⟩]) <|
 .seq (.ops [⟨some 29, .load 3 (.tmp 28), false, none⟩]) <|
 .seq (.ops [⟨some 34, .call ⟨.value (.func 9), #[(.tmp 21), (.tmp 23), (.tmp 25), (.tmp 27), (.tmp 29), (.tmp 33)], #[25, 3, 9, 3, 3, 23]⟩, true, none⟩]) <|
 .seq (.ops [⟨some 20, .move (.tmp 34), false, none⟩]) <|
 .seq (.ops [⟨some 35, .extract (.tmp 20) 0, false, none⟩]) <|
 .seq (.ops [⟨some 36, .extract (.tmp 20) 1, false, none⟩]) <|
 .seq (.ops [⟨some 8, .assign (.tmp 35), false, none⟩]) <|
 .seq (.ops [⟨some 10, .assign (.tmp 36), false, none⟩]) <|
 .skip)) (.amb (.seq (.ops [⟨some 29, .load 3 (.tmp 28), false, none⟩]) <|
 .seq (.ops [⟨some 33, .call ⟨.builtin .append, #[(.tmp 30), (.tmp 32)], #[23, 23]⟩, true, none⟩]) <|
 .seq (.ops [⟨some 27, .load 3 (.tmp 26), false, none⟩]) <|
 .seq (.ops [⟨some 34, .call ⟨.value (.func 9), #[(.tmp 21), (.tmp 23), (.tmp 25), (.tmp 27), (.tmp 29), (.tmp 33)], #[25, 3, 9, 3, 3, 23]⟩, true, none⟩]) <|
 .seq (.ops [⟨some 20, .move (.tmp 34), false, none⟩]) <|
 .seq (.ops [⟨some 35, .extract (.tmp 20) 0, false, none⟩]) <|
 .seq (.ops [⟨some 36, .extract (.tmp 20) 1, false, none⟩]) <|
 .seq (.ops [⟨some 8, .assign (.tmp 35), false, none⟩]) <|
 .seq (.ops [⟨some 10, .assign (.tmp 36), false, none⟩]) <|
 .skip) (.seq (.ops [⟨some 33, .call ⟨.builtin .append, #[(.tmp 30), (.tmp 32)], #[23, 23]⟩, true, none⟩]) <|
 .seq (.ops [⟨some 27, .load 3 (.tmp 26), false, none⟩]) <|
 .seq (.ops [⟨some 29, .load 3 (.tmp 28), false, none⟩]) <|
 .seq (.ops [⟨some 34, .call ⟨.value (.func 9), #[(.tmp 21), (.tmp 23), (.tmp 25), (.tmp 27), (.tmp 29), (.tmp 33)], #[25, 3, 9, 3, 3, 23]⟩, true, none⟩]) <|
 .seq (.ops [⟨some 20, .move (.tmp 34), false, none⟩]) <|
 .seq (.ops [⟨some 35, .extract (.tmp 20) 0, false, none⟩]) <|
 .seq (.ops [⟨some 36, .extract (.tmp 20) 1, false, none⟩]) <|
 .seq (.ops [⟨some 8, .assign (.tmp 35), false, none⟩]) <|
 .seq (.ops [⟨some 10, .assign (.tmp 36), false, none⟩]) <|
 .skip))) (.amb (.seq (.ops [⟨some 27, .load 3 (.tmp 26), false, none⟩]) <|
 .amb (.seq (.ops [⟨some 29, .load 3 (.tmp 28), false, none⟩]) <|
 .seq (.ops [⟨some 33, .call ⟨.builtin .append, #[(.tmp 30), (.tmp 32)], #[23, 23]⟩, true, none⟩]) <|
 .seq (.ops [⟨some 23, .load 3 (.tmp 22), false, none⟩]) <|
 .seq (.ops [⟨some 34, .call ⟨.value (.func 9), #[(.tmp 21), (.tmp 23), (.tmp 25), (.tmp 27), (.tmp 29), (.tmp 33)], #[25, 3, 9, 3, 3, 23]⟩, true, none⟩]) <|
 .seq (.ops [⟨some 20, .move (.tmp 34), false, none⟩]) <|
 .seq (.ops [⟨some 35, .extract (.tmp 20) 0, false, none⟩]) <|
 .seq (.ops [⟨some 36, .extract (.tmp 20) 1, false, none⟩]) <|
 .seq (.ops [⟨some 8, .assign (.tmp 35), false, none⟩]) <|
 .seq (.ops [⟨some 10, .assign (.tmp 36), false, none⟩]) <|
 .skip) (.seq (.ops [⟨some 33, .call ⟨.builtin .append, #[(.tmp 30), (.tmp 32)], #[23, 23]⟩, true, none⟩]) <|
 .seq (.ops [⟨some 23, .load 3 (.tmp 22), false, none⟩]) <|
 .seq (.ops [⟨some 29, .load 3 (.tmp 28), false, none⟩]) <|
 .seq (.ops [⟨some 34, .call ⟨.value (.func 9), #[(.tmp 21), (.tmp 23), (.tmp 25), (.tmp 27), (.tmp 29), (.tmp 33)], #[25, 3, 9, 3, 3, 23]⟩, true, none⟩]) <|
 .seq (.ops [⟨some 20, .move (.tmp 34), false, none⟩]) <|
 .seq (.ops [⟨some 35, .extract (.tmp 20) 0, false, none⟩]) <|
 .seq (.ops [⟨some 36, .extract (.tmp 20) 1, false, none⟩]) <|
 .seq (.ops [⟨some 8, .assign (.tmp 35), false, none⟩]) <|
 .seq (.ops [⟨some 10, .assign (.tmp 36), false, none⟩]) <|
 .skip)) (.amb (.seq (.ops [⟨some 29, .load 3 (.tmp 28), false, none⟩]) <|
 .seq (.ops [⟨some 33, .call ⟨.builtin .append, #[(.tmp 30), (.tmp 32)], #[23, 23]⟩, true, none⟩]) <|
 .seq (.ops [⟨some 23, .load 3 (.tmp 22), false, none⟩]) <|
 .seq (.ops [⟨some 27, .load 3 (.tmp 26), false, none⟩]) <|
 .seq (.ops [⟨some 34, .call ⟨.value (.func 9), #[(.tmp 21), (.tmp 23), (.tmp 25), (.tmp 27), (.tmp 29), (.tmp 33)], #[25, 3, 9, 3, 3, 23]⟩, true, none⟩]) <|
 .seq (.ops [⟨some 20, .move (.tmp 34), false, none⟩]) <|
 .seq (.ops [⟨some 35, .extract (.tmp 20) 0, false, none⟩]) <|
 .seq (.ops [⟨some 36, .extract (.tmp 20) 1, false, none⟩]) <|
 .seq (.ops [⟨some 8, .assign (.tmp 35), false, none⟩]) <|
 .seq (.ops [⟨some 10, .assign (.tmp 36), false, none⟩]) <|
 .skip) (.seq (.ops [⟨some 33, .call ⟨.builtin .append, #[(.tmp 30), (.tmp 32)], #[23, 23]⟩, true, none⟩]) <|
 .seq (.ops [⟨some 23, .load 3 (.tmp 22), false, none⟩]) <|
 .seq (.ops [⟨some 27, .load 3 (.tmp 26), false, none⟩]) <|
 .seq (.ops [⟨some 29, .load 3 (.tmp 28), false, none⟩]) <|
 .seq (.ops [⟨some 34, .call ⟨.value (.func 9), #[(.tmp 21), (.tmp 23), (.tmp 25), (.tmp 27), (.tmp 29), (.tmp 33)], #[25, 3, 9, 3, 3, 23]⟩, true, none⟩]) <|
 .seq (.ops [⟨some 20, .move (.tmp 34), false, none⟩]) <|
 .seq (.ops [⟨some 35, .extract (.tmp 20) 0, false, none⟩]) <|
 .seq (.ops [⟨some 36, .extract (.tmp 20) 1, false, none⟩]) <|
 .seq (.ops [⟨some 8, .assign (.tmp 35), false, none⟩]) <|
 .seq (.ops [⟨some 10, .assign (.tmp 36), false, none⟩]) <|
 .skip))))))) (.amb (.seq (.ops [⟨some 27, .load 3 (.tmp 26), false, none⟩]) <|
 .amb (.seq (.ops [⟨some 29, .load 3 (.tmp 28), false, none⟩]) <|
 .amb (.seq (.ops [⟨some 30, .buildSlice 23 0 #[], true, none⟩]) <|
 .seq (.ops [⟨some 32, .load 23 (.tmp 31), false, none⟩]) <|
 .amb (.seq (.ops [⟨some 23, .load 3 (.tmp 22), false, none⟩]) <|
 .amb (.seq (.ops [⟨some 25, .load 9 (.tmp 24), false, none⟩]) <|
 .seq (.ops [⟨some 33, .call ⟨.builtin .append, #[(.tmp 30), (.tmp 32)], #[23, 23]⟩, true, none⟩]) <|
 .seq (.ops [⟨some 34, .call ⟨.value (.func 9), #[(.tmp 21), (.tmp 23), (.tmp 25), (.tmp 27), (.tmp 29), (.tmp 33)], #[25, 3, 9, 3, 3, 23]⟩, true, none⟩]) <|
 .seq (.ops [⟨some 20, .move (.tmp 34), false, none⟩]) <|
 .seq (.ops [⟨some 35, .extract (.tmp 20) 0, false, none⟩]) <|
 .seq (.ops [⟨some 36, .extract (.tmp 20) 1, false, none⟩]) <|
 .seq (.ops [⟨some 8, .assign (.tmp 35), false, none⟩]) <|
 .seq (.ops [⟨some 10, .assign (.tmp 36), false, none⟩]) <|
 .skip) (.seq (.ops [⟨some 33, .call ⟨.builtin .append, #[(.tmp 30), (.tmp 32)], #[23, 23]⟩, true, none⟩]) <|
 .seq (.ops [⟨some 25, .load 9 (.tmp 24), false, none⟩]) <|
 .seq (.ops [⟨some 34, .call ⟨.value (.func 9), #[(.tmp 21), (.tmp 23), (.tmp 25), (.tmp 27), (.tmp 29), (.tmp 33)], #[25, 3, 9, 3, 3, 23]⟩, true, none⟩]) <|
 .seq (.ops [⟨some 20, .move (.tmp 34), false, none⟩]) <|
 .seq (.ops [⟨some 35, .extract (.tmp 20) 0, false, none⟩]) <|
 .seq (.ops [⟨some 36, .extract (.tmp 20) 1, false, none⟩]) <|
 .seq (.ops [⟨some 8, .assign (.tmp 35), false, none⟩]) <|
 .seq (.ops [⟨some 10, .assign (.tmp 36), false, none⟩]) <|
 .skip)) (.amb (.seq (.ops [⟨some 25, .load 9 (.tmp 24), false, none⟩]) <|
 .seq (.ops [⟨some 33, .call ⟨.builtin .append, #[(.tmp 30), (.tmp 32)], #[23, 23]⟩, true, none⟩]) <|
 .seq (.ops [⟨some 23, .load 3 (.tmp 22), false, none⟩]) <|
 .seq (.ops [⟨some 34, .call ⟨.value (.func 9), #[(.tmp 21), (.tmp 23), (.tmp 25), (.tmp 27), (.tmp 29), (.tmp 33)], #[25, 3, 9, 3, 3, 23]⟩, true, none⟩]) <|
 .seq (.ops [⟨some 20, .move (.tmp 34), false, none⟩]) <|
 .seq (.ops [⟨some 35, .extract (.tmp 20) 0, false, none⟩]) <|
 .seq (.ops [⟨some 36, .extract (.tmp 20) 1, false, none⟩]) <|
 .seq (.ops [⟨some 8, .assign (.tmp 35), false, none⟩]) <|
 .seq (.ops [⟨some 10, .assign (.tmp 36), false, none⟩]) <|
 .skip) (.seq (.ops [⟨some 33, .call ⟨.builtin .append, #[(.tmp 30), (.tmp 32)], #[23, 23]⟩, true, none⟩]) <|
 .seq (.ops [⟨some 23, .load 3 (.tmp 22), false, none⟩]) <|
 .seq (.ops [⟨some 25, .load 9 (.tmp 24), false, none⟩]) <|
 .seq (.ops [⟨some 34, .call ⟨.value (.func 9), #[(.tmp 21), (.tmp 23), (.tmp 25), (.tmp 27), (.tmp 29), (.tmp 33)], #[25, 3, 9, 3, 3, 23]⟩, true, none⟩]) <|
 .seq (.ops [⟨some 20, .move (.tmp 34), false, none⟩]) <|
 .seq (.ops [⟨some 35, .extract (.tmp 20) 0, false, none⟩]) <|
 .seq (.ops [⟨some 36, .extract (.tmp 20) 1, false, none⟩]) <|
 .seq (.ops [⟨some 8, .assign (.tmp 35), false, none⟩]) <|
 .seq (.ops [⟨some 10, .assign (.tmp 36), false, none⟩]) <|
 .skip))) (.seq (.ops [⟨some 32, .load 23 (.tmp 31), false, none⟩]) <|
 .seq (.ops [⟨some 30, .buildSlice 23 0 #[], true, none⟩]) <|
 .amb (.seq (.ops [⟨some 23, .load 3 (.tmp 22), false, none⟩]) <|
 .amb (.seq (.ops [⟨some 25, .load 9 (.tmp 24), false, none⟩]) <|
 .seq (.ops [⟨some 33, .call ⟨.builtin .append, #[(.tmp 30), (.tmp 32)], #[23, 23]⟩, true, none⟩]) <|
 .seq (.ops [⟨some 34, .call ⟨.value (.func 9), #[(.tmp 21), (.tmp 23), (.tmp 25), (.tmp 27), (.tmp 29), (.tmp 33)], #[25, 3, 9, 3, 3, 23]⟩, true, none⟩]) <|
 .seq (.ops [⟨some 20, .move (.tmp 34), false, none⟩]) <|
 .seq (.ops [⟨some 35, .extract (.tmp 20) 0, false, none⟩]) <|
 .seq (.ops [⟨some 36, .extract (.tmp 20) 1, false, none⟩]) <|
 .seq (.ops [⟨some 8, .assign (.tmp 35), false, none⟩]) <|
 .seq (.ops [⟨some 10, .assign (.tmp 36), false, none⟩]) <|
 .skip) (.seq (.ops [⟨some 33, .call ⟨.builtin .append, #[(.tmp 30), (.tmp 32)], #[23, 23]⟩, true, none⟩]) <|
 .seq (.ops [⟨some 25, .load 9 (.tmp 24), false, none⟩]) <|
 .seq (.ops [⟨some 34, .call ⟨.value (.func 9), #[(.tmp 21), (.tmp 23), (.tmp 25), (.tmp 27), (.tmp 29), (.tmp 33)], #[25, 3, 9, 3, 3, 23]⟩, true, none⟩]) <|
 .seq (.ops [⟨some 20, .move (.tmp 34), false, none⟩]) <|
 .seq (.ops [⟨some 35, .extract (.tmp 20) 0, false, none⟩]) <|
 .seq (.ops [⟨some 36, .extract (.tmp 20) 1, false, none⟩]) <|
 .seq (.ops [⟨some 8, .assign (.tmp 35), false, none⟩]) <|
 .seq (.ops [⟨some 10, .assign (.tmp 36), false, none⟩]) <|
 .skip)) (.amb (.seq (.ops [⟨some 25, .load 9 (.tmp 24), false, none⟩]) <|
 .seq (.ops [⟨some 33, .call ⟨.builtin .append, #[(.tmp 30), (.tmp 32)], #[23, 23]⟩, true, none⟩]) <|
 .seq (.ops [⟨some 23, .load 3 (.tmp 22), false, none⟩]) <|
 .seq (.ops [⟨some 34, .call ⟨.value (.func 9), #[(.tmp 21), (.tmp 23), (.tmp 25), (.tmp 27), (.tmp 29), (.tmp 33)], #[25, 3, 9, 3, 3, 23]⟩, true, none⟩]) <|
 .seq (.ops [⟨some 20, .move (.tmp 34), false, none⟩]) <|
 .seq (.ops [⟨some 35, .extract (.tmp 20) 0, false, none⟩]) <|
 .seq (.ops [⟨some 36, .extract (.tmp 20) 1, false, none⟩]) <|
 .seq (.ops [⟨some 8, .assign (.tmp 35), false, none⟩]) <|
 .seq (.ops [⟨some 10, .assign (.tmp 36), false, none⟩]) <|
 .skip) (.seq (.ops [⟨some 33, .call ⟨.builtin .append, #[(.tmp 30), (.tmp 32)], #[23, 23]⟩, true, none⟩]) <|
 .seq (.ops [⟨some 23, .load 3 (.tmp 22), false, none⟩]) <|
 .seq (.ops [⟨some 25, .load 9 (.tmp 24), false, none⟩]) <|
 .seq (.ops [⟨some 34, .call ⟨.value (.func 9), #[(.tmp 21), (.tmp 23), (.tmp 25), (.tmp 27), (.tmp 29), (.tmp 33)], #[25, 3, 9, 3, 3, 23]⟩, true, none⟩]) <|
 .seq (.ops [⟨some 20, .move (.tmp 34), false, none⟩]) <|
 .seq (.ops [⟨some 35, .extract (.tmp 20) 0, false, none⟩]) <|
 .seq (.ops [⟨some 36, .extract (.tmp 20) 1, false, none⟩]) <|
 .seq (.ops [⟨some 8, .assign (.tmp 35), false, none⟩]) <|
 .seq (.ops [⟨some 10, .assign (.tmp 36), false, none⟩]) <|
 .skip)))) (.amb (.seq (.ops [⟨some 30, .buildSlice 23 0 #[], true, none⟩]) <|
 .seq (.ops [⟨some 32, .load 23 (.tmp 31), false, none⟩]) <|
 .amb (.seq (.ops [⟨some 23, .load 3 (.tmp 22), false, none⟩]) <|
 .amb (.seq (.ops [⟨some 25, .load 9 (.tmp 24), false, none⟩]) <|
 .amb (.seq (.ops [⟨some 29, .load 3 (.tmp 28), false, none⟩]) <|
 .seq (.ops [⟨some 33, .call ⟨.builtin .append, #[(.tmp 30), (.tmp 32)], #[23, 23]⟩, true, none⟩]) <|
 .seq (.ops [⟨some 34, .call ⟨.value (.func 9), #[(.tmp 21), (.tmp 23), (.tmp 25), (.tmp 27), (.tmp 29), (.tmp 33)], #[25, 3, 9, 3, 3, 23]⟩, true, none⟩]) <|
 .seq (.ops [⟨some 20, .move (.tmp 34), false, none⟩]) <|
 .seq (.ops [⟨some 35, .extract (.tmp 20) 0, false, none⟩]) <|
 .seq (.ops [⟨some 36, .extract (.tmp 20) 1, false, none⟩]) <|
 .seq (.ops [⟨some 8, .assign (.tmp 35), false, none⟩]) <|
 .seq (.ops [⟨some 10, .assign (.tmp 36), false, none⟩]) <|
 .skip) (.seq (.ops [⟨some 33, .call ⟨.builtin .append, #[(.tmp 30), (.tmp 32)], #[23, 23]⟩, true, none⟩]) <|
 .seq (.ops [⟨some 29, .load 3 (.tmp 28), false, none⟩]) <|
 .seq (.ops [⟨some 34, .call ⟨.value (.func 9), #[(.tmp 21), (.tmp 23), (.tmp 25), (.tmp 27), (.tmp 29), (.tmp 33)], #[25, 3, 9, 3, 3, 23]⟩, true, none⟩]) <|
 .seq (.ops [⟨some 20, .move (.tmp 34), false, none⟩]) <|
 .seq (.ops [⟨some 35, .extract (.tmp 20) 0, false, none⟩]) <|
 .seq (.ops [⟨some 36, .extract (.tmp 20) 1, false, none⟩]) <|
 .seq (.ops [⟨some 8, .assign (.tmp 35), false, none⟩]) <|
 .seq (.ops [⟨some 10, .assign (.tmp 36), false, none⟩]) <|
 .skip)) (.amb (.seq (.ops [⟨some 29, .load 3 (.tmp 28), false, none⟩]) <|
 .seq (.ops [⟨some 33, .call ⟨.builtin .append, #[(.tmp 30), (.tmp 32)], #[23, 23]⟩, true, none⟩]) <|
 .seq (.ops [⟨some 25, .load 9 (.tmp 24), false, none⟩]) <|
 .seq (.ops [⟨some 34, .call ⟨.value (.func 9), #[(.tmp 21), (.tmp 23), (.tmp 25), (.tmp 27), (.tmp 29), (.tmp 33)], #[25, 3, 9, 3, 3, 23]⟩, true, none⟩]) <|
 .seq (.ops [⟨some 20, .move (.tmp 34), false, none⟩]) <|
 .seq (.ops [⟨some 35, .extract (.tmp 20) 0, false, none⟩]) <|
 .seq (.ops [⟨some 36, .extract (.tmp 20) 1, false, none⟩]) <|
 .seq (.ops [⟨some 8, .assign (.tmp 35), false, none⟩]) <|
 .seq (.ops [⟨some 10, .assign (.tmp 36), false, none⟩]) <|
 .skip) (.seq (.ops [⟨some 33, .call ⟨.builtin .append, #[(.tmp 30), (.tmp 32)], #[23, 23]⟩, true, none⟩]) <|
 .seq (.ops [⟨some 25, .load 9 (.tmp 24), false, none⟩]) <|
 .seq (.ops [⟨some 29, .load 3 (.tmp 28), false, none⟩]) <|
 .seq (.ops [⟨some 34, .call ⟨.value (.func 9), #[(.tmp 21), (.tmp 23), (.tmp 25), (.tmp 27), (.tmp 29), (.tmp 33)], #[25, 3, 9, 3, 3, 23]⟩, true, none⟩]) <|
 .seq (.ops [⟨some 20, .move (.tmp 34), false, none⟩]) <|
 .seq (.ops [⟨some 35, .extract (.tmp 20) 0, false, none⟩]) <|
 .seq (.ops [⟨some 36, .extract (.tmp 20) 1, false, none⟩]) <|
 .seq (.ops [⟨some 8, .assign (.tmp 35), false, none⟩]) <|
 .seq (.ops [⟨some 10, .assign (.tmp 36), false, none⟩]) <|
 .skip))) (.amb (.seq (.ops [⟨some 25, .load 9 (.tmp 24), false, none⟩]) <|
 .amb (.seq (.ops [⟨some 29, .load 3 (.tmp 28), false, none⟩]) <|
 .seq (.ops [⟨some 33, .call ⟨.builtin .append, #[(.tmp 30), (.tmp 32)], #[23, 23]⟩, true, none⟩]) <|
 .seq (.ops [⟨some 23, .load 3 (.tmp 22), false, none⟩]) <|
 .seq (.ops [⟨some 34, .call ⟨.value (.func 9), #[(.tmp 21), (.tmp 23), (.tmp 25), (.tmp 27), (.tmp 29), (.tmp 33)], #[25, 3, 9, 3, 3, 23]⟩, true, none⟩]) <|
 .seq (.ops [⟨some 20, .move (.tmp 34), false, none⟩]) <|
 .seq (.ops [⟨some 35, .extract (.tmp 20) 0, false, none⟩]) <|
 .seq (.ops [⟨some 36, .extract (.tmp 20) 1, false, none⟩]) <|
 .seq (.ops [⟨some 8, .assign (.tmp 35), false, none⟩]) <|
 .seq (.ops [⟨some 10, .assign (.tmp 36), false, none⟩]) <|
 .skip) (.seq (.ops [⟨some 33, .call ⟨.builtin .append, #[(.tmp 30), (.tmp 32)], #[23, 23]⟩, true, none⟩]) <|
 .seq (.ops [⟨some 23, .load 3 (.tmp 22), false, none⟩]) <|
 .seq (.ops [⟨some 29, .load 3 (.tmp 28), false, none⟩]) <|
 .seq (.ops [⟨some 34, .call ⟨.value (.func 9), #[(.tmp 21), (.tmp 23), (.tmp 25), (.tmp 27), (.tmp 29), (.tmp 33)], #[25, 3, 9, 3, 3, 23]⟩, true, none⟩]) <|
 .seq (.ops [⟨some 20, .move (.tmp 34), false, none⟩]) <|
 .seq (.ops [⟨some 35, .extract (.tmp 20) 0, false, none⟩]) <|
 .seq (.ops [⟨some 36, .extract (.tmp 20) 1, false, none⟩]) <|
 .seq (.ops [⟨some 8, .assign (.tmp 35), false, none⟩]) <|
 .seq (.ops [⟨some 10, .assign (.tmp 36), false, none⟩]) <|
 .skip)) (.amb (.seq (.ops [⟨some 29, .load 3 (.tmp 28), false, none⟩]) <|
 .seq (.ops [⟨some 33, .call ⟨.builtin .append, #[(.tmp 30), (.tmp 32)], #[23, 23]⟩, true, none⟩]) <|
 .seq (.ops [⟨some 23, .load 3 (.tmp 22), false, none⟩]) <|
 .seq (.ops [⟨some 25, .load 9 (.tmp 24), false, none⟩]) <|
 .seq (.ops [⟨some 34, .call ⟨.value (.func 9), #[(.tmp 21), (.tmp 23), (.tmp 25), (.tmp 27), (.tmp 29), (.tmp 33)], #[25, 3, 9, 3, 3, 23]⟩, true, none⟩]) <|
 .seq (.ops [⟨some 20, .move (.tmp 34), false, none⟩]) <|
 .seq (.ops [⟨some 35, .extract (.tmp 20) 0, false, none⟩]) <|
 .seq (.ops [⟨some 36, .extract (.tmp 20) 1, false, none⟩]) <|
 .seq (.ops [⟨some 8, .assign (.tmp 35), false, none⟩]) <|
 .seq (.ops [⟨some 10, .assign (.tmp 36), false, none⟩]) <|
 .skip) (.seq (.ops [⟨some 33, .call ⟨.builtin .append, #[(.tmp 30), (.tmp 32)], #[23, 23]⟩, true, none⟩]) <|
 .seq (.ops [⟨some 23, .load 3 (.tmp 22), false, none⟩]) <|
 .seq (.ops [⟨some 25, .load 9 (.tmp 24), false, none⟩]) <|
 .seq (.ops [⟨some 29, .load 3 (.tmp 28), false, none⟩]) <|
 .seq (.ops [⟨some 34, .call ⟨.value (.func 9), #[(.tmp 21), (.tmp 23), (.tmp 25), (.tmp 27), (.tmp 29), (.tmp 33)], #[25, 3, 9, 3, 3, 23]⟩, true, none⟩]) <|
 .seq (.ops [⟨some 20, .move (.tmp 34), false, none⟩]) <|
 .seq (.ops [⟨some 35, .extract (.tmp 20) 0, false, none⟩]) <|
 .seq (.ops [⟨some 36, .extract (.tmp 20) 1, false, none⟩]) <|
 .seq (.ops [⟨some 8, .assign (.tmp 35), false, none⟩]) <|
 .seq (.ops [⟨some 10, .assign (.tmp 36), false, none⟩]) <|
 .skip)))) (.seq (.ops [⟨some 32, .load 23 (.tmp 31), false, none⟩]) <|
 .seq (.ops [⟨some 30, .buildSlice 23 0 #[], true, none⟩]) <|
 .amb (.seq (.ops [⟨some 23, .load 3 (.tmp 22), false, none⟩]) <|
 .amb (.seq (.ops [⟨some 25, .load 9 (.tmp 24), false, none⟩]) <|
 .amb (.seq (.ops [⟨some 29, .load 3 (.tmp 28), false, none⟩]) <|
 .seq (.ops [⟨some 33, .call ⟨.builtin .append, #[(.tmp 30), (.tmp 32)], #[23, 23]⟩, true, none⟩]) <|
 .seq (.ops [⟨some 34, .call ⟨.value (.func 9), #[(.tmp 21), (.tmp 23), (.tmp 25), (.tmp 27), (.tmp 29), (.tmp 33)], #[25, 3, 9, 3, 3, 23]⟩, true, none⟩]) <|
 .seq (.ops [⟨some 20, .move (.tmp 34), false, none⟩]) <|
 .seq (.ops [⟨some 35, .extract (.tmp 20) 0, false, none⟩]) <|
 .seq (.ops [⟨some 36, .extract (.tmp 20) 1, false, none⟩]) <|
 .seq (.ops [⟨some 8, .assign (.tmp 35), false, none⟩]) <|
 .seq (.ops [⟨some 10, .assign (.tmp 36), false, none⟩]) <|
 .skip) (.seq (.ops [⟨some 33, .call ⟨.builtin .append, #[(.tmp 30), (.tmp 32)], #[23, 23]⟩, true, none⟩]) <|
 .seq (.ops [⟨some 29, .load 3 (.tmp 28), false, none⟩]) <|
 .seq (.ops [⟨some 34, .call ⟨.value (.func 9), #[(.tmp 21), (.tmp 23), (.tmp 25), (.tmp 27), (.tmp 29), (.tmp 33)], #[25, 3, 9, 3, 3, 23]⟩, true, none⟩]) <|
 .seq (.ops [⟨some 20, .move (.tmp 34), false, none⟩]) <|
 .seq (.ops [⟨some 35, .extract (.tmp 20) 0, false, none⟩]) <|
 .seq (.ops [⟨some 36, .extract (.tmp 20) 1, false, none⟩]) <|
 .seq (.ops [⟨some 8, .assign (.tmp 35), false, none⟩]) <|
 .seq (.ops [⟨some 10, .assign (.tmp 36), false, none⟩]) <|
 .skip)) (.amb (.seq (.ops [⟨some 29, .load 3 (.tmp 28), false, none⟩]) <|
 .seq (.ops [⟨some 33, .call ⟨.builtin .append, #[(.tmp 30), (.tmp 32)], #[23, 23]⟩, true, none⟩]) <|
 .seq (.ops [⟨some 25, .load 9 (.tmp 24), false, none⟩]) <|
 .seq (.ops [⟨some 34, .call ⟨.value (.func 9), #[(.tmp 21), (.tmp 23), (.tmp 25), (.tmp 27), (.tmp 29), (.tmp 33)], #[25, 3, 9, 3, 3, 23]⟩, true, none⟩]) <|
 .seq (.ops [⟨some 20, .move (.tmp 34), false, none⟩]) <|
 .seq (.ops [⟨some 35, .extract (.tmp 20) 0, false, none⟩]) <|
 .seq (.ops [⟨some 36, .extract (.tmp 20) 1, false, none⟩]) <|
 .seq (.ops [⟨some 8, .assign (.tmp 35), false, none⟩]) <|
 .seq (.ops [⟨some 10, .assign (.tmp 36), false, none⟩]) <|
 .skip) (.seq (.ops [⟨some 33, .call ⟨.builtin .append, #[(.tmp 30), (.tmp 32)], #[23, 23]⟩, true, none⟩]) <|
 .seq (.ops [⟨some 25, .load 9 (.tmp 24), false, none⟩]) <|
 .seq (.ops [⟨some 29, .load 3 (.tmp 28), false, none⟩]) <|
 .seq (.ops [⟨some 34, .call ⟨.value (.func 9), #[(.tmp 21), (.tmp 23), (.tmp 25), (.tmp 27), (.tmp 29), (.tmp 33)], #[25, 3, 9, 3, 3, 23]⟩, true, none⟩]) <|
 .seq (.ops [⟨some 20, .move (.tmp 34), false, none⟩]) <|
 .seq (.ops [⟨some 35, .extract (.tmp 20) 0, false, none⟩]) <|
 .seq (.ops [⟨some 36, .extract (.tmp 20) 1, false, none⟩]) <|
 .seq (.ops [⟨some 8, .assign (.tmp 35), false, none⟩]) <|
 .seq (.ops [⟨some 10, .assign (.tmp 36), false, none⟩]) <|
 .skip))) (.amb (.seq (.ops [⟨some 25, .load 9 (.tmp 24), false, none⟩]) <|
 .amb (.seq (.ops [⟨some 29, .load 3 (.tmp 28), false, none⟩]) <|
 .seq (.ops [⟨some 33, .call ⟨.builtin .append, #[(.tmp 30), (.tmp 32)], #[23, 23]⟩, true, none⟩]) <|
 .seq (.ops [⟨some 23, .load 3 (.tmp 22), false, none⟩]) <|
 .seq (.ops [⟨some 34, .call ⟨.value (.func 9), #[(.tmp 21), (.tmp 23), (.tmp 25), (.tmp 27), (.tmp 29), (.tmp 33)], #[25, 3, 9, 3, 3, 23]⟩, true, none⟩]) <|
 .seq (.ops [⟨some 20, .move (.tmp 34), false, none⟩]) <|
 .seq (.ops [⟨some 35, .extract (.tmp 20) 0, false, none⟩]) <|
 .seq (.ops [⟨some 36, .extract (.tmp 20) 1, false, none⟩]) <|
 .seq (.ops [⟨some 8, .assign (.tmp 35), false, none⟩]) <|
 .seq (.ops [⟨some 10, .assign (.tmp 36), false, none⟩]) <|
 .skip) (.seq (.ops [⟨some 33, .call ⟨.builtin .append, #[(.tmp 30), (.tmp 32)], #[23, 23]⟩, true, none⟩]) <|
 .seq (.ops [⟨some 23, .load 3 (.tmp 22), false, none⟩]) <|
 .seq (.ops [⟨some 29, .load 3 (.tmp 28), false, none⟩]) <|
 .seq (.ops [⟨some 34, .call ⟨.value (.func 9), #[(.tmp 21), (.tmp 23), (.tmp 25), (.tmp 27), (.tmp 29), (.tmp 33)], #[25, 3, 9, 3, 3, 23]⟩, true, none⟩]) <|
 .seq (.ops [⟨some 20, .move (.tmp 34), false, none⟩]) <|
 .seq (.ops [⟨some 35, .extract (.tmp 20) 0, false, none⟩]) <|
 .seq (.ops [⟨some 36, .extract (.tmp 20) 1, false, none⟩]) <|
 .seq (.ops [⟨some 8, .assign (.tmp 35), false, none⟩]) <|
 .seq (.ops [⟨some 10, .assign (.tmp 36), false, none⟩]) <|
 .skip)) (.amb (.seq (.ops [⟨some 29, .load 3 (.tmp 28), false, none⟩]) <|
 .seq (.ops [⟨some 33, .call ⟨.builtin .append, #[(.tmp 30), (.tmp 32)], #[23, 23]⟩, true, none⟩]) <|
 .seq (.ops [⟨some 23, .load 3 (.tmp 22), false, none⟩]) <|
 .seq (.ops [⟨some 25, .load 9 (.tmp 24), false, none⟩]) <|
 .seq (.ops [⟨some 34, .call ⟨.value (.func 9), #[(.tmp 21), (.tmp 23), (.tmp 25), (.tmp 27), (.tmp 29), (.tmp 33)], #[25, 3, 9, 3, 3, 23]⟩, true, none⟩]) <|
 .seq (.ops [⟨some 20, .move (.tmp 34), false, none⟩]) <|
 .seq (.ops [⟨some 35, .extract (.tmp 20) 0, false, none⟩]) <|
 .seq (.ops [⟨some 36, .extract (.tmp 20) 1, false, none⟩]) <|
 .seq (.ops [⟨some 8, .assign (.tmp 35), false, none⟩]) <|
 .seq (.ops [⟨some 10, .assign (.tmp 36), false, none⟩]) <|
 .skip) (.seq (.ops [⟨some 33, .call ⟨.builtin .append, #[(.tmp 30), (.tmp 32)], #[23, 23]⟩, true, none⟩]) <|
 .seq (.ops [⟨some 23, .load 3 (.tmp 22), false, none⟩]) <|
 .seq (.ops [⟨some 25, .load 9 (.tmp 24), false, none⟩]) <|
 .seq (.ops [⟨some 29, .load 3 (.tmp 28), false, none⟩]) <|
 .seq (.ops [⟨some 34, .call ⟨.value (.func 9), #[(.tmp 21), (.tmp 23), (.tmp 25), (.tmp 27), (.tmp 29), (.tmp 33)], #[25, 3, 9, 3, 3, 23]⟩, true, none⟩]) <|
 .seq (.ops [⟨some 20, .move (.tmp 34), false, none⟩]) <|
 .seq (.ops [⟨some 35, .extract (.tmp 20) 0, false, none⟩]) <|
 .seq (.ops [⟨some 36, .extract (.tmp 20) 1, false, none⟩]) <|
 .seq (.ops [⟨some 8, .assign (.tmp 35), false, none⟩]) <|
 .seq (.ops [⟨some 10, .assign (.tmp 36), false, none⟩]) <|
 .skip)))))) (.amb (.seq (.ops [⟨some 29, .load 3 (.tmp 28), false, none⟩]) <|
 .amb (.seq (.ops [⟨some 30, .buildSlice 23 0 #[], true, none⟩]) <|
 .seq (.ops [⟨some 32, .load 23 (.tmp 31), false, none⟩]) <|
 .amb (.seq (.ops [⟨some 23, .load 3 (.tmp 22), false, none⟩]) <|
 .amb (.seq (.ops [⟨some 25, .load 9 (.tmp 24), false, none⟩]) <|
 .amb (.seq (.ops [⟨some 27, .load 3 (.tmp 26), false, none⟩]) <|
 .seq (.ops [⟨some 33, .call ⟨.builtin .append, #[(.tmp 30), (.tmp 32)], #[23, 23]⟩, true, none⟩]) <|
 .seq (.ops [⟨some 34, .call ⟨.value (.func 9), #[(.tmp 21), (.tmp 23), (.tmp 25), (.tmp 27), (.tmp 29), (.tmp 33)], #[25, 3, 9, 3, 3, 23]⟩, true, none⟩]) <|
 .seq (.ops [⟨some 20, .move (.tmp 34), false, none⟩]) <|
 .seq (.ops [⟨some 35, .extract (.tmp 20) 0, false, none⟩]) <|
 .seq (.ops [⟨some 36, .extract (.tmp 20) 1, false, none⟩]) <|
 .seq (.ops [⟨some 8, .assign (.tmp 35), false, none⟩]) <|
 .seq (.ops [⟨some 10, .assign (.tmp 36), false, none⟩]) <|
 .skip) (.seq (.ops [⟨some 33, .call ⟨.builtin .append, #[(.tmp 30), (.tmp 32)], #[23, 23]⟩, true, none⟩]) <|
 .seq (.ops [⟨some 27, .load 3 (.tmp 26), false, none⟩]) <|
 .seq (.ops [⟨some 34, .call ⟨.value (.func 9), #[(.tmp 21), (.tmp 23), (.tmp 25), (.tmp 27), (.tmp 29), (.tmp 33)], #[25, 3, 9, 3, 3, 23]⟩, true, none⟩]) <|
 .seq (.ops [⟨some 20, .move (.tmp 34), false, none⟩]) <|
 .seq (.ops [⟨some 35, .extract (.tmp 20) 0, false, none⟩]) <|
 .seq (.ops [⟨some 36, .extract (.tmp 20) 1, false, none⟩]) <|
 .seq (.ops [⟨some 8, .assign (.tmp 35), false, none⟩]) <|
 .seq (.ops [⟨some 10, .assign (.tmp 36), false, none⟩]) <|
 .skip)) (.amb (.seq (.ops [⟨some 27, .load 3 (.tmp 26), false, none⟩]) <|
 .seq (.ops [⟨some 33, .call ⟨.builtin .append, #[(.tmp 30), (.tmp 32)], #[23, 23]⟩, true, none⟩]) <|
 .seq (.ops [⟨some 25, .load 9 (.tmp 24), false, none⟩]) <|
 .seq (.ops [⟨some 34, .call ⟨.value (.func 9), #[(.tmp 21), (.tmp 23), (.tmp 25), (.tmp 27), (.tmp 29), (.tmp 33)], #[25, 3, 9, 3, 3, 23]⟩, true, none⟩]) <|
 .seq (.ops [⟨some 20, .move (.tmp 34), false, none⟩]) <|
 .seq (.ops [⟨some 35, .extract (.tmp 20) 0, false, none⟩]) <|
 .seq (.ops [⟨some 36, .extract (.tmp 20) 1, false, none⟩]) <|
 .seq (.ops [⟨some 8, .assign (.tmp 35), false, none⟩]) <|
 .seq (.ops [⟨some 10, .assign (.tmp 36), false, none⟩]) <|
 .skip) (.seq (.ops [⟨some 33, .call ⟨.builtin .append, #[(.tmp 30), (.tmp 32)], #[23, 23]⟩, true, none⟩]) <|
 .seq (.ops [⟨some 25, .load 9 (.tmp 24), false, none⟩]) <|
 .seq (.ops [⟨some 27, .load 3 (.tmp 26), false, none⟩]) <|
 .seq (.ops [⟨some 34, .call ⟨.value (.func 9), #[(.tmp 21), (.tmp 23), (.tmp 25), (.tmp 27), (.tmp 29), (.tmp 33)], #[25, 3, 9, 3, 3, 23]⟩, true, none⟩]) <|
 .seq (.ops [⟨some 20, .move (.tmp 34), false, none⟩]) <|
 .seq (.ops [⟨some 35, .extract (.tmp 20) 0, false, none⟩]) <|
 .seq (.ops [⟨some 36, .extract (.tmp 20) 1, false, none⟩]) <|
 .seq (.ops [⟨some 8, .assign (.tmp 35), false, none⟩]) <|
 .seq (.ops [⟨some 10, .assign (.tmp 36), false, none⟩]) <|
 .skip))) (.amb (.seq (.ops [⟨some 25, .load 9 (.tmp 24), false, none⟩]) <|
 .amb (.seq (.ops [⟨some 27, .load 3 (.tmp 26), false, none⟩]) <|
 .seq (.ops [⟨some 33, .call ⟨.builtin .append, #[(.tmp 30), (.tmp 32)], #[23, 23]⟩, true, none⟩]) <|
 .seq (.ops [⟨some 23, .load 3 (.tmp 22), false, none⟩]) <|
 .seq (.ops [⟨some 34, .call ⟨.value (.func 9), #[(.tmp 21), (.tmp 23), (.tmp 25), (.tmp 27), (.tmp 29), (.tmp 33)], #[25, 3, 9, 3, 3, 23]⟩, true, none⟩]) <|
 .seq (.ops [⟨some 20, .move (.tmp 34), false, none⟩]) <|
 .seq (.ops [⟨some 35, .extract (.tmp 20) 0, false, none⟩]) <|
 .seq (.ops [⟨some 36, .extract (.tmp 20) 1, false, none⟩]) <|
 .seq (.ops [⟨some 8, .assign (.tmp 35), false, none⟩]) <|
 .seq (.ops [⟨some 10, .assign (.tmp 36), false, none⟩]) <|
 .skip) (.seq (.ops [⟨some 33, .call ⟨.builtin .append, #[(.tmp 30), (.tmp 32)], #[23, 23]⟩, true, none⟩]) <|
 .seq (.ops [⟨some 23, .load 3 (.tmp 22), false, none⟩]) <|
 .seq (.ops [⟨some 27, .load 3 (.tmp 26), false, none⟩]) <|
 .seq (.ops [⟨some 34, .call ⟨.value (.func 9), #[(.tmp 21), (.tmp 23), (.tmp 25), (.tmp 27), (.tmp 29), (.tmp 33)], #[25, 3, 9, 3, 3, 23]⟩, true, none⟩]) <|
 .seq (.ops [⟨some 20, .move (.tmp 34), false, none⟩]) <|
 .seq (.ops [⟨some 35, .extract (.tmp 20) 0, false, none⟩]) <|
 .seq (.ops [⟨some 36, .extract (.tmp 20) 1, false, none⟩]) <|
 .seq (.ops [⟨some 8, .assign (.tmp 35), false, none⟩]) <|
 .seq (.ops [⟨some 10, .assign (.tmp 36), false, none⟩]) <|
 .skip)) (.amb (.seq (.ops [⟨some 27, .load 3 (.tmp 26), false, none⟩]) <|
 .seq (.ops [⟨some 33, .call ⟨.builtin .append, #[(.tmp 30), (.tmp 32)], #[23, 23]⟩, true, none⟩]) <|
 .seq (.ops [⟨some 23, .load 3 (.tmp 22), false, none⟩]) <|
 .seq (.ops [⟨some 25, .load 9 (.tmp 24), false, none⟩]) <|
 .seq (.ops [⟨some 34, .call ⟨.value (.func 9), #[(.tmp 21), (.tmp 23), (.tmp 25), (.tmp 27), (.tmp 29), (.tmp 33)], #[25, 3, 9, 3, 3, 23]⟩, true, none⟩]) <|
 .seq (.ops [⟨some 20, .move (.tmp 34), false, none⟩]) <|
 .seq (.ops [⟨some 35, .extract (.tmp 20) 0, false, none⟩]) <|
 .seq (.ops [⟨some 36, .extract (.tmp 20) 1, false, none⟩]) <|
 .seq (.ops [⟨some 8, .assign (.tmp 35), false, none⟩]) <|
 .seq (.ops [⟨some 10, .assign (.tmp 36), false, none⟩]) <|
 .skip) (.seq (.ops [⟨some 33, .call ⟨.builtin .append, #[(.tmp 30), (.tmp 32)], #[23, 23]⟩, true, none⟩]) <|
 .seq (.ops [⟨some 23, .load 3 (.tmp 22), false, none⟩]) <|
 .seq (.ops [⟨some 25, .load 9 (.tmp 24), false, none⟩]) <|
 .seq (.ops [⟨some 27, .load 3 (.tmp 26), false, none⟩]) <|
 .seq (.ops [⟨some 34, .call ⟨.value (.func 9), #[(.tmp 21), (.tmp 23), (.tmp 25), (.tmp 27), (.tmp 29), (.tmp 33)], #[25, 3, 9, 3, 3, 23]⟩, true, none⟩]) <|
 .seq (.ops [⟨some 20, .move (.tmp 34), false, none⟩]) <|
 .seq (.ops [⟨some 35, .extract (.tmp 20) 0, false, none⟩]) <|
 .seq (.ops [⟨some 36, .extract (.tmp 20) 1, false, none⟩]) <|
 .seq (.ops [⟨some 8, .assign (.tmp 35), false, none⟩]) <|
 .seq (.ops [⟨some 10, .assign (.tmp 36), false, none⟩]) <|
 .skip)))) (.seq (.ops [⟨some 32, .load 23 (.tmp 31), false, none⟩]) <|
 .seq (.ops [⟨some 30, .buildSlice 23 0 #[], true, none⟩]) <|
 .amb (.seq (.ops [⟨some 23, .load 3 (.tmp 22), false, none⟩]) <|
 .amb (.seq (.ops [⟨some 25, .load 9 (.tmp 24), false, none⟩]) <|
 .amb (.seq (.ops [⟨some 27, .load 3 (.tmp 26), false, none⟩]) <|
 .seq (.ops [⟨some 33, .call ⟨.builtin .append, #[(.tmp 30), (.tmp 32)], #[23, 23]⟩, true, none⟩]) <|
 .seq (.ops [⟨some 34, .call ⟨.value (.func 9), #[(.tmp 21), (.tmp 23), (.tmp 25), (.tmp 27), (.tmp 29), (.tmp 33)], #[25, 3, 9, 3, 3, 23]⟩, true, none⟩]) <|
 .seq (.ops [⟨some 20, .move (.tmp 34), false, none⟩]) <|
 .seq (.ops [⟨some 35, .extract (.tmp 20) 0, false, none⟩]) <|
 .seq (.ops [⟨some 36, .extract (.tmp 20) 1, false, none⟩]) <|
 .seq (.ops [⟨some 8, .assign (.tmp 35), false, none⟩]) <|
 .seq (.ops [⟨some 10, .assign (.tmp 36), false, none⟩]) <|
 .skip) (.seq (.ops [⟨some 33, .call ⟨.builtin .append, #[(.tmp 30), (.tmp 32)], #[23, 23]⟩, true, none⟩]) <|
 .seq (.ops [⟨some 27, .load 3 (.tmp 26), false, none⟩]) <|
 .seq (.ops [⟨some 34, .call ⟨.value (.func 9), #[(.tmp 21), (.tmp 23), (.tmp 25), (.tmp 27), (.tmp 29), (.tmp 33)], #[25, 3, 9, 3, 3, 23]⟩, true, none⟩]) <|
 .seq (.ops [⟨some 20, .move (.tmp 34), false, none⟩]) <|
 .seq (.ops [⟨some 35, .extract (.tmp 20) 0, false, none⟩]) <|
 .seq (.ops [⟨some 36, .extract (.tmp 20) 1, false, none⟩]) <|
 .seq (.ops [⟨some 8, .assign (.tmp 35), false, none⟩]) <|
 .seq (.ops [⟨some 10, .assign (.tmp 36), false, none⟩]) <|
 .skip)) (.amb (.seq (.ops [⟨some 27, .load 3 (.tmp 26), false, none⟩]) <|
 .seq (.ops [⟨some 33, .call ⟨.builtin .append, #[(.tmp 30), (.tmp 32)], #[23, 23]⟩, true, none⟩]) <|
 .seq (.ops [⟨some 25, .load 9 (.tmp 24), false, none⟩]) <|
 .seq (.ops [⟨some 34, .call ⟨.value (.func 9), #[(.tmp 21), (.tmp 23), (.tmp 25), (.tmp 27), (.tmp 29), (.tmp 33)], #[25, 3, 9, 3, 3, 23]⟩, true, none⟩]) <|
 .seq (.ops [⟨some 20, .move (.tmp 34), false, none⟩]) <|
 .seq (.ops [⟨some 35, .extract (.tmp 20) 0, false, none⟩]) <|
 .seq (.ops [⟨some 36, .extract (.tmp 20) 1, false, none⟩]) <|
 .seq (.ops [⟨some 8, .assign (.tmp 35), false, none⟩]) <|
 .seq (.ops [⟨some 10, .assign (.tmp 36), false, none⟩]) <|
 .skip) (.seq (.ops [⟨some 33, .call ⟨.builtin .append, #[(.tmp 30), (.tmp 32)], #[23, 23]⟩, true, none⟩]) <|
 .seq (.ops [⟨some 25, .load 9 (.tmp 24), false, none⟩]) <|
 .seq (.ops [⟨some 27, .load 3 (.tmp 26), false, none⟩]) <|
 .seq (.ops [⟨some 34, .call ⟨.value (.func 9), #[(.tmp 21), (.tmp 23), (.tmp 25), (.tmp 27), (.tmp 29), (.tmp 33)], #[25, 3, 9, 3, 3, 23]⟩, true, none⟩]) <|
 .seq (.ops [⟨some 20, .move (.tmp 34), false, none⟩]) <|
 .seq (.ops [⟨some 35, .extract (.tmp 20) 0, false, none⟩]) <|
 .seq (.ops [⟨some 36, .extract (.tmp 20) 1, false, none⟩]) <|
 .seq (.ops [⟨some 8, .assign (.tmp 35), false, none⟩]) <|
 .seq (.ops [⟨some 10, .assign (.tmp 36), false, none⟩]) <|
 .skip))) (.amb (.seq (.ops [⟨some 25, .load 9 (.tmp 24), false, none⟩]) <|
 .amb (.seq (.ops [⟨some 27, .load 3 (.tmp 26), false, none⟩]) <|
 .seq (.ops [⟨some 33, .call ⟨.builtin .append, #[(.tmp 30), (.tmp 32)], #[23, 23]⟩, true, none⟩]) <|
 .seq (.ops [⟨some 23, .load 3 (.tmp 22), false, none⟩]) <|
 .seq (.ops [⟨some 34, .call ⟨.value (.func 9), #[(.tmp 21), (.tmp 23), (.tmp 25), (.tmp 27), (.tmp 29), (.tmp 33)], #[25, 3, 9, 3, 3, 23]⟩, true, none⟩]) <|
 .seq (.ops [⟨some 20, .move (.tmp 34), false, none⟩]) <|
 .seq (.ops [⟨some 35, .extract (.tmp 20) 0, false, none⟩]) <|
 .seq (.ops [⟨some 36, .extract (.tmp 20) 1, false, none⟩]) <|
 .seq (.ops [⟨some 8, .assign (.tmp 35), false, none⟩]) <|
 .seq (.ops [⟨some 10, .assign (.tmp 36), false, none⟩]) <|
 .skip) (.seq (.ops [⟨some 33, .call ⟨.builtin .append, #[(.tmp 30), (.tmp 32)], #[23, 23]⟩, true, none⟩]) <|
 .seq (.ops [⟨some 23, .load 3 (.tmp 22), false, none⟩]) <|
 .seq (.ops [⟨some 27, .load 3 (.tmp 26), false, none⟩]) <|
 .seq (.ops [⟨some 34, .call ⟨.value (.func 9), #[(.tmp 21), (.tmp 23), (.tmp 25), (.tmp 27), (.tmp 29), (.tmp 33)], #[25, 3, 9, 3, 3, 23]⟩, true, none⟩]) <|
 .seq (.ops [⟨some 20, .move (.tmp 34), false, none⟩]) <|
 .seq (.ops [⟨some 35, .extract (.tmp 20) 0, false, none⟩]) <|
 .seq (.ops [⟨some 36, .extract (.tmp 20) 1, false, none⟩]) <|
 .seq (.ops [⟨some 8, .assign (.tmp 35), false, none⟩]) <|
 .seq (.ops [⟨some 10, .assign (.tmp 36), false, none⟩]) <|
 .skip)) (.amb (.seq (.ops [⟨some 27, .load 3 (.tmp 26), false, none⟩]) <|
 .seq (.ops [⟨some 33, .call ⟨.builtin .append, #[(.tmp 30), (.tmp 32)], #[23, 23]⟩, true, none⟩]) <|
 .seq (.ops [⟨some 23, .load 3 (.tmp 22), false, none⟩]) <|
 .seq (.ops [⟨some 25, .load 9 (.tmp 24), false, none⟩]) <|
 .seq (.ops [⟨some 34, .call ⟨.value (.func 9), #[(.tmp 21), (.tmp 23), (.tmp 25), (.tmp 27), (.tmp 29), (.tmp 33)], #[25, 3, 9, 3, 3, 23]⟩, true, none⟩]) <|
 .seq (.ops [⟨some 20, .move (.tmp 34), false, none⟩]) <|
 .seq (.ops [⟨some 35, .extract (.tmp 20) 0, false, none⟩]) <|
 .seq (.ops [⟨some 36, .extract (.tmp 20) 1, false, none⟩]) <|
 .seq (.ops [⟨some 8, .assign (.tmp 35), false, none⟩]) <|
 .seq (.ops [⟨some 10, .assign (.tmp 36), false, none⟩]) <|
 .skip) (.seq (.ops [⟨some 33, .call ⟨.builtin .append, #[(.tmp 30), (.tmp 32)], #[23, 23]⟩, true, none⟩]) <|
 .seq (.ops [⟨some 23, .load 3 (.tmp 22), false, none⟩]) <|
 .seq (.ops [⟨some 25, .load 9 (.tmp 24), false, none⟩]) <|
 .seq (.ops [⟨some 27, .load 3 (.tmp 26), false, none⟩]) <|
 .seq (.ops [⟨some 34, .call ⟨.value (.func 9), #[(.tmp 21), (.tmp 23), (.tmp 25), (.tmp 27), (.tmp 29), (.tmp 33)], #[25, 3, 9, 3, 3, 23]⟩, true, none⟩]) <|
 .seq (.ops [⟨some 20, .move (.tmp 34), false, none⟩]) <|
 .seq (.ops [⟨some 35, .extract (.tmp 20) 0, false, none⟩]) <|
 .seq (.ops [⟨some 36, .extract (.tmp 20) 1, false, none⟩]) <|
 .seq (.ops [⟨some 8, .assign (.tmp 35), false, none⟩]) <|
 .seq (.ops [⟨some 10, .assign (.tmp 36), false, none⟩]) <|
 .skip))))) (.amb (.seq (.ops [⟨some 30, .buildSlice 23 0 #[], true, none⟩]) <|
 .seq (.ops [⟨some 32, .load 23 (.tmp 31), false, none⟩]) <|
 .amb (.seq (.ops [⟨some 23, .load 3 (.tmp 22), false, none⟩]) <|
 .amb (.seq (.ops [⟨some 25, .load 9 (.tmp 24), false, none⟩]) <|
 .amb (.seq (.ops [⟨some 27, .load 3 (.tmp 26), false, none⟩]) <|
 .amb (.seq (.ops [⟨some 29, .load 3 (.tmp 28), false, none⟩]) <|
 .seq (.ops [⟨some 33, .call ⟨.builtin .append, #[(.tmp 30), (.tmp 32)], #[23, 23]⟩, true, none⟩]) <|
 .seq (.ops [⟨some 34, .call ⟨.value (.func 9), #[(.tmp 21), (.tmp 23), (.tmp 25), (.tmp 27), (.tmp 29), (.tmp 33)], #[25, 3, 9, 3, 3, 23]⟩, true, none⟩]) <|
 .seq (.ops [⟨some 20, .move (.tmp 34), false, none⟩]) <|
 .seq (.ops [⟨some 35, .extract (.tmp 20) 0, false, none⟩]) <|
 .seq (.ops [⟨some 36, .extract (.tmp 20) 1, false, none⟩]) <|
 .seq (.ops [⟨some 8, .assign (.tmp 35), false, none⟩]) <|
 .seq (.ops [⟨some 10, .assign (.tmp 36), false, none⟩]) <|
 .skip) (.seq (.ops [⟨some 33, .call ⟨.builtin .append, #[(.tmp 30), (.tmp 32)], #[23, 23]⟩, true, none⟩]) <|
 .seq (.ops [⟨some 29, .load 3 (.tmp 28), false, none⟩]) <|
 .seq (.ops [⟨some 34, .call ⟨.value (.func 9), #[(.tmp 21), (.tmp 23), (.tmp 25), (.tmp 27), (.tmp 29), (.tmp 33)], #[25, 3, 9, 3, 3, 23]⟩, true, none⟩]) <|
 .seq (.ops [⟨some 20, .move (.tmp 34), false, none⟩]) <|
 .seq (.ops [⟨some 35, .extract (.tmp 20) 0, false, none⟩]) <|
 .seq (.ops [⟨some 36, .extract (.tmp 20) 1, false, none⟩]) <|
 .seq (.ops [⟨some 8, .assign (.tmp 35), false, none⟩]) <|
 .seq (.ops [⟨some 10, .assign (.tmp 36), false, none⟩]) <|
 .skip)) (.amb (.seq (.ops [⟨some 29, .load 3 (.tmp 28), false, none⟩]) <|
 .seq (.ops [⟨some 33, .call ⟨.builtin .append, #[(.tmp 30), (.tmp 32)], #[23, 23]⟩, true, none⟩]) <|
 .seq (.ops [⟨some 27, .load 3 (.tmp 26), false, none⟩]) <|
 .seq (.ops [⟨some 34, .call ⟨.value (.func 9), #[(.tmp 21), (.tmp 23), (.tmp 25), (.tmp 27), (.tmp 29), (.tmp 33)], #[25, 3, 9, 3, 3, 23]⟩, true, none⟩]) <|
 .seq (.ops [⟨some 20, .move (.tmp 34), false, none⟩]) <|
 .seq (.ops [⟨some 35, .extract (.tmp 20) 0, false, none⟩]) <|
 .seq (.ops [⟨some 36, .extract (.tmp 20) 1, false, none⟩]) <|
 .seq (.ops [⟨some 8, .assign (.tmp 35), false, none⟩]) <|
 .seq (.ops [⟨some 10, .assign (.tmp 36), false, none⟩]) <|
 .skip) (.seq (.ops [⟨some 33, .call ⟨.builtin .append, #[(.tmp 30), (.tmp 32)], #[23, 23]⟩, true, none⟩]) <|
 .seq (.ops [⟨some 27, .load 3 (.tmp 26), false, none⟩]) <|
 .seq (.ops [⟨some 29, .load 3 (.tmp 28), false, none⟩]) <|
 .seq (.ops [⟨some 34, .call ⟨.value (.func 9), #[(.tmp 21), (.tmp 23), (.tmp 25), (.tmp 27), (.tmp 29), (.tmp 33)], #[25, 3, 9, 3, 3, 23]⟩, true, none⟩]) <|
 .seq (.ops [⟨some 20, .move (.tmp 34), false, none⟩]) <|
 .seq (.ops [⟨some 35, .extract (.tmp 20) 0, false, none⟩]) <|
 .seq (.ops [⟨some 36, .extract (.tmp 20) 1, false, none⟩]) <|
 .seq (.ops [⟨some 8, .assign (.tmp 35), false, none⟩]) <|
 .seq (.ops [⟨some 10, .assign (.tmp 36), false, none⟩]) <|
 .skip))) (.amb (.seq (.ops [⟨some 27, .load 3 (.tmp 26), false, none⟩]) <|
 .amb (.seq (.ops [⟨some 29, .load 3 (.tmp 28), false, none⟩]) <|
 .seq (.ops [⟨some 33, .call ⟨.builtin .append, #[(.tmp 30), (.tmp 32)], #[23, 23]⟩, true, none⟩]) <|
 .seq (.ops [⟨some 25, .load 9 (.tmp 24), false, none⟩]) <|
 .seq (.ops [⟨some 34, .call ⟨.value (.func 9), #[(.tmp 21), (.tmp 23), (.tmp 25), (.tmp 27), (.tmp 29), (.tmp 33)], #[25, 3, 9, 3, 3, 23]⟩, true, none⟩]) <|
 .seq (.ops [⟨some 20, .move (.tmp 34), false, none⟩]) <|
 .seq (.ops [⟨some 35, .extract (.tmp 20) 0, false, none⟩]) <|
 .seq (.ops [⟨some 36, .extract (.tmp 20) 1, false, none⟩]) <|
 .seq (.ops [⟨some 8, .assign (.tmp 35), false, none⟩]) <|
 .seq (.ops [⟨some 10, .assign (.tmp 36), false, none⟩]) <|
 .skip) (.seq (.ops [⟨some 33, .call ⟨.builtin .append, #[(.tmp 30), (.tmp 32)], #[23, 23]⟩, true, none⟩]) <|
 .seq (.ops [⟨some 25, .load 9 (.tmp 24), false, none⟩]) <|
 .seq (.ops [⟨some 29, .load 3 (.tmp 28), false, none⟩]) <|
 .seq (.ops [⟨some 34, .call ⟨.value (.func 9), #[(.tmp 21), (.tmp 23), (.tmp 25), (.tmp 27), (.tmp 29), (.tmp 33)], #[25, 3, 9, 3, 3, 23]⟩, true, none⟩]) <|
 .seq (.ops [⟨some 20, .move (.tmp 34), false, none⟩]) <|
 .seq (.ops [⟨some 35, .extract (.tmp 20) 0, false, none⟩]) <|
 .seq (.ops [⟨some 36, .extract (.tmp 20) 1, false, none⟩]) <|
 .seq (.ops [⟨some 8, .assign (.tmp 35), false, none⟩]) <|
 .seq (.ops [⟨some 10, .assign (.tmp 36), false, none⟩]) <|
 .skip)) (.amb (.seq (.ops [⟨some 29, .load 3 (.tmp 28), false, none⟩]) <|
 .seq (.ops [⟨some 33, .call ⟨.builtin .append, #[(.tmp 30), (.tmp 32)], #[23, 23]⟩, true, none⟩]) <|
 .seq (.ops [⟨some 25, .load 9 (.tmp 24), false, none⟩]) <|
 .seq (.ops [⟨some 27, .load 3 (.tmp 26), false, none⟩]) <|
 .seq (.ops [⟨some 34, .call ⟨.value (.func 9), #[(.tmp 21), (.tmp 23), (.tmp 25), (.tmp 27), (.tmp 29), (.tmp 33)], #[25, 3, 9, 3, 3, 23]⟩, true, none⟩]) <|
 .seq (.ops [⟨some 20, .move (.tmp 34), false, none⟩]) <|
 .seq (.ops [⟨some 35, .extract (.tmp 20) 0, false, none⟩]) <|
 .seq (.ops [⟨some 36, .extract (.tmp 20) 1, false, none⟩]) <|
 .seq (.ops [⟨some 8, .assign (.tmp 35), false, none⟩]) <|
 .seq (.ops [⟨some 10, .assign (.tmp 36), false, none⟩]) <|
 .skip) (.seq (.ops [⟨some 33, .call ⟨.builtin .append, #[(.tmp 30), (.tmp 32)], #[23, 23]⟩, true, none⟩]) <|
 .seq (.ops [⟨some 25, .load 9 (.tmp 24), false, none⟩]) <|
 .seq (.ops [⟨some 27, .load 3 (.tmp 26), false, none⟩]) <|
 .seq (.ops [⟨some 29, .load 3 (.tmp 28), false, none⟩]) <|
 .seq (.ops [⟨some 34, .call ⟨.value (.func 9), #[(.tmp 21), (.tmp 23), (.tmp 25), (.tmp 27), (.tmp 29), (.tmp 33)], #[25, 3, 9, 3, 3, 23]⟩, true, none⟩]) <|
 .seq (.ops [⟨some 20, .move (.tmp 34), false, none⟩]) <|
 .seq (.ops [⟨some 35, .extract (.tmp 20) 0, false, none⟩]) <|
 .seq (.ops [⟨some 36, .extract (.tmp 20) 1, false, none⟩]) <|
 .seq (.ops [⟨some 8, .assign (.tmp 35), false, none⟩]) <|
 .seq (.ops [⟨some 10, .assign (.tmp 36), false, none⟩]) <|
 .skip)))) (.amb (.seq (.ops [⟨some 25, .load 9 (.tmp 24), false, none⟩]) <|
 .amb (.seq (.ops [⟨some 27, .load 3 (.tmp 26), false, none⟩]) <|
 .amb (.seq (.ops [⟨some 29, .load 3 (.tmp 28), false, none⟩]) <|
 .seq (.ops [⟨some 33, .call ⟨.builtin .append, #[(.tmp 30), (.tmp 32)], #[23, 23]⟩, true, none⟩]) <|
 .seq (.ops [⟨some 23, .load 3 (.tmp 22), false, none⟩]) <|
 .seq (.ops [⟨some 34, .call ⟨.value (.func 9), #[(.tmp 21), (.tmp 23), (.tmp 25), (.tmp 27), (.tmp 29), (.tmp 33)], #[25, 3, 9, 3, 3, 23]⟩, true, none⟩]) <|
 .seq (.ops [⟨some 20, .move (.tmp 34), false, none⟩]) <|
 .seq (.ops [⟨some 35, .extract (.tmp 20) 0, false, none⟩]) <|
 .seq (.ops [⟨some 36, .extract (.tmp 20) 1, false, none⟩]) <|
 .seq (.ops [⟨some 8, .assign (.tmp 35), false, none⟩]) <|
 .seq (.ops [⟨some 10, .assign (.tmp 36), false, none⟩]) <|
 .skip) (.seq (.ops [⟨some 33, .call ⟨.builtin .append, #[(.tmp 30), (.tmp 32)], #[23, 23]⟩, true, none⟩]) <|
 .seq (.ops [⟨some 23, .load 3 (.tmp 22), false, none⟩]) <|
 .seq (.ops [⟨some 29, .load 3 (.tmp 28), false, none⟩]) <|
 .seq (.ops [⟨some 34, .call ⟨.value (.func 9), #[(.tmp 21), (.tmp 23), (.tmp 25), (.tmp 27), (.tmp 29), (.tmp 33)], #[25, 3, 9, 3, 3, 23]⟩, true, none⟩]) <|
 .seq (.ops [⟨some 20, .move (.tmp 34), false, none⟩]) <|
 .seq (.ops [⟨some 35, .extract (.tmp 20) 0, false, none⟩]) <|
 .seq (.ops [⟨some 36, .extract (.tmp 20) 1, false, none⟩]) <|
 .seq (.ops [⟨some 8, .assign (.tmp 35), false, none⟩]) <|
 .seq (.ops [⟨some 10, .assign (.tmp 36), false, none⟩]) <|
 .skip)) (.amb (.seq (.ops [⟨some 29, .load 3 (.tmp 28), false, none⟩]) <|
 .seq (.ops [⟨some 33, .call ⟨.builtin .append, #[(.tmp 30), (.tmp 32)], #[23, 23]⟩, true, none⟩]) <|
 .seq (.ops [⟨some 23, .load 3 (.tmp 22), false, none⟩]) <|
 .seq (.ops [⟨some 27, .load 3 (.tmp 26), false, none⟩]) <|
 .seq (.ops [⟨some 34, .call ⟨.value (.func 9), #[(.tmp 21), (.tmp 23), (.tmp 25), (.tmp 27), (.tmp 29), (.tmp 33)], #[25, 3, 9, 3, 3, 23]⟩, true, none⟩]) <|
 .seq (.ops [⟨some 20, .move (.tmp 34), false, none⟩]) <|
 .seq (.ops [⟨some 35, .extract (.tmp 20) 0, false, none⟩]) <|
 .seq (.ops [⟨some 36, .extract (.tmp 20) 1, false, none⟩]) <|
 .seq (.ops [⟨some 8, .assign (.tmp 35), false, none⟩]) <|
 .seq (.ops [⟨some 10, .assign (.tmp 36), false, none⟩]) <|
 .skip) (.seq (.ops [⟨some 33, .call ⟨.builtin .append, #[(.tmp 30), (.tmp 32)], #[23, 23]⟩, true, none⟩]) <|
 .seq (.ops [⟨some 23, .load 3 (.tmp 22), false, none⟩]) <|
 .seq (.ops [⟨some 27, .load 3 (.tmp 26), false, none⟩]) <|
 .seq (.ops [⟨some 29, .load 3 (.tmp 28), false, none⟩]) <|
 .seq (.ops [⟨some 34, .call ⟨.value (.func 9), #[(.tmp 21), (.tmp 23), (.tmp 25), (.tmp 27), (.tmp 29), (.tmp 33)], #[25, 3, 9, 3, 3, 23]⟩, true, none⟩]) <|
 .seq (.ops [⟨some 20, .move (.tmp 34), false, none⟩]) <|
 .seq (.ops [⟨some 35, .extract (.tmp 20) 0, false, none⟩]) <|
 .seq (.ops [⟨some 36, .extract (.tmp 20) 1, false, none⟩]) <|
 .seq (.ops [⟨some 8, .assign (.tmp 35), false, none⟩]) <|
 .seq (.ops [⟨some 10, .assign (.tmp 36), false, none⟩]) <|
 .skip))) (.amb (.seq (.ops [⟨some 27, .load 3 (.tmp 26), false, none⟩]) <|
 .amb (.seq (.ops [⟨some 29, .load 3 (.tmp 28), false, none⟩]) <|
 .seq (.ops [⟨some 33, .call ⟨.builtin .append, #[(.tmp 30), (.tmp 32)], #[23, 23]⟩, true, none⟩]) <|
 .seq (.ops [⟨some 23, .load 3 (.tmp 22), false, none⟩]) <|
 .seq (.ops [⟨some 25, .load 9 (.tmp 24), false, none⟩]) <|
 .seq (.ops [⟨some 34, .call ⟨.value (.func 9), #[(.tmp 21), (.tmp 23), (.tmp 25), (.tmp 27), (.tmp 29), (.tmp 33)], #[25, 3, 9, 3, 3, 23]⟩, true, none⟩]) <|
 .seq (.ops [⟨some 20, .move (.tmp 34), false, none⟩]) <|
 .seq (.ops [⟨some 35, .extract (.tmp 20) 0, false, none⟩]) <|
 .seq (.ops [⟨some 36, .extract (.tmp 20) 1, false, none⟩]) <|
 .seq (.ops [⟨some 8, .assign (.tmp 35), false, none⟩]) <|
 .seq (.ops [⟨some 10, .assign (.tmp 36), false, none⟩]) <|
 .skip) (.seq (.ops [⟨some 33, .call ⟨.builtin .append, #[(.tmp 30), (.tmp 32)], #[23, 23]⟩, true, none⟩]) <|
 .seq (.ops [⟨some 23, .load 3 (.tmp 22), false, none⟩]) <|
 .seq (.ops [⟨some 25, .load 9 (.tmp 24), false, none⟩]) <|
 .seq (.ops [⟨some 29, .load 3 (.tmp 28), false, none⟩]) <|
 .seq (.ops [⟨some 34, .call ⟨.value (.func 9), #[(.tmp 21), (.tmp 23), (.tmp 25), (.tmp 27), (.tmp 29), (.tmp 33)], #[25, 3, 9, 3, 3, 23]⟩, true, none⟩]) <|
 .seq (.ops [⟨some 20, .move (.tmp 34), false, none⟩]) <|
 .seq (.ops [⟨some 35, .extract (.tmp 20) 0, false, none⟩]) <|
 .seq (.ops [⟨some 36, .extract (.tmp 20) 1, false, none⟩]) <|
 .seq (.ops [⟨some 8, .assign (.tmp 35), false, none⟩]) <|
 .seq (.ops [⟨some 10, .assign (.tmp 36), false, none⟩]) <|
 .skip)) (.amb (.seq (.ops [⟨some 29, .load 3 (.tmp 28), false, none⟩]) <|
 .seq (.ops [⟨some 33, .call ⟨.builtin .append, #[(.tmp 30), (.tmp 32)], #[23, 23]⟩, true, none⟩]) <|
 .seq (.ops [⟨some 23, .load 3 (.tmp 22), false, none⟩]) <|
 .seq (.ops [⟨some 25, .load 9 (.tmp 24), false, none⟩]) <|
 .seq (.ops [⟨some 27, .load 3 (.tmp 26), false, none⟩]) <|
 .seq (.ops [⟨some 34, .call ⟨.value (.func 9), #[(.tmp 21), (.tmp 23), (.tmp 25), (.tmp 27), (.tmp 29), (.tmp 33)], #[25, 3, 9, 3, 3, 23]⟩, true, none⟩]) <|
 .seq (.ops [⟨some 20, .move (.tmp 34), false, none⟩]) <|
 .seq (.ops [⟨some 35, .extract (.tmp 20) 0, false, none⟩]) <|
 .seq (.ops [⟨some 36, .extract (.tmp 20) 1, false, none⟩]) <|
 .seq (.ops [⟨some 8, .assign (.tmp 35), false, none⟩]) <|
 .seq (.ops [⟨some 10, .assign (.tmp 36), false, none⟩]) <|
 .skip) (.seq (.ops [⟨some 33, .call ⟨.builtin .append, #[(.tmp 30), (.tmp 32)], #[23, 23]⟩, true, none⟩]) <|
 .seq (.ops [⟨some 23, .load 3 (.tmp 22), false, none⟩]) <|
 .seq (.ops [⟨some 25, .load 9 (.tmp 24), false, none⟩]) <|
 .seq (.ops [⟨some 27, .load 3 (.tmp 26), false, none⟩]) <|
 .seq (.ops [⟨some 29, .load 3 (.tmp 28), false, none⟩]) <|
 .seq (.ops [⟨some 34, .call ⟨.value (.func 9), #[(.tmp 21), (.tmp 23), (.tmp 25), (.tmp 27), (.tmp 29), (.tmp 33)], #[25, 3, 9, 3, 3, 23]⟩, true, none⟩]) <|
 .seq (.ops [⟨some 20, .move (.tmp 34), false, none⟩]) <|
 .seq (.ops [⟨some 35, .extract (.tmp 20) 0, false, none⟩]) <|
 .seq (.ops [⟨some 36, .extract (.tmp 20) 1, false, none⟩]) <|
 .seq (.ops [⟨some 8, .assign (.tmp 35), false, none⟩]) <|
 .seq (.ops [⟨some 10, .assign (.tmp 36), false, none⟩]) <|
 .skip))))) (.seq (.ops [⟨some 32, .load 23 (.tmp 31), false, none⟩]) <|
 .seq (.ops [⟨some 30, .buildSlice 23 0 #[], true, none⟩]) <|
 .amb (.seq (.ops [⟨some 23, .load 3 (.tmp 22), false, none⟩]) <|
 .amb (.seq (.ops [⟨some 25, .load 9 (.tmp 24), false, none⟩]) <|
 .amb (.seq (.ops [⟨some 27, .load 3 (.tmp 26), false, none⟩]) <|
 .amb (.seq (.ops [⟨some 29, .load 3 (.tmp 28), false, none⟩]) <|
 .seq (.ops [⟨some 33, .call ⟨.builtin .append, #[(.tmp 30), (.tmp 32)], #[23, 23]⟩, true, none⟩]) <|
 .seq (.ops [⟨some 34, .call ⟨.value (.func 9), #[(.tmp 21), (.tmp 23), (.tmp 25), (.tmp 27), (.tmp 29), (.tmp 33)], #[25, 3, 9, 3, 3, 23]⟩, true, none⟩]) <|
 .seq (.ops [⟨some 20, .move (.tmp 34), false, none⟩]) <|
 .seq (.ops [⟨some 35, .extract (.tmp 20) 0, false, none⟩]) <|
 .seq (.ops [⟨some 36, .extract (.tmp 20) 1, false, none⟩]) <|
 .seq (.ops [⟨some 8, .assign (.tmp 35), false, none⟩]) <|
 .seq (.ops [⟨some 10, .assign (.tmp 36), false, none⟩]) <|
 .skip) (.seq (.ops [⟨some 33, .call ⟨.builtin .append, #[(.tmp 30), (.tmp 32)], #[23, 23]⟩, true, none⟩]) <|
 .seq (.ops [⟨some 29, .load 3 (.tmp 28), false, none⟩]) <|
 .seq (.ops [⟨some 34, .call ⟨.value (.func 9), #[(.tmp 21), (.tmp 23), (.tmp 25), (.tmp 27), (.tmp 29), (.tmp 33)], #[25, 3, 9, 3, 3, 23]⟩, true, none⟩]) <|
 .seq (.ops [⟨some 20, .move (.tmp 34), false, none⟩]) <|
 .seq (.ops [⟨some 35, .extract (.tmp 20) 0, false, none⟩]) <|
 .seq (.ops [⟨some 36, .extract (.tmp 20) 1, false, none⟩]) <|
 .seq (.ops [⟨some 8, .assign (.tmp 35), false, none⟩]) <|
 .seq (.ops [⟨some 10, .assign (.tmp 36), false, none⟩]) <|
 .skip)) (.amb (.seq (.ops [⟨some 29, .load 3 (.tmp 28), false, none⟩]) <|
 .seq (.ops [⟨some 33, .call ⟨.builtin .append, #[(.tmp 30), (.tmp 32)], #[23, 23]⟩, true, none⟩]) <|
 .seq (.ops [⟨some 27, .load 3 (.tmp 26), false, none⟩]) <|
 .seq (.ops [⟨some 34, .call ⟨.value (.func 9), #[(.tmp 21), (.tmp 23), (.tmp 25), (.tmp 27), (.tmp 29), (.tmp 33)], #[25, 3, 9, 3, 3, 23]⟩, true, none⟩]) <|
 .seq (.ops [⟨some 20, .move (.tmp 34), false, none⟩]) <|
 .seq (.ops [⟨some 35, .extract (.tmp 20) 0, false, none⟩]) <|
 .seq (.ops [⟨some 36, .extract (.tmp 20) 1, false, none⟩]) <|
 .seq (.ops [⟨some 8, .assign (.tmp 35), false, none⟩]) <|
 .seq (.ops [⟨some 10, .assign (.tmp 36), false, none⟩]) <|
 .skip) (.seq (.ops [⟨some 33, .call ⟨.builtin .append, #[(.tmp 30), (.tmp 32)], #[23, 23]⟩, true, none⟩]) <|
 .seq (.ops [⟨some 27, .load 3 (.tmp 26), false, none⟩]) <|
 .seq (.ops [⟨some 29, .load 3 (.tmp 28), false, none⟩]) <|
 .seq (.ops [⟨some 34, .call ⟨.value (.func 9), #[(.tmp 21), (.tmp 23), (.tmp 25), (.tmp 27), (.tmp 29), (.tmp 33)], #[25, 3, 9, 3, 3, 23]⟩, true, none⟩]) <|
 .seq (.ops [⟨some 20, .move (.tmp 34), false, none⟩]) <|
 .seq (.ops [⟨some 35, .extract (.tmp 20) 0, false, none⟩]) <|
 .seq (.ops [⟨some 36, .extract (.tmp 20) 1, false, none⟩]) <|
 .seq (.ops [⟨some 8, .assign (.tmp 35), false, none⟩]) <|
 .seq (.ops [⟨some 10, .assign (.tmp 36), false, none⟩]) <|
 .skip))) (.amb (.seq (.ops [⟨some 27, .load 3 (.tmp 26), false, none⟩]) <|
 .amb (.seq (.ops [⟨some 29, .load 3 (.tmp 28), false, none⟩]) <|
 .seq (.ops [⟨some 33, .call ⟨.builtin .append, #[(.tmp 30), (.tmp 32)], #[23, 23]⟩, true, none⟩]) <|
 .seq (.ops [⟨some 25, .load 9 (.tmp 24), false, none⟩]) <|
 .seq (.ops [⟨some 34, .call ⟨.value (.func 9), #[(.tmp 21), (.tmp 23), (.tmp 25), (.tmp 27), (.tmp 29), (.tmp 33)], #[25, 3, 9, 3, 3, 23]⟩, true, none⟩]) <|
 .seq (.ops [⟨some 20, .move (.tmp 34), false, none⟩]) <|
 .seq (.ops [⟨some 35, .extract (.tmp 20) 0, false, none⟩]) <|
 .seq (.ops [⟨some 36, .extract (.tmp 20) 1, false, none⟩]) <|
 .seq (.ops [⟨some 8, .assign (.tmp 35), false, none⟩]) <|
 .seq (.ops [⟨some 10, .assign (.tmp 36), false, none⟩]) <|
 .skip) (.seq (.ops [⟨some 33, .call ⟨.builtin .append, #[(.tmp 30), (.tmp 32)], #[23, 23]⟩, true, none⟩]) <|
 .seq (.ops [⟨some 25, .load 9 (.tmp 24), false, none⟩]) <|
 .seq (.ops [⟨some 29, .load 3 (.tmp 28), false, none⟩]) <|
 .seq (.ops [⟨some 34, .call ⟨.value (.func 9), #[(.tmp 21), (.tmp 23), (.tmp 25), (.tmp 27), (.tmp 29), (.tmp 33)], #[25, 3, 9, 3, 3, 23]⟩, true, none⟩]) <|
 .seq (.ops [⟨some 20, .move (.tmp 34), false, none⟩]) <|
 .seq (.ops [⟨some 35, .extract (.tmp 20) 0, false, none⟩]) <|
 .seq (.ops [⟨some 36, .extract (.tmp 20) 1, false, none⟩]) <|
 .seq (.ops [⟨some 8, .assign (.tmp 35), false, none⟩]) <|
 .seq (.ops [⟨some 10, .assign (.tmp 36), false, none⟩]) <|
 .skip)) (.amb (.seq (.ops [⟨some 29, .load 3 (.tmp 28), false, none⟩]) <|
 .seq (.ops [⟨some 33, .call ⟨.builtin .append, #[(.tmp 30), (.tmp 32)], #[23, 23]⟩, true, none⟩]) <|
 .seq (.ops [⟨some 25, .load 9 (.tmp 24), false, none⟩]) <|
 .seq (.ops [⟨some 27, .load 3 (.tmp 26), false, none⟩]) <|
 .seq (.ops [⟨some 34, .call ⟨.value (.func 9), #[(.tmp 21), (.tmp 23), (.tmp 25), (.tmp 27), (.tmp 29), (.tmp 33)], #[25, 3, 9, 3, 3, 23]⟩, true, none⟩]) <|
 .seq (.ops [⟨some 20, .move (.tmp 34), false, none⟩]) <|
 .seq (.ops [⟨some 35, .extract (.tmp 20) 0, false, none⟩]) <|
 .seq (.ops [⟨some 36, .extract (.tmp 20) 1, false, none⟩]) <|
 .seq (.ops [⟨some 8, .assign (.tmp 35), false, none⟩]) <|
 .seq (.ops [⟨some 10, .assign (.tmp 36), false, none⟩]) <|
 .skip) (.seq (.ops [⟨some 33, .call ⟨.builtin .append, #[(.tmp 30), (.tmp 32)], #[23, 23]⟩, true, none⟩]) <|
 .seq (.ops [⟨some 25, .load 9 (.tmp 24), false, none⟩]) <|
 .seq (.ops [⟨some 27, .load 3 (.tmp 26), false, none⟩]) <|
 .seq (.ops [⟨some 29, .load 3 (.tmp 28), false, none⟩]) <|
 .seq (.ops [⟨some 34, .call ⟨.value (.func 9), #[(.tmp 21), (.tmp 23), (.tmp 25), (.tmp 27), (.tmp 29), (.tmp 33)], #[25, 3, 9, 3, 3, 23]⟩, true, none⟩]) <|
 .seq (.ops [⟨some 20, .move (.tmp 34), false, none⟩]) <|
 .seq (.ops [⟨some 35, .extract (.tmp 20) 0, false, none⟩]) <|
 .seq (.ops [⟨some 36, .extract (.tmp 20) 1, false, none⟩]) <|
 .seq (.ops [⟨some 8, .assign (.tmp 35), false, none⟩]) <|
 .seq (.ops [⟨some 10, .assign (.tmp 36), false, none⟩]) <|
 .skip)))) (.amb (.seq (.ops [⟨some 25, .load 9 (.tmp 24), false, none⟩]) <|
 .amb (.seq (.ops [⟨some 27, .load 3 (.tmp 26), false, none⟩]) <|
 .amb (.seq (.ops [⟨some 29, .load 3 (.tmp 28), false, none⟩]) <|
 .seq (.ops [⟨some 33, .call ⟨.builtin .append, #[(.tmp 30), (.tmp 32)], #[23, 23]⟩, true, none⟩]) <|
 .seq (.ops [⟨some 23, .load 3 (.tmp 22), false, none⟩]) <|
 .seq (.ops [⟨some 34, .call ⟨.value (.func 9), #[(.tmp 21), (.tmp 23), (.tmp 25), (.tmp 27), (.tmp 29), (.tmp 33)], #[25, 3, 9, 3, 3, 23]⟩, true, none⟩]) <|
 .seq (.ops [⟨some 20, .move (.tmp 34), false, none⟩]) <|
 .seq (.ops [⟨some 35, .extract (.tmp 20) 0, false, none⟩]) <|
 .seq (.ops [⟨some 36, .extract (.tmp 20) 1, false, none⟩]) <|
 .seq (.ops [⟨some 8, .assign (.tmp 35), false, none⟩]) <|
 .seq (.ops [⟨some 10, .assign (.tmp 36), false, none⟩]) <|
 .skip) (.seq (.ops [⟨some 33, .call ⟨.builtin .append, #[(.tmp 30), (.tmp 32)], #[23, 23]⟩, true, none⟩]) <|
 .seq (.ops [⟨some 23, .load 3 (.tmp 22), false, none⟩]) <|
 .seq (.ops [⟨some 29, .load 3 (.tmp 28), false, none⟩]) <|
 .seq (.ops [⟨some 34, .call ⟨.value (.func 9), #[(.tmp 21), (.tmp 23), (.tmp 25), (.tmp 27), (.tmp 29), (.tmp 33)], #[25, 3, 9, 3, 3, 23]⟩, true, none⟩]) <|
 .seq (.ops [⟨some 20, .move (.tmp 34), false, none⟩]) <|
 .seq (.ops [⟨some 35, .extract (.tmp 20) 0, false, none⟩]) <|
 .seq (.ops [⟨some 36, .extract (.tmp 20) 1, false, none⟩]) <|
 .seq (.ops [⟨some 8, .assign (.tmp 35), false, none⟩]) <|
 .seq (.ops [⟨some 10, .assign (.tmp 36), false, none⟩]) <|
 .skip)) (.amb (.seq (.ops [⟨some 29, .load 3 (.tmp 28), false, none⟩]) <|
 .seq (.ops [⟨some 33, .call ⟨.builtin .append, #[(.tmp 30), (.tmp 32)], #[23, 23]⟩, true, none⟩]) <|
 .seq (.ops [⟨some 23, .load 3 (.tmp 22), false, none⟩]) <|
 .seq (.ops [⟨some 27, .load 3 (.tmp 26), false, none⟩]) <|
 .seq (.ops [⟨some 34, .call ⟨.value (.func 9), #[(.tmp 21), (.tmp 23), (.tmp 25), (.tmp 27), (.tmp 29), (.tmp 33)], #[25, 3, 9, 3, 3, 23]⟩, true, none⟩]) <|
 .seq (.ops [⟨some 20, .move (.tmp 34), false, none⟩]) <|
 .seq (.ops [⟨some 35, .extract (.tmp 20) 0, false, none⟩]) <|
 .seq (.ops [⟨some 36, .extract (.tmp 20) 1, false, none⟩]) <|
 .seq (.ops [⟨some 8, .assign (.tmp 35), false, none⟩]) <|
 .seq (.ops [⟨some 10, .assign (.tmp 36), false, none⟩]) <|
 .skip) (.seq (.ops [⟨some 33, .call ⟨.builtin .append, #[(.tmp 30), (.tmp 32)], #[23, 23]⟩, true, none⟩]) <|
 .seq (.ops [⟨some 23, .load 3 (.tmp 22), false, none⟩]) <|
 .seq (.ops [⟨some 27, .load 3 (.tmp 26), false, none⟩]) <|
 .seq (.ops [⟨some 29, .load 3 (.tmp 28), false, none⟩]) <|
 .seq (.ops [⟨some 34, .call ⟨.value (.func 9), #[(.tmp 21), (.tmp 23), (.tmp 25), (.tmp 27), (.tmp 29), (.tmp 33)], #[25, 3, 9, 3, 3, 23]⟩, true, none⟩]) <|
 .seq (.ops [⟨some 20, .move (.tmp 34), false, none⟩]) <|
 .seq (.ops [⟨some 35, .extract (.tmp 20) 0, false, none⟩]) <|
 .seq (.ops [⟨some 36, .extract (.tmp 20) 1, false, none⟩]) <|
 .seq (.ops [⟨some 8, .assign (.tmp 35), false, none⟩]) <|
 .seq (.ops [⟨some 10, .assign (.tmp 36), false, none⟩]) <|
 .skip))) (.amb (.seq (.ops [⟨some 27, .load 3 (.tmp 26), false, none⟩]) <|
 .amb (.seq (.ops [⟨some 29, .load 3 (.tmp 28), false, none⟩]) <|
 .seq (.ops [⟨some 33, .call ⟨.builtin .append, #[(.tmp 30), (.tmp 32)], #[23, 23]⟩, true, none⟩]) <|
 .seq (.ops [⟨some 23, .load 3 (.tmp 22), false, none⟩]) <|
 .seq (.ops [⟨some 25, .load 9 (.tmp 24), false, none⟩]) <|
 .seq (.ops [⟨some 34, .call ⟨.value (.func 9), #[(.tmp 21), (.tmp 23), (.tmp 25), (.tmp 27), (.tmp 29), (.tmp 33)], #[25, 3, 9, 3, 3, 23]⟩, true, none⟩]) <|
 .seq (.ops [⟨some 20, .move (.tmp 34), false, none⟩]) <|
 .seq (.ops [⟨some 35, .extract (.tmp 20) 0, false, none⟩]) <|
 .seq (.ops [⟨some 36, .extract (.tmp 20) 1, false, none⟩]) <|
 .seq (.ops [⟨some 8, .assign (.tmp 35), false, none⟩]) <|
 .seq (.ops [⟨some 10, .assign (.tmp 36), false, none⟩]) <|
 .skip) (.seq (.ops [⟨some 33, .call ⟨.builtin .append, #[(.tmp 30), (.tmp 32)], #[23, 23]⟩, true, none⟩]) <|
 .seq (.ops [⟨some 23, .load 3 (.tmp 22), false, none⟩]) <|
 .seq (.ops [⟨some 25, .load 9 (.tmp 24), false, none⟩]) <|
 .seq (.ops [⟨some 29, .load 3 (.tmp 28), false, none⟩]) <|
 .seq (.ops [⟨some 34, .call ⟨.value (.func 9), #[(.tmp 21), (.tmp 23), (.tmp 25), (.tmp 27), (.tmp 29), (.tmp 33)], #[25, 3, 9, 3, 3, 23]⟩, true, none⟩]) <|
 .seq (.ops [⟨some 20, .move (.tmp 34), false, none⟩]) <|
 .seq (.ops [⟨some 35, .extract (.tmp 20) 0, false, none⟩]) <|
 .seq (.ops [⟨some 36, .extract (.tmp 20) 1, false, none⟩]) <|
 .seq (.ops [⟨some 8, .assign (.tmp 35), false, none⟩]) <|
 .seq (.ops [⟨some 10, .assign (.tmp 36), false, none⟩]) <|
 .skip)) (.amb (.seq (.ops [⟨some 29, .load 3 (.tmp 28), false, none⟩]) <|
 .seq (.ops [⟨some 33, .call ⟨.builtin .append, #[(.tmp 30), (.tmp 32)], #[23, 23]⟩, true, none⟩]) <|
 .seq (.ops [⟨some 23, .load 3 (.tmp 22), false, none⟩]) <|
 .seq (.ops [⟨some 25, .load 9 (.tmp 24), false, none⟩]) <|
 .seq (.ops [⟨some 27, .load 3 (.tmp 26), false, none⟩]) <|
 .seq (.ops [⟨some 34, .call ⟨.value (.func 9), #[(.tmp 21), (.tmp 23), (.tmp 25), (.tmp 27), (.tmp 29), (.tmp 33)], #[25, 3, 9, 3, 3, 23]⟩, true, none⟩]) <|
 .seq (.ops [⟨some 20, .move (.tmp 34), false, none⟩]) <|
 .seq (.ops [⟨some 35, .extract (.tmp 20) 0, false, none⟩]) <|
 .seq (.ops [⟨some 36, .extract (.tmp 20) 1, false, none⟩]) <|
 .seq (.ops [⟨some 8, .assign (.tmp 35), false, none⟩]) <|
 .seq (.ops [⟨some 10, .assign (.tmp 36), false, none⟩]) <|
 .skip) (.seq (.ops [⟨some 33, .call ⟨.builtin .append, #[(.tmp 30), (.tmp 32)], #[23, 23]⟩, true, none⟩]) <|
 .seq (.ops [⟨some 23, .load 3 (.tmp 22), false, none⟩]) <|
 .seq (.ops [⟨some 25, .load 9 (.tmp 24), false, none⟩]) <|
 .seq (.ops [⟨some 27, .load 3 (.tmp 26), false, none⟩]) <|
 .seq (.ops [⟨some 29, .load 3 (.tmp 28), false, none⟩]) <|
 .seq (.ops [⟨some 34, .call ⟨.value (.func 9), #[(.tmp 21), (.tmp 23), (.tmp 25), (.tmp 27), (.tmp 29), (.tmp 33)], #[25, 3, 9, 3, 3, 23]⟩, true, none⟩]) <|
 .seq (.ops [⟨some 20, .move (.tmp 34), false, none⟩]) <|
 .seq (.ops [⟨some 35, .extract (.tmp 20) 0, false, none⟩]) <|
 .seq (.ops [⟨some 36, .extract (.tmp 20) 1, false, none⟩]) <|
 .seq (.ops [⟨some 8, .assign (.tmp 35), false, none⟩]) <|
 .seq (.ops [⟨some 10, .assign (.tmp 36), false, none⟩]) <|
 .skip)))))))))) <|
 .seq (.keep [1, 5, 8, 10, 12, 13]) <|
 .ops [⟨some 38, .move (.tmp 1), false, none⟩,
  ⟨some 39, .fieldAddr 52 (.tmp 5) 1, false, none⟩,
  ⟨some 40, .load 3 (.tmp 39), false, none⟩,
  ⟨some 41, .fieldAddr 52 (.tmp 5) 5, false, none⟩,
  ⟨some 42, .load 9 (.tmp 41), false, none⟩,
  ⟨some 43, .fieldAddr 52 (.tmp 5) 3, false, none⟩,
  ⟨some 44, .load 3 (.tmp 43), false, none⟩,
  ⟨some 45, .fieldAddr 52 (.tmp 5) 4, false, none⟩,
  ⟨some 46, .load 3 (.tmp 45), false, none⟩,
  ⟨some 47, .fieldAddr 52 (.tmp 5) 7, false, none⟩,
  ⟨some 48, .load 23 (.tmp 47), false, none⟩,
  ⟨some 49, .call ⟨.value (.func 40), #[(.tmp 38), (.tmp 40), (.tmp 42), (.tmp 44), (.tmp 46), (.tmp 48)], #[48, 3, 9, 3, 3, 23]⟩, true, none⟩,
  ⟨some 37, .move (.tmp 49), false, none⟩,
  ⟨some 50, .extract (.tmp 37) 0, false, none⟩,
  ⟨some 51, .extract (.tmp 37) 1, false, none⟩,
  ⟨some 9, .assign (.tmp 50), false, none⟩,
  ⟨some 11, .assign (.tmp 51), false, none⟩]) <|
 .seq (.ops [⟨some 53, .binOp .eql 3 (.tmp 17) (.const (.int .i64 2)) 3, false, none⟩,
  ⟨some 52, .assign (.tmp 53), false, none⟩]) <|
 .seq (.keep [0, 1, 5, 8, 9, 10, 11, 12, 13, 17, 52]) <|
 .cond (.tmp 52) (.seq (.ops [⟨some 54, .move (.tmp 0), false, none⟩]) <|
 .seq (.ops [⟨some 55, .fieldAddr 52 (.tmp 5) 1, false, none⟩]) <|
 .seq (.ops [⟨some 56, .load 3 (.tmp 55), false, none⟩]) <|
 .seq (.ops [⟨some 57, .fieldAddr 52 (.tmp 5) 5, false, none⟩]) <|
 .seq (.ops [⟨some 58, .load 9 (.tmp 57), false, none⟩]) <|
 .seq (.ops [⟨some 59, .fieldAddr 52 (.tmp 5) 2, false, none⟩]) <|
 .seq (.ops [⟨some 60, .load 3 (.tmp 59), false, none⟩]) <|
 .seq (.ops [⟨some 62, .move (.tmp 1), false, none⟩]) <|
 .seq (.ops [⟨some 63, .fieldAddr 52 (.tmp 5) 1, false, none⟩]) <|
 .seq (.ops [⟨some 65, .fieldAddr 52 (.tmp 5) 5, false, none⟩]) <|
 .seq (.ops [⟨some 67, .fieldAddr 52 (.tmp 5) 2, false, none⟩]) <|
 .amb (.seq (.ops [⟨some 61, .call ⟨.value (.func 41), #[(.tmp 54), (.tmp 56), (.tmp 58), (.tmp 60)], #[25, 3, 9, 3]⟩, true, none⟩]) <|
 .seq (.ops [⟨some 64, .load 3 (.tmp 63), false, none⟩]) <|
 .seq (.ops [⟨some 66, .load 9 (.tmp 65), false, none⟩]) <|
 .seq (.ops [⟨some 68, .load 3 (.tmp 67), false, none⟩]) <|
 .seq (.ops [⟨some 69, .call ⟨.value (.func 42), #[(.tmp 62), (.tmp 64), (.tmp 66), (.tmp 68)], #[48, 3, 9, 3]⟩, true, none⟩]) <|
 .seq (.ops [⟨some 10, .assign (.tmp 61), false, none⟩]) <|
 .seq (.ops [⟨some 11, .assign (.tmp 69), false, none⟩]) <|
 .skip) (.amb (.seq (.ops [⟨some 64, .load 3 (.tmp 63), false, none⟩]) <|
 .amb (.seq (.ops [⟨some 61, .call ⟨.value (.func 41), #[(.tmp 54), (.tmp 56), (.tmp 58), (.tmp 60)], #[25, 3, 9, 3]⟩, true, none⟩]) <|
 .seq (.ops [⟨some 66, .load 9 (.tmp 65), false, none⟩]) <|
 .seq (.ops [⟨some 68, .load 3 (.tmp 67), false, none⟩]) <|
 .seq (.ops [⟨some 69, .call ⟨.value (.func 42), #[(.tmp 62), (.tmp 64), (.tmp 66), (.tmp 68)], #[48, 3, 9, 3]⟩, true, none⟩]) <|
 .seq (.ops [⟨some 10, .assign (.tmp 61), false, none⟩]) <|
 .seq (.ops [⟨some 11, .assign (.tmp 69), false, none⟩]) <|
 .skip) (.amb (.seq (.ops [⟨some 66, .load 9 (.tmp 65), false, none⟩]) <|
 .amb (.seq (.ops [⟨some 61, .call ⟨.value (.func 41), #[(.tmp 54), (.tmp 56), (.tmp 58), (.tmp 60)], #[25, 3, 9, 3]⟩, true, none⟩]) <|
 .seq (.ops [⟨some 68, .load 3 (.tmp 67), false, none⟩]) <|
 .seq (.ops [⟨some 69, .call ⟨.value (.func 42), #[(.tmp 62), (.tmp 64), (.tmp 66), (.tmp 68)], #[48, 3, 9, 3]⟩, true, none⟩]) <|
 .seq (.ops [⟨some 10, .assign (.tmp 61), false, none⟩]) <|
 .seq (.ops [⟨some 11, .assign (.tmp 69), false, none⟩]) <|
 .skip) (.seq (.ops [⟨some 68, .load 3 (.tmp 67), false, none⟩]) <|
 .seq (.ops [⟨some 61, .call ⟨.value (.func 41), #[(.tmp 54), (.tmp 56), (.tmp 58), (.tmp 60)], #[25, 3, 9, 3]⟩, true, none⟩]) <|
 .seq (.ops [⟨some 69, .call ⟨.value (.func 42), #[(.tmp 62), (.tmp 64), (.tmp 66), (.tmp 68)], #[48, 3, 9, 3]⟩, true, none⟩]) <|
 .seq (.ops [⟨some 10, .assign (.tmp 61), false, none⟩]) <|
 .seq (.ops [⟨some 11, .assign (.tmp 69), false, none⟩]) <|
 .skip)) (.seq (.ops [⟨some 68, .load 3 (.tmp 67), false, none⟩]) <|
 .seq (.ops [⟨some 61, .call ⟨.value (.func 41), #[(.tmp 54), (.tmp 56), (.tmp 58), (.tmp 60)], #[25, 3, 9, 3]⟩, true, none⟩]) <|
 .seq (.ops [⟨some 66, .load 9 (.tmp 65), false, none⟩]) <|
 .seq (.ops [⟨some 69, .call ⟨.value (.func 42), #[(.tmp 62), (.tmp 64), (.tmp 66), (.tmp 68)], #[48, 3, 9, 3]⟩, true, none⟩]) <|
 .seq (.ops [⟨some 10, .assign (.tmp 61), false, none⟩]) <|
 .seq (.ops [⟨some 11, .assign (.tmp 69), false, none⟩]) <|
 .skip))) (.amb (.seq (.ops [⟨some 66, .load 9 (.tmp 65), false, none⟩]) <|
 .amb (.seq (.ops [⟨some 61, .call ⟨.value (.func 41), #[(.tmp 54), (.tmp 56), (.tmp 58), (.tmp 60)], #[25, 3, 9, 3]⟩, true, none⟩]) <|
 .seq (.ops [⟨some 64, .load 3 (.tmp 63), false, none⟩]) <|
 .seq (.ops [⟨some 68, .load 3 (.tmp 67), false, none⟩]) <|
 .seq (.ops [⟨some 69, .call ⟨.value (.func 42), #[(.tmp 62), (.tmp 64), (.tmp 66), (.tmp 68)], #[48, 3, 9, 3]⟩, true, none⟩]) <|
 .seq (.ops [⟨some 10, .assign (.tmp 61), false, none⟩]) <|
 .seq (.ops [⟨some 11, .assign (.tmp 69), false, none⟩]) <|
 .skip) (.seq (.ops [⟨some 68, .load 3 (.tmp 67), false, none⟩]) <|
 .seq (.ops [⟨some 61, .call ⟨.value (.func 41), #[(.tmp 54), (.tmp 56), (.tmp 58), (.tmp 60)], #[25, 3, 9, 3]⟩, true, none⟩]) <|
 .seq (.ops [⟨some 64, .load 3 (.tmp 63), false, none⟩]) <|
 .seq (.ops [⟨some 69, .call ⟨.value (.func 42), #[(.tmp 62), (.tmp 64), (.tmp 66), (.tmp 68)], #[48, 3, 9, 3]⟩, true, none⟩]) <|
 .seq (.ops [⟨some 10, .assign (.tmp 61), false, none⟩]) <|
 .seq (.ops [⟨some 11, .assign (.tmp 69), false, none⟩]) <|
 .skip)) (.seq (.ops [⟨some 68, .load 3 (.tmp 67), false, none⟩]) <|
 .seq (.ops [⟨some 61, .call ⟨.value (.func 41), #[(.tmp 54), (.tmp 56), (.tmp 58), (.tmp 60)], #[25, 3, 9, 3]⟩, true, none⟩]) <|
 .seq (.ops [⟨some 64, .load 3 (.tmp 63), false, none⟩]) <|
 .seq (.ops [⟨some 66, .load 9 (.tmp 65), false, none⟩]) <|
 .seq (.ops [⟨some 69, .call ⟨.value (.func 42), #[(.tmp 62), (.tmp 64), (.tmp 66), (.tmp 68)], #[48, 3, 9, 3]⟩, true, none⟩]) <|
 .seq (.ops [⟨some 10, .assign (.tmp 61), false, none⟩]) <|
 .seq (.ops [⟨some 11, .assign (.tmp 69), false, none⟩]) <|
 .skip)))) <|
 .seq (.ops [⟨some 71, .binOp .eql 3 (.tmp 17) (.const (.int .i64 3)) 3, false, none⟩,
  ⟨some 70, .assign (.tmp 71), false, none⟩]) <|
 .seq (.keep [0, 1, 5, 8, 9, 10, 11, 12, 13, 17, 70]) <|
 .cond (.tmp 70) (.seq (.ops [⟨some 72, .move (.tmp 0), false, none⟩]) <|
 .seq (.ops [⟨some 73, .fieldAddr 52 (.tmp 5) 1, false, none⟩]) <|
 .seq (.ops [⟨some 74, .load 3 (.tmp 73), false, none⟩]) <|
 .seq (.ops [⟨some 75, .fieldAddr 52 (.tmp 5) 5, false, none⟩]) <|
 .seq (.ops [⟨some 76, .load 9 (.tmp 75), false, none⟩]) <|
 .seq (.ops [⟨some 77, .fieldAddr 52 (.tmp 5) 8, false, none⟩]) <|
 .seq (.ops [⟨some 78, .load 4 (.tmp 77), false, none⟩]) <|
 .seq (.ops [⟨some 80, .move (.tmp 1), false, none⟩]) <|
 .seq (.ops [⟨some 81, .fieldAddr 52 (.tmp 5) 1, false, none⟩]) <|
 .seq (.ops [⟨some 83, .fieldAddr 52 (.tmp 5) 5, false, none⟩]) <|
 .seq (.ops [⟨some 85, .fieldAddr 52 (.tmp 5) 8, false, none⟩]) <|
 .amb (.seq (.ops [⟨some 79, .call ⟨.value (.func 16), #[(.tmp 72), (.tmp 74), (.tmp 76), (.tmp 78)], #[25, 3, 9, 4]⟩, true, none⟩]) <|
 .seq (.ops [⟨some 82, .load 3 (.tmp 81), false, none⟩]) <|
 .seq (.ops [⟨some 84, .load 9 (.tmp 83), false, none⟩]) <|
 .seq (.ops [⟨some 86, .load 4 (.tmp 85), false, none⟩]) <|
 .seq (.ops [⟨some 87, .call ⟨.value (.func 43), #[(.tmp 80), (.tmp 82), (.tmp 84), (.tmp 86)], #[48, 3, 9, 4]⟩, true, none⟩]) <|
 .seq (.ops [⟨some 10, .assign (.tmp 79), false, none⟩]) <|
 .seq (.ops [⟨some 11, .assign (.tmp 87), false, none⟩]) <|
 .skip) (.amb (.seq (.ops [⟨some 82, .load 3 (.tmp 81), false, none⟩]) <|
 .amb (.seq (.ops [⟨some 79, .call ⟨.value (.func 16), #[(.tmp 72), (.tmp 74), (.tmp 76), (.tmp 78)], #[25, 3, 9, 4]⟩, true, none⟩]) <|
 .seq (.ops [⟨some 84, .load 9 (.tmp 83), false, none⟩]) <|
 .seq (.ops [⟨some 86, .load 4 (.tmp 85), false, none⟩]) <|
 .seq (.ops [⟨some 87, .call ⟨.value (.func 43), #[(.tmp 80), (.tmp 82), (.tmp 84), (.tmp 86)], #[48, 3, 9, 4]⟩, true, none⟩]) <|
 .seq (.ops [⟨some 10, .assign (.tmp 79), false, none⟩]) <|
 .seq (.ops [⟨some 11, .assign (.tmp 87), false, none⟩]) <|
 .skip) (.amb (.seq (.ops [⟨some 84, .load 9 (.tmp 83), false, none⟩]) <|
 .amb (.seq (.ops [⟨some 79, .call ⟨.value (.func 16), #[(.tmp 72), (.tmp 74), (.tmp 76), (.tmp 78)], #[25, 3, 9, 4]⟩, true, none⟩]) <|
 .seq (.ops [⟨some 86, .load 4 (.tmp 85), false, none⟩]) <|
 .seq (.ops [⟨some 87, .call ⟨.value (.func 43), #[(.tmp 80), (.tmp 82), (.tmp 84), (.tmp 86)], #[48, 3, 9, 4]⟩, true, none⟩]) <|
 .seq (.ops [⟨some 10, .assign (.tmp 79), false, none⟩]) <|
 .seq (.ops [⟨some 11, .assign (.tmp 87), false, none⟩]) <|
 .skip) (.seq (.ops [⟨some 86, .load 4 (.tmp 85), false, none⟩]) <|
 .seq (.ops [⟨some 79, .call ⟨.value (.func 16), #[(.tmp 72), (.tmp 74), (.tmp 76), (.tmp 78)], #[25, 3, 9, 4]⟩, true, none⟩]) <|
 .seq (.ops [⟨some 87, .call ⟨.value (.func 43), #[(.tmp 80), (.tmp 82), (.tmp 84), (.tmp 86)], #[48, 3, 9, 4]⟩, true, none⟩]) <|
 .seq (.ops [⟨some 10, .assign (.tmp 79), false, none⟩]) <|
 .seq (.ops [⟨some 11, .assign (.tmp 87), false, none⟩]) <|
 .skip)) (.seq (.ops [⟨some 86, .load 4 (.tmp 85), false, none⟩]) <|
 .seq (.ops [⟨some 79, .call ⟨.value (.func 16), #[(.tmp 72), (.tmp 74), (.tmp 76), (.tmp 78)], #[25, 3, 9, 4]⟩, true, none⟩]) <|
 .seq (.ops [⟨some 84, .load 9 (.tmp 83), false, none⟩]) <|
 .seq (.ops [⟨some 87, .call ⟨.value (.func 43), #[(.tmp 80), (.tmp 82), (.tmp 84), (.tmp 86)], #[48, 3, 9, 4]⟩, true, none⟩]) <|
 .seq (.ops [⟨some 10, .assign (.tmp 79), false, none⟩]) <|
 .seq (.ops [⟨some 11, .assign (.tmp 87), false, none⟩]) <|
 .skip))) (.amb (.seq (.ops [⟨some 84, .load 9 (.tmp 83), false, none⟩]) <|
 .amb (.seq (.ops [⟨some 79, .call ⟨.value (.func 16), #[(.tmp 72), (.tmp 74), (.tmp 76), (.tmp 78)], #[25, 3, 9, 4]⟩, true, none⟩]) <|
 .seq (.ops [⟨some 82, .load 3 (.tmp 81), false, none⟩]) <|
 .seq (.ops [⟨some 86, .load 4 (.tmp 85), false, none⟩]) <|
 .seq (.ops [⟨some 87, .call ⟨.value (.func 43), #[(.tmp 80), (.tmp 82), (.tmp 84), (.tmp 86)], #[48, 3, 9, 4]⟩, true, none⟩]) <|
 .seq (.ops [⟨some 10, .assign (.tmp 79), false, none⟩]) <|
 .seq (.ops [⟨some 11, .assign (.tmp 87), false, none⟩]) <|
 .skip) (.seq (.ops [⟨some 86, .load 4 (.tmp 85), false, none⟩]) <|
 .seq (.ops [⟨some 79, .call ⟨.value (.func 16), #[(.tmp 72), (.tmp 74), (.tmp 76), (.tmp 78)], #[25, 3, 9, 4]⟩, true, none⟩]) <|
 .seq (.ops [⟨some 82, .load 3 (.tmp 81), false, none⟩]) <|
 .seq (.ops [⟨some 87, .call ⟨.value (.func 43), #[(.tmp 80), (.tmp 82), (.tmp 84), (.tmp 86)], #[48, 3, 9, 4]⟩, true, none⟩]) <|
 .seq (.ops [⟨some 10, .assign (.tmp 79), false, none⟩]) <|
 .seq (.ops [⟨some 11, .assign (.tmp 87), false, none⟩]) <|
 .skip)) (.seq (.ops [⟨some 86, .load 4 (.tmp 85), false, none⟩]) <|
 .seq (.ops [⟨some 79, .call ⟨.value (.func 16), #[(.tmp 72), (.tmp 74), (.tmp 76), (.tmp 78)], #[25, 3, 9, 4]⟩, true, none⟩]) <|
 .seq (.ops [⟨some 82, .load 3 (.tmp 81), false, none⟩]) <|
 .seq (.ops [⟨some 84, .load 9 (.tmp 83), false, none⟩]) <|
 .seq (.ops [⟨some 87, .call ⟨.value (.func 43), #[(.tmp 80), (.tmp 82), (.tmp 84), (.tmp 86)], #[48, 3, 9, 4]⟩, true, none⟩]) <|
 .seq (.ops [⟨some 10, .assign (.tmp 79), false, none⟩]) <|
 .seq (.ops [⟨some 11, .assign (.tmp 87), false, none⟩]) <|
 .skip)))) <|
 .seq (.ops [⟨some 89, .binOp .eql 3 (.tmp 17) (.const (.int .i64 4)) 3, false, none⟩,
  ⟨some 88, .assign (.tmp 89), false, none⟩]) <|
 .seq (.keep [0, 1, 5, 8, 9, 10, 11, 12, 13, 17, 88]) <|
 .cond (.tmp 88) (.seq (.ops [⟨some 90, .move (.tmp 0), false, none⟩]) <|
 .seq (.ops [⟨some 91, .fieldAddr 52 (.tmp 5) 1, false, none⟩]) <|
 .seq (.ops [⟨some 92, .load 3 (.tmp 91), false, none⟩]) <|
 .seq (.ops [⟨some 93, .fieldAddr 52 (.tmp 5) 5, false, none⟩]) <|
 .seq (.ops [⟨some 94, .load 9 (.tmp 93), false, none⟩]) <|
 .seq (.ops [⟨some 95, .fieldAddr 52 (.tmp 5) 2, false, none⟩]) <|
 .seq (.ops [⟨some 96, .load 3 (.tmp 95), false, none⟩]) <|
 .seq (.ops [⟨some 97, .fieldAddr 52 (.tmp 5) 6, false, none⟩]) <|
 .seq (.ops [⟨some 98, .load 9 (.tmp 97), false, none⟩]) <|
 .seq (.ops [⟨some 100, .move (.tmp 1), false, none⟩]) <|
 .seq (.ops [⟨some 101, .fieldAddr 52 (.tmp 5) 1, false, none⟩]) <|
 .seq (.ops [⟨some 103, .fieldAddr 52 (.tmp 5) 5, false, none⟩]) <|
 .seq (.ops [⟨some 105, .fieldAddr 52 (.tmp 5) 2, false, none⟩]) <|
 .seq (.ops [⟨some 107, .fieldAddr 52 (.tmp 5) 6, false, none⟩]) <|
 .amb (.seq (.ops [⟨some 99, .call ⟨.value (.func 44), #[(.tmp 90), (.tmp 92), (.tmp 94), (.tmp 96), (.tmp 98)], #[25, 3, 9, 3, 9]⟩, true, none⟩]) <|
 .seq (.ops [⟨some 102, .load 3 (.tmp 101), false, none⟩]) <|
 .seq (.ops [⟨some 104, .load 9 (.tmp 103), false, none⟩]) <|
 .seq (.ops [⟨some 106, .load 3 (.tmp 105), false, none⟩]) <|
 .seq (.ops [⟨some 108, .load 9 (.tmp 107), false, none⟩]) <|
 .seq (.ops [⟨some 109, .call ⟨.value (.func 45), #[(.tmp 100), (.tmp 102), (.tmp 104), (.tmp 106), (.tmp 108)], #[48, 3, 9, 3, 9]⟩, true, none⟩]) <|
 .seq (.ops [⟨some 10, .assign (.tmp 99), false, none⟩]) <|
 .seq (.ops [⟨some 11, .assign (.tmp 109), false, none⟩]) <|
 .skip) (.amb (.seq (.ops [⟨some 102, .load 3 (.tmp 101), false, none⟩]) <|
 .amb (.seq (.ops [⟨some 99, .call ⟨.value (.func 44), #[(.tmp 90), (.tmp 92), (.tmp 94), (.tmp 96), (.tmp 98)], #[25, 3, 9, 3, 9]⟩, true, none⟩]) <|
 .seq (.ops [⟨some 104, .load 9 (.tmp 103), false, none⟩]) <|
 .seq (.ops [⟨some 106, .load 3 (.tmp 105), false, none⟩]) <|
 .seq (.ops [⟨some 108, .load 9 (.tmp 107), false, none⟩]) <|
 .seq (.ops [⟨some 109, .call ⟨.value (.func 45), #[(.tmp 100), (.tmp 102), (.tmp 104), (.tmp 106), (.tmp 108)], #[48, 3, 9, 3, 9]⟩, true, none⟩]) <|
 .seq (.ops [⟨some 10, .assign (.tmp 99), false, none⟩]) <|
 .seq (.ops [⟨some 11, .assign (.tmp 109), false, none⟩]) <|
 .skip) (.amb (.seq (.ops [⟨some 104, .load 9 (.tmp 103), false, none⟩]) <|
 .amb (.seq (.ops [⟨some 99, .call ⟨.value (.func 44), #[(.tmp 90), (.tmp 92), (.tmp 94), (.tmp 96), (.tmp 98)], #[25, 3, 9, 3, 9]⟩, true, none⟩]) <|
 .seq (.ops [⟨some 106, .load 3 (.tmp 105), false, none⟩]) <|
 .seq (.ops [⟨some 108, .load 9 (.tmp 107), false, none⟩]) <|
 .seq (.ops [⟨some 109, .call ⟨.value (.func 45), #[(.tmp 100), (.tmp 102), (.tmp 104), (.tmp 106), (.tmp 108)], #[48, 3, 9, 3, 9]⟩, true, none⟩]) <|
 .seq (.ops [⟨some 10, .assign (.tmp 99), false, none⟩]) <|
 .seq (.ops [⟨some 11, .assign (.tmp 109), false, none⟩]) <|
 .skip) (.amb (.seq (.ops [⟨some 106, .load 3 (.tmp 105), false, none⟩]) <|
 .amb (.seq (.ops [⟨some 99, .call ⟨.value (.func 44), #[(.tmp 90), (.tmp 92), (.tmp 94), (.tmp 96), (.tmp 98)], #[25, 3, 9, 3, 9]⟩, true, none⟩]) <|
 .seq (.ops [⟨some 108, .load 9 (.tmp 107), false, none⟩]) <|
 .seq (.ops [⟨some 109, .call ⟨.value (.func 45), #[(.tmp 100), (.tmp 102), (.tmp 104), (.tmp 106), (.tmp 108)], #[48, 3, 9, 3, 9]⟩, true, none⟩]) <|
 .seq (.ops [⟨some 10, .assign (.tmp 99), false, none⟩]) <|
 .seq (.ops [⟨some 11, .assign (.tmp 109), false, none⟩]) <|
 .skip) (.seq (.ops [⟨some 108, .load 9 (.tmp 107), false, none⟩]) <|
 .seq (.ops [⟨some 99, .call ⟨.value (.func 44), #[(.tmp 90), (.tmp 92), (.tmp 94), (.tmp 96), (.tmp 98)], #[25, 3, 9, 3, 9]⟩, true, none⟩]) <|
 .seq (.ops [⟨some 109, .call ⟨.value (.func 45), #[(.tmp 100), (.tmp 102), (.tmp 104), (.tmp 106), (.tmp 108)], #[48, 3, 9, 3, 9]⟩, true, none⟩]) <|
 .seq (.ops [⟨some 10, .assign (.tmp 99), false, none⟩]) <|
 .seq (.ops [⟨some 11, .assign (.tmp 109), false, none⟩]) <|
 .skip)) (.seq (.ops [⟨some 108, .load 9 (.tmp 107), false, none⟩]) <|
 .seq (.ops [⟨some 99, .call ⟨.value (.func 44), #[(.tmp 90), (.tmp 92), (.tmp 94), (.tmp 96), (.tmp 98)], #[25, 3, 9, 3, 9]⟩, true, none⟩]) <|
 .seq (.ops [⟨some 106, .load 3 (.tmp 105), false, none⟩]) <|
 .seq (.ops [⟨some 109, .call ⟨.value (.func 45), #[(.tmp 100), (.tmp 102), (.tmp 104), (.tmp 106), (.tmp 108)], #[48, 3, 9, 3, 9]⟩, true, none⟩]) <|
 .seq (.ops [⟨some 10, .assign (.tmp 99), false, none⟩]) <|
 .seq (.ops [⟨some 11, .assign (.tmp 109), false, none⟩]) <|
 .skip))) (.amb (.seq (.ops [⟨some 106, .load 3 (.tmp 105), false, none⟩]) <|
 .amb (.seq (.ops [⟨some 99, .call ⟨.value (.func 44), #[(.tmp 90), (.tmp 92), (.tmp 94), (.tmp 96), (.tmp 98)], #[25, 3, 9, 3, 9]⟩, true, none⟩]) <|
 .seq (.ops [⟨some 104, .load 9 (.tmp 103), false, none⟩]) <|
 .seq (.ops [⟨some 108, .load 9 (.tmp 107), false, none⟩]) <|
 .seq (.ops [⟨some 109, .call ⟨.value (.func 45), #[(.tmp 100), (.tmp 102), (.tmp 104), (.tmp 106), (.tmp 108)], #[48, 3, 9, 3, 9]⟩, true, none⟩]) <|
 .seq (.ops [⟨some 10, .assign (.tmp 99), false, none⟩]) <|
 .seq (.ops [⟨some 11, .assign (.tmp 109), false, none⟩]) <|
 .skip) (.seq (.ops [⟨some 108, .load 9 (.tmp 107), false, none⟩]) <|
 .seq (.ops [⟨some 99, .call ⟨.value (.func 44), #[(.tmp 90), (.tmp 92), (.tmp 94), (.tmp 96), (.tmp 98)], #[25, 3, 9, 3, 9]⟩, true, none⟩]) <|
 .seq (.ops [⟨some 104, .load 9 (.tmp 103), false, none⟩]) <|
 .seq (.ops [⟨some 109, .call ⟨.value (.func 45), #[(.tmp 100), (.tmp 102), (.tmp 104), (.tmp 106), (.tmp 108)], #[48, 3, 9, 3, 9]⟩, true, none⟩]) <|
 .seq (.ops [⟨some 10, .assign (.tmp 99), false, none⟩]) <|
 .seq (.ops [⟨some 11, .assign (.tmp 109), false, none⟩]) <|
 .skip)) (.seq (.ops [⟨some 108, .load 9 (.tmp 107), false, none⟩]) <|
 .seq (.ops [⟨some 99, .call ⟨.value (.func 44), #[(.tmp 90), (.tmp 92), (.tmp 94), (.tmp 96), (.tmp 98)], #[25, 3, 9, 3, 9]⟩, true, none⟩]) <|
 .seq (.ops [⟨some 104, .load 9 (.tmp 103), false, none⟩]) <|
 .seq (.ops [⟨some 106, .load 3 (.tmp 105), false, none⟩]) <|
 .seq (.ops [⟨some 109, .call ⟨.value (.func 45), #[(.tmp 100), (.tmp 102), (.tmp 104), (.tmp 106), (.tmp 108)], #[48, 3, 9, 3, 9]⟩, true, none⟩]) <|
 .seq (.ops [⟨some 10, .assign (.tmp 99), false, none⟩]) <|
 .seq (.ops [⟨some 11, .assign (.tmp 109), false, none⟩]) <|
 .skip)))) (.amb (.seq (.ops [⟨some 104, .load 9 (.tmp 103), false, none⟩]) <|
 .amb (.seq (.ops [⟨some 99, .call ⟨.value (.func 44), #[(.tmp 90), (.tmp 92), (.tmp 94), (.tmp 96), (.tmp 98)], #[25, 3, 9, 3, 9]⟩, true, none⟩]) <|
 .seq (.ops [⟨some 102, .load 3 (.tmp 101), false, none⟩]) <|
 .seq (.ops [⟨some 106, .load 3 (.tmp 105), false, none⟩]) <|
 .seq (.ops [⟨some 108, .load 9 (.tmp 107), false, none⟩]) <|
 .seq (.ops [⟨some 109, .call ⟨.value (.func 45), #[(.tmp 100), (.tmp 102), (.tmp 104), (.tmp 106), (.tmp 108)], #[48, 3, 9, 3, 9]⟩, true, none⟩]) <|
 .seq (.ops [⟨some 10, .assign (.tmp 99), false, none⟩]) <|
 .seq (.ops [⟨some 11, .assign (.tmp 109), false, none⟩]) <|
 .skip) (.amb (.seq (.ops [⟨some 106, .load 3 (.tmp 105), false, none⟩]) <|
 .amb (.seq (.ops [⟨some 99, .call ⟨.value (.func 44), #[(.tmp 90), (.tmp 92), (.tmp 94), (.tmp 96), (.tmp 98)], #[25, 3, 9, 3, 9]⟩, true, none⟩]) <|
 .seq (.ops [⟨some 102, .load 3 (.tmp 101), false, none⟩]) <|
 .seq (.ops [⟨some 108, .load 9 (.tmp 107), false, none⟩]) <|
 .seq (.ops [⟨some 109, .call ⟨.value (.func 45), #[(.tmp 100), (.tmp 102), (.tmp 104), (.tmp 106), (.tmp 108)], #[48, 3, 9, 3, 9]⟩, true, none⟩]) <|
 .seq (.ops [⟨some 10, .assign (.tmp 99), false, none⟩]) <|
 .seq (.ops [⟨some 11, .assign (.tmp 109), false, none⟩]) <|
 .skip) (.seq (.ops [⟨some 108, .load 9 (.tmp 107), false, none⟩]) <|
 .seq (.ops [⟨some 99, .call ⟨.value (.func 44), #[(.tmp 90), (.tmp 92), (.tmp 94), (.tmp 96), (.tmp 98)], #[25, 3, 9, 3, 9]⟩, true, none⟩]) <|
 .seq (.ops [⟨some 102, .load 3 (.tmp 101), false, none⟩]) <|
 .seq (.ops [⟨some 109, .call ⟨.value (.func 45), #[(.tmp 100), (.tmp 102), (.tmp 104), (.tmp 106), (.tmp 108)], #[48, 3, 9, 3, 9]⟩, true, none⟩]) <|
 .seq (.ops [⟨some 10, .assign (.tmp 99), false, none⟩]) <|
 .seq (.ops [⟨some 11, .assign (.tmp 109), false, none⟩]) <|
 .skip)) (.seq (.ops [⟨some 108, .load 9 (.tmp 107), false, none⟩]) <|
 .seq (.ops [⟨some 99, .call ⟨.value (.func 44), #[(.tmp 90), (.tmp 92), (.tmp 94), (.tmp 96), (.tmp 98)], #[25, 3, 9, 3, 9]⟩, true, none⟩]) <|
 .seq (.ops [⟨some 102, .load 3 (.tmp 101), false, none⟩]) <|
 .seq (.ops [⟨some 106, .load 3 (.tmp 105), false, none⟩]) <|
 .seq (.ops [⟨some 109, .call ⟨.value (.func 45), #[(.tmp 100), (.tmp 102), (.tmp 104), (.tmp 106), (.tmp 108)], #[48, 3, 9, 3, 9]⟩, true, none⟩]) <|
 .seq (.ops [⟨some 10, .assign (.tmp 99), false, none⟩]) <|
 .seq (.ops [⟨some 11, .assign (.tmp 109), false, none⟩]) <|
 .skip))) (.amb (.seq (.ops [⟨some 106, .load 3 (.tmp 105), false, none⟩]) <|
 .amb (.seq (.ops [⟨some 99, .call ⟨.value (.func 44), #[(.tmp 90), (.tmp 92), (.tmp 94), (.tmp 96), (.tmp 98)], #[25, 3, 9, 3, 9]⟩, true, none⟩]) <|
 .seq (.ops [⟨some 102, .load 3 (.tmp 101), false, none⟩]) <|
 .seq (.ops [⟨some 104, .load 9 (.tmp 103), false, none⟩]) <|
 .seq (.ops [⟨some 108, .load 9 (.tmp 107), false, none⟩]) <|
 .seq (.ops [⟨some 109, .call ⟨.value (.func 45), #[(.tmp 100), (.tmp 102), (.tmp 104), (.tmp 106), (.tmp 108)], #[48, 3, 9, 3, 9]⟩, true, none⟩]) <|
 .seq (.ops [⟨some 10, .assign (.tmp 99), false, none⟩]) <|
 .seq (.ops [⟨some 11, .assign (.tmp 109), false, none⟩]) <|
 .skip) (.seq (.ops [⟨some 108, .load 9 (.tmp 107), false, none⟩]) <|
 .seq (.ops [⟨some 99, .call ⟨.value (.func 44), #[(.tmp 90), (.tmp 92), (.tmp 94), (.tmp 96), (.tmp 98)], #[25, 3, 9, 3, 9]⟩, true, none⟩]) <|
 .seq (.ops [⟨some 102, .load 3 (.tmp 101), false, none⟩]) <|
 .seq (.ops [⟨some 104, .load 9 (.tmp 103), false, none⟩]) <|
 .seq (.ops [⟨some 109, .call ⟨.value (.func 45), #[(.tmp 100), (.tmp 102), (.tmp 104), (.tmp 106), (.tmp 108)], #[48, 3, 9, 3, 9]⟩, true, none⟩]) <|
 .seq (.ops [⟨some 10, .assign (.tmp 99), false, none⟩]) <|
 .seq (.ops [⟨some 11, .assign (.tmp 109), false, none⟩]) <|
 .skip)) (.seq (.ops [⟨some 108, .load 9 (.tmp 107), false, none⟩]) <|
 .seq (.ops [⟨some 99, .call ⟨.value (.func 44), #[(.tmp 90), (.tmp 92), (.tmp 94), (.tmp 96), (.tmp 98)], #[25, 3, 9, 3, 9]⟩, true, none⟩]) <|
 .seq (.ops [⟨some 102, .load 3 (.tmp 101), false, none⟩]) <|
 .seq (.ops [⟨some 104, .load 9 (.tmp 103), false, none⟩]) <|
 .seq (.ops [⟨some 106, .load 3 (.tmp 105), false, none⟩]) <|
 .seq (.ops [⟨some 109, .call ⟨.value (.func 45), #[(.tmp 100), (.tmp 102), (.tmp 104), (.tmp 106), (.tmp 108)], #[48, 3, 9, 3, 9]⟩, true, none⟩]) <|
 .seq (.ops [⟨some 10, .assign (.tmp 99), false, none⟩]) <|
 .seq (.ops [⟨some 11, .assign (.tmp 109), false, none⟩]) <|
 .skip))))) <|
 .seq (.ops [⟨some 111, .binOp .eql 3 (.tmp 17) (.const (.int .i64 5)) 3, false, none⟩,
  ⟨some 110, .assign (.tmp 111), false, none⟩]) <|
 .seq (.keep [0, 1, 5, 8, 9, 10, 11, 12, 13, 17, 110]) <|
 .cond (.tmp 110) (.seq (.ops [⟨some 113, .move (.tmp 0), false, none⟩,
  ⟨some 114, .fieldAddr 52 (.tmp 5) 1, false, none⟩,
  ⟨some 115, .load 3 (.tmp 114), false, none⟩,
  ⟨some 116, .fieldAddr 52 (.tmp 5) 3, false, none⟩,
  ⟨some 117, .load 3 (.tmp 116), false, none⟩,
  ⟨some 118, .fieldAddr 52 (.tmp 5) 4, false, none⟩,
  ⟨some 119, .load 3 (.tmp 118), false, none⟩,
  ⟨some 120, .call ⟨.value (.func 11), #[(.tmp 113), (.tmp 115), (.tmp 117), (.tmp 119)], #[25, 3, 3, 3]⟩, true, none⟩,
  ⟨some 112, .move (.tmp 120), false, none⟩,
  ⟨some 121, .extract (.tmp 112) 0, false, none⟩,
  ⟨some 122, .extract (.tmp 112) 1, false, none⟩,
  ⟨some 12, .assign (.tmp 121), false, none⟩,
  ⟨some 10, .assign (.tmp 122), false, none⟩]) <|
 .seq (.keep [1, 5, 8, 9, 10, 12]) <|
 .ops [⟨some 124, .move (.tmp 1), false, none⟩,
  ⟨some 125, .fieldAddr 52 (.tmp 5) 1, false, none⟩,
  ⟨some 126, .load 3 (.tmp 125), false, none⟩,
  ⟨some 127, .fieldAddr 52 (.tmp 5) 3, false, none⟩,
  ⟨some 128, .load 3 (.tmp 127), false, none⟩,
  ⟨some 129, .fieldAddr 52 (.tmp 5) 4, false, none⟩,
  ⟨some 130, .load 3 (.tmp 129), false, none⟩,
  ⟨some 131, .call ⟨.value (.func 46), #[(.tmp 124), (.tmp 126), (.tmp 128), (.tmp 130)], #[48, 3, 3, 3]⟩, true, none⟩,
  ⟨some 123, .move (.tmp 131), false, none⟩,
  ⟨some 132, .extract (.tmp 123) 0, false, none⟩,
  ⟨some 133, .extract (.tmp 123) 1, false, none⟩,
  ⟨some 13, .assign (.tmp 132), false, none⟩,
  ⟨some 11, .assign (.tmp 133), false, none⟩]) <|
 .seq (.ops [⟨some 135, .binOp .eql 3 (.tmp 17) (.const (.int .i64 6)) 3, false, none⟩,
  ⟨some 134, .assign (.tmp 135), false, none⟩]) <|
 .seq (.keep [0, 1, 5, 8, 9, 10, 11, 12, 13, 17, 134]) <|
 .cond (.tmp 134) (.seq (.seq (.ops [⟨some 137, .move (.tmp 0), false, none⟩]) <|
 .seq (.ops [⟨some 138, .fieldAddr 52 (.tmp 5) 1, false, none⟩]) <|
 .seq (.ops [⟨some 140, .fieldAddr 52 (.tmp 5) 3, false, none⟩]) <|
 .seq (.ops [⟨some 143, .fieldAddr 52 (.tmp 5) 7, false, none⟩]) <|
 .amb (.seq (.ops [⟨some 139, .load 3 (.tmp 138), false, none⟩]) <|
 .amb (.seq (.ops [⟨some 141, .load 3 (.tmp 140), false, none⟩]) <|
 .amb (.seq (.ops [⟨some 142, .buildSlice 23 0 #[], true, none⟩]) <|
 .seq (.ops [⟨some 144, .load 23 (.tmp 143), false, none⟩]) <|
 .seq (.ops [⟨some 145, .call ⟨.builtin .append, #[(.tmp 142), (.tmp 144)], #[23, 23]⟩, true, none⟩]) <|
 .seq (.ops [⟨some 146, .call ⟨.value (.func 10), #[(.tmp 137), (.tmp 139), (.tmp 141), (.tmp 145)], #[25, 3, 3, 23]⟩, true, none⟩]) <|
 .seq (.ops [⟨some 136, .move (.tmp 146), false, none⟩]) <|
 .seq (.ops [⟨some 147, .extract (.tmp 136) 0, false, none⟩]) <|
 .seq (.ops [⟨some 148, .extract (.tmp 136) 1, false, none⟩]) <|
 .seq (.ops [⟨some 8, .assign (.tmp 147), false, none⟩]) <|
 .seq (.ops [⟨some 10, .assign (.tmp 148), false, none⟩]) <|
 .skip) (.seq (.ops [⟨some 144, .load 23 (.tmp 143), false, none⟩]) <|
 .seq (.ops [⟨some 142, .buildSlice 23 0 #[], true, none⟩]) <|
 .seq (.ops [⟨some 145, .call ⟨.builtin .append, #[(.tmp 142), (.tmp 144)], #[23, 23]⟩, true, none⟩]) <|
 .seq (.ops [⟨some 146, .call ⟨.value (.func 10), #[(.tmp 137), (.tmp 139), (.tmp 141), (.tmp 145)], #[25, 3, 3, 23]⟩, true, none⟩]) <|
 .seq (.ops [⟨some 136, .move (.tmp 146), false, none⟩]) <|
 .seq (.ops [⟨some 147, .extract (.tmp 136) 0, false, none⟩]) <|
 .seq (.ops [⟨some 148, .extract (.tmp 136) 1, false, none⟩]) <|
 .seq (.ops [⟨some 8, .assign (.tmp 147), false, none⟩]) <|
 .seq (.ops [⟨some 10, .assign (.tmp 148), false, none⟩]) <|
 .skip)) (.amb (.seq (.ops [⟨some 142, .buildSlice 23 0 #[], true, none⟩]) <|
 .seq (.ops [⟨some 144, .load 23 (.tmp 143), false, none⟩]) <|
 .amb (.seq (.ops [⟨some 141, .load 3 (.tmp 140), false, none⟩]) <|
 .seq (.ops [⟨some 145, .call ⟨.builtin .append, #[(.tmp 142), (.tmp 144)], #[23, 23]⟩, true, none⟩]) <|
 .seq (.ops [⟨some 146, .call ⟨.value (.func 10), #[(.tmp 137), (.tmp 139), (.tmp 141), (.tmp 145)], #[25, 3, 3, 23]⟩, true, none⟩]) <|
 .seq (.ops [⟨some 136, .move (.tmp 146), false, none⟩]) <|
 .seq (.ops [⟨some 147, .extract (.tmp 136) 0, false, none⟩]) <|
 .seq (.ops [⟨some 148, .extract (.tmp 136) 1, false, none⟩]) <|
 .seq (.ops [⟨some 8, .assign (.tmp 147), false, none⟩]) <|
 .seq (.ops [⟨some 10, .assign (.tmp 148), false, none⟩]) <|
 .skip) (.seq (.ops [⟨some 145, .call ⟨.builtin .append, #[(.tmp 142), (.tmp 144)], #[23, 23]⟩, true, none⟩]) <|
 .seq (.ops [⟨some 141, .load 3 (.tmp 140), false, none⟩]) <|
 .seq (.ops [⟨some 146, .call ⟨.value (.func 10), #[(.tmp 137), (.tmp 139), (.tmp 141), (.tmp 145)], #[25, 3, 3, 23]⟩, true, none⟩]) <|
 .seq (.ops [⟨some 136, .move (.tmp 146), false, none⟩]) <|
 .seq (.ops [⟨some 147, .extract (.tmp 136) 0, false, none⟩]) <|
 .seq (.ops [⟨some 148, .extract (.tmp 136) 1, false, none⟩]) <|
 .seq (.ops [⟨some 8, .assign (.tmp 147), false, none⟩]) <|
 .seq (.ops [⟨some 10, .assign (.tmp 148), false, none⟩]) <|
 .skip)) (.seq (.ops [⟨some 144, .load 23 (.tmp 143), false, none⟩]) <|
 .seq (.ops [⟨some 142, .buildSlice 23 0 #[], true, none⟩]) <|
 .amb (.seq (.ops [⟨some 141, .load 3 (.tmp 140), false, none⟩]) <|
 .seq (.ops [⟨some 145, .call ⟨.builtin .append, #[(.tmp 142), (.tmp 144)], #[23, 23]⟩, true, none⟩]) <|
 .seq (.ops [⟨some 146, .call ⟨.value (.func 10), #[(.tmp 137), (.tmp 139), (.tmp 141), (.tmp 145)], #[25, 3, 3, 23]⟩, true, none⟩]) <|
 .seq (.ops [⟨some 136, .move (.tmp 146), false, none⟩]) <|
 .seq (.ops [⟨some 147, .extract (.tmp 136) 0, false, none⟩]) <|
 .seq (.ops [⟨some 148, .extract (.tmp 136) 1, false, none⟩]) <|
 .seq (.ops [⟨some 8, .assign (.tmp 147), false, none⟩]) <|
 .seq (.ops [⟨some 10, .assign (.tmp 148), false, none⟩]) <|
 .skip) (.seq (.ops [⟨some 145, .call ⟨.builtin .append, #[(.tmp 142), (.tmp 144)], #[23, 23]⟩, true, none⟩]) <|
 .seq (.ops [⟨some 141, .load 3 (.tmp 140), false, none⟩]) <|
 .seq (.ops [⟨some 146, .call ⟨.value (.func 10), #[(.tmp 137), (.tmp 139), (.tmp 141), (.tmp 145)], #[25, 3, 3, 23]⟩, true, none⟩]) <|
 .seq (.ops [⟨some 136, .move (.tmp 146), false, none⟩]) <|
 .seq (.ops [⟨some 147, .extract (.tmp 136) 0, false, none⟩]) <|
 .seq (.ops [⟨some 148, .extract (.tmp 136) 1, false, none⟩]) <|
 .seq (.ops [⟨some 8, .assign (.tmp 147), false, none⟩]) <|
 .seq (.ops [⟨some 10, .assign (.tmp 148), false, none⟩]) <|
 .skip)))) (.amb (.seq (.ops [⟨some 141, .load 3 (.tmp 140), false, none⟩]) <|
 .amb (.seq (.ops [⟨some 142, .buildSlice 23 0 #[], true, none⟩]) <|
 .seq (.ops [⟨some 144, .load 23 (.tmp 143), false, none⟩]) <|
 .amb (.seq (.ops [⟨some 139, .load 3 (.tmp 138), false, none⟩]) <|
 .seq (.ops [⟨some 145, .call ⟨.builtin .append, #[(.tmp 142), (.tmp 144)], #[23, 23]⟩, true, none⟩]) <|
 .seq (.ops [⟨some 146, .call ⟨.value (.func 10), #[(.tmp 137), (.tmp 139), (.tmp 141), (.tmp 145)], #[25, 3, 3, 23]⟩, true, none⟩]) <|
 .seq (.ops [⟨some 136, .move (.tmp 146), false, none⟩]) <|
 .seq (.ops [⟨some 147, .extract (.tmp 136) 0, false, none⟩]) <|
 .seq (.ops [⟨some 148, .extract (.tmp 136) 1, false, none⟩]) <|
 .seq (.ops [⟨some 8, .assign (.tmp 147), false, none⟩]) <|
 .seq (.ops [⟨some 10, .assign (.tmp 148), false, none⟩]) <|
 .skip) (.seq (.ops [⟨some 145, .call ⟨.builtin .append, #[(.tmp 142), (.tmp 144)], #[23, 23]⟩, true, none⟩]) <|
 .seq (.ops [⟨some 139, .load 3 (.tmp 138), false, none⟩]) <|
 .seq (.ops [⟨some 146, .call ⟨.value (.func 10), #[(.tmp 137), (.tmp 139), (.tmp 141), (.tmp 145)], #[25, 3, 3, 23]⟩, true, none⟩]) <|
 .seq (.ops [⟨some 136, .move (.tmp 146), false, none⟩]) <|
 .seq (.ops [⟨some 147, .extract (.tmp 136) 0, false, none⟩]) <|
 .seq (.ops [⟨some 148, .extract (.tmp 136) 1, false, none⟩]) <|
 .seq (.ops [⟨some 8, .assign (.tmp 147), false, none⟩]) <|
 .seq (.ops [⟨some 10, .assign (.tmp 148), false, none⟩]) <|
 .skip)) (.seq (.ops [⟨some 144, .load 23 (.tmp 143), false, none⟩]) <|
 .seq (.ops [⟨some 142, .buildSlice 23 0 #[], true, none⟩]) <|
 .amb (.seq (.ops [⟨some 139, .load 3 (.tmp 138), false, none⟩]) <|
 .seq (.ops [⟨some 145, .call ⟨.builtin .append, #[(.tmp 142), (.tmp 144)], #[23, 23]⟩, true, none⟩]) <|
 .seq (.ops [⟨some 146, .call ⟨.value (.func 10), #[(.tmp 137), (.tmp 139), (.tmp 141), (.tmp 145)], #[25, 3, 3, 23]⟩, true, none⟩]) <|
 .seq (.ops [⟨some 136, .move (.tmp 146), false, none⟩]) <|
 .seq (.ops [⟨some 147, .extract (.tmp 136) 0, false, none⟩]) <|
 .seq (.ops [⟨some 148, .extract (.tmp 136) 1, false, none⟩]) <|
 .seq (.ops [⟨some 8, .assign (.tmp 147), false, none⟩]) <|
 .seq (.ops [⟨some 10, .assign (.tmp 148), false, none⟩]) <|
 .skip) (.seq (.ops [⟨some 145, .call ⟨.builtin .append, #[(.tmp 142), (.tmp 144)], #[23, 23]⟩, true, none⟩]) <|
 .seq (.ops [⟨some 139, .load 3 (.tmp 138), false, none⟩]) <|
 .seq (.ops [⟨some 146, .call ⟨.value (.func 10), #[(.tmp 137), (.tmp 139), (.tmp 141), (.tmp 145)], #[25, 3, 3, 23]⟩, true, none⟩]) <|
 .seq (.ops [⟨some 136, .move (.tmp 146), false, none⟩]) <|
 .seq (.ops [⟨some 147, .extract (.tmp 136) 0, false, none⟩]) <|
 .seq (.ops [⟨some 148, .extract (.tmp 136) 1, false, none⟩]) <|
 .seq (.ops [⟨some 8, .assign (.tmp 147), false, none⟩]) <|
 .seq (.ops [⟨some 10, .assign (.tmp 148), false, none⟩]) <|
 .skip))) (.amb (.seq (.ops [⟨some 142, .buildSlice 23 0 #[], true, none⟩]) <|
 .seq (.ops [⟨some 144, .load 23 (.tmp 143), false, none⟩]) <|
 .amb (.seq (.ops [⟨some 139, .load 3 (.tmp 138), false, none⟩]) <|
 .amb (.seq (.ops [⟨some 141, .load 3 (.tmp 140), false, none⟩]) <|
 .seq (.ops [⟨some 145, .call ⟨.builtin .append, #[(.tmp 142), (.tmp 144)], #[23, 23]⟩, true, none⟩]) <|
 .seq (.ops [⟨some 146, .call ⟨.value (.func 10), #[(.tmp 137), (.tmp 139), (.tmp 141), (.tmp 145)], #[25, 3, 3, 23]⟩, true, none⟩]) <|
 .seq (.ops [⟨some 136, .move (.tmp 146), false, none⟩]) <|
 .seq (.ops [⟨some 147, .extract (.tmp 136) 0, false, none⟩]) <|
 .seq (.ops [⟨some 148, .extract (.tmp 136) 1, false, none⟩]) <|
 .seq (.ops [⟨some 8, .assign (.tmp 147), false, none⟩]) <|
 .seq (.ops [⟨some 10, .assign (.tmp 148), false, none⟩]) <|
 .skip) (.seq (.ops [⟨some 145, .call ⟨.builtin .append, #[(.tmp 142), (.tmp 144)], #[23, 23]⟩, true, none⟩]) <|
 .seq (.ops [⟨some 141, .load 3 (.tmp 140), false, none⟩]) <|
 .seq (.ops [⟨some 146, .call ⟨.value (.func 10), #[(.tmp 137), (.tmp 139), (.tmp 141), (.tmp 145)], #[25, 3, 3, 23]⟩, true, none⟩]) <|
 .seq (.ops [⟨some 136, .move (.tmp 146), false, none⟩]) <|
 .seq (.ops [⟨some 147, .extract (.tmp 136) 0, false, none⟩]) <|
 .seq (.ops [⟨some 148, .extract (.tmp 136) 1, false, none⟩]) <|
 .seq (.ops [⟨some 8, .assign (.tmp 147), false, none⟩]) <|
 .seq (.ops [⟨some 10, .assign (.tmp 148), false, none⟩]) <|
 .skip)) (.amb (.seq (.ops [⟨some 141, .load 3 (.tmp 140), false, none⟩]) <|
 .seq (.ops [⟨some 145, .call ⟨.builtin .append, #[(.tmp 142), (.tmp 144)], #[23, 23]⟩, true, none⟩]) <|
 .seq (.ops [⟨some 139, .load 3 (.tmp 138), false, none⟩]) <|
 .seq (.ops [⟨some 146, .call ⟨.value (.func 10), #[(.tmp 137), (.tmp 139), (.tmp 141), (.tmp 145)], #[25, 3, 3, 23]⟩, true, none⟩]) <|
 .seq (.ops [⟨some 136, .move (.tmp 146), false, none⟩]) <|
 .seq (.ops [⟨some 147, .extract (.tmp 136) 0, false, none⟩]) <|
 .seq (.ops [⟨some 148, .extract (.tmp 136) 1, false, none⟩]) <|
 .seq (.ops [⟨some 8, .assign (.tmp 147), false, none⟩]) <|
 .seq (.ops [⟨some 10, .assign (.tmp 148), false, none⟩]) <|
 .skip) (.seq (.ops [⟨some 145, .call ⟨.builtin .append, #[(.tmp 142), (.tmp 144)], #[23, 23]⟩, true, none⟩]) <|
 .seq (.ops [⟨some 139, .load 3 (.tmp 138), false, none⟩]) <|
 .seq (.ops [⟨some 141, .load 3 (.tmp 140), false, none⟩]) <|
 .seq (.ops [⟨some 146, .call ⟨.value (.func 10), #[(.tmp 137), (.tmp 139), (.tmp 141), (.tmp 145)], #[25, 3, 3, 23]⟩, true, none⟩]) <|
 .seq (.ops [⟨some 136, .move (.tmp 146), false, none⟩]) <|
 .seq (.ops [⟨some 147, .extract (.tmp 136) 0, false, none⟩]) <|
 .seq (.ops [⟨some 148, .extract (.tmp 136) 1, false, none⟩]) <|
 .seq (.ops [⟨some 8, .assign (.tmp 147), false, none⟩]) <|
 .seq (.ops [⟨some 10, .assign (.tmp 148), false, none⟩]) <|
 .skip))) (.seq (.ops [⟨some 144, .load 23 (.tmp 143), false, none⟩]) <|
 .seq (.ops [⟨some 142, .buildSlice 23 0 #[], true, none⟩]) <|
 .amb (.seq (.ops [⟨some 139, .load 3 (.tmp 138), false, none⟩]) <|
 .amb (.seq (.ops [⟨some 141, .load 3 (.tmp 140), false, none⟩]) <|
 .seq (.ops [⟨some 145, .call ⟨.builtin .append, #[(.tmp 142), (.tmp 144)], #[23, 23]⟩, true, none⟩]) <|
 .seq (.ops [⟨some 146, .call ⟨.value (.func 10), #[(.tmp 137), (.tmp 139), (.tmp 141), (.tmp 145)], #[25, 3, 3, 23]⟩, true, none⟩]) <|
 .seq (.ops [⟨some 136, .move (.tmp 146), false, none⟩]) <|
 .seq (.ops [⟨some 147, .extract (.tmp 136) 0, false, none⟩]) <|
 .seq (.ops [⟨some 148, .extract (.tmp 136) 1, false, none⟩]) <|
 .seq (.ops [⟨some 8, .assign (.tmp 147), false, none⟩]) <|
 .seq (.ops [⟨some 10, .assign (.tmp 148), false, none⟩]) <|
 .skip) (.seq (.ops [⟨some 145, .call ⟨.builtin .append, #[(.tmp 142), (.tmp 144)], #[23, 23]⟩, true, none⟩]) <|
 .seq (.ops [⟨some 141, .load 3 (.tmp 140), false, none⟩]) <|
 .seq (.ops [⟨some 146, .call ⟨.value (.func 10), #[(.tmp 137), (.tmp 139), (.tmp 141), (.tmp 145)], #[25, 3, 3, 23]⟩, true, none⟩]) <|
 .seq (.ops [⟨some 136, .move (.tmp 146), false, none⟩]) <|
 .seq (.ops [⟨some 147, .extract (.tmp 136) 0, false, none⟩]) <|
 .seq (.ops [⟨some 148, .extract (.tmp 136) 1, false, none⟩]) <|
 .seq (.ops [⟨some 8, .assign (.tmp 147), false, none⟩]) <|
 .seq (.ops [⟨some 10, .assign (.tmp 148), false, none⟩]) <|
 .skip)) (.amb (.seq (.ops [⟨some 141, .load 3 (.tmp 140), false, none⟩]) <|
 .seq (.ops [⟨some 145, .call ⟨.builtin .append, #[(.tmp 142), (.tmp 144)], #[23, 23]⟩, true, none⟩]) <|
 .seq (.ops [⟨some 139, .load 3 (.tmp 138), false, none⟩]) <|
 .seq (.ops [⟨some 146, .call ⟨.value (.func 10), #[(.tmp 137), (.tmp 139), (.tmp 141), (.tmp 145)], #[25, 3, 3, 23]⟩, true, none⟩]) <|
 .seq (.ops [⟨some 136, .move (.tmp 146), false, none⟩]) <|
 .seq (.ops [⟨some 147, .extract (.tmp 136) 0, false, none⟩]) <|
 .seq (.ops [⟨some 148, .extract (.tmp 136) 1, false, none⟩]) <|
 .seq (.ops [⟨some 8, .assign (.tmp 147), false, none⟩]) <|
 .seq (.ops [⟨some 10, .assign (.tmp 148), false, none⟩]) <|
 .skip) (.seq (.ops [⟨some 145, .call ⟨.builtin .append, #[(.tmp 142), (.tmp 144)], #[23, 23]⟩, true, none⟩]) <|
 .seq (.ops [⟨some 139, .load 3 (.tmp 138), false, none⟩]) <|
 .seq (.ops [⟨some 141, .load 3 (.tmp 140), false, none⟩]) <|
 .seq (.ops [⟨some 146, .call ⟨.value (.func 10), #[(.tmp 137), (.tmp 139), (.tmp 141), (.tmp 145)], #[25, 3, 3, 23]⟩, true, none⟩]) <|
 .seq (.ops [⟨some 136, .move (.tmp 146), false, none⟩]) <|
 .seq (.ops [⟨some 147, .extract (.tmp 136) 0, false, none⟩]) <|
 .seq (.ops [⟨some 148, .extract (.tmp 136) 1, false, none⟩]) <|
 .seq (.ops [⟨some 8, .assign (.tmp 147), false, none⟩]) <|
 .seq (.ops [⟨some 10, .assign (.tmp 148), false, none⟩]) <|
 .skip)))))) <|
 .seq (.keep [1, 5, 8, 10, 12, 13]) <|
 .ops [⟨some 150, .move (.tmp 1), false, none⟩,
  ⟨some 151, .fieldAddr 52 (.tmp 5) 1, false, none⟩,
  ⟨some 152, .load 3 (.tmp 151), false, none⟩,
  ⟨some 153, .fieldAddr 52 (.tmp 5) 3, false, none⟩,
  ⟨some 154, .load 3 (.tmp 153), false, none⟩,
  ⟨some 155, .fieldAddr 52 (.tmp 5) 7, false, none⟩,
  ⟨some 156, .load 23 (.tmp 155), false, none⟩,
  ⟨some 157, .call ⟨.value (.func 47), #[(.tmp 150), (.tmp 152), (.tmp 154), (.tmp 156)], #[48, 3, 3, 23]⟩, true, none⟩,
  ⟨some 149, .move (.tmp 157), false, none⟩,
  ⟨some 158, .extract (.tmp 149) 0, false, none⟩,
  ⟨some 159, .extract (.tmp 149) 1, false, none⟩,
  ⟨some 9, .assign (.tmp 158), false, none⟩,
  ⟨some 11, .assign (.tmp 159), false, none⟩]) <|
 .seq (.ops [⟨some 161, .binOp .eql 3 (.tmp 17) (.const (.int .i64 7)) 3, false, none⟩,
  ⟨some 160, .assign (.tmp 161), false, none⟩]) <|
 .seq (.keep [0, 1, 5, 8, 9, 10, 11, 12, 13, 17, 160]) <|
 .cond (.tmp 160) (.seq (.ops [⟨some 162, .move (.tmp 0), false, none⟩]) <|
 .seq (.ops [⟨some 163, .fieldAddr 52 (.tmp 5) 1, false, none⟩]) <|
 .seq (.ops [⟨some 164, .load 3 (.tmp 163), false, none⟩]) <|
 .seq (.ops [⟨some 165, .fieldAddr 52 (.tmp 5) 3, false, none⟩]) <|
 .seq (.ops [⟨some 166, .load 3 (.tmp 165), false, none⟩]) <|
 .seq (.ops [⟨some 168, .move (.tmp 1), false, none⟩]) <|
 .seq (.ops [⟨some 169, .fieldAddr 52 (.tmp 5) 1, false, none⟩]) <|
 .seq (.ops [⟨some 171, .fieldAddr 52 (.tmp 5) 3, false, none⟩]) <|
 .amb (.seq (.ops [⟨some 167, .call ⟨.value (.func 13), #[(.tmp 162), (.tmp 164), (.tmp 166)], #[25, 3, 3]⟩, true, none⟩]) <|
 .seq (.ops [⟨some 170, .load 3 (.tmp 169), false, none⟩]) <|
 .seq (.ops [⟨some 172, .load 3 (.tmp 171), false, none⟩]) <|
 .seq (.ops [⟨some 173, .call ⟨.value (.func 48), #[(.tmp 168), (.tmp 170), (.tmp 172)], #[48, 3, 3]⟩, true, none⟩]) <|
 .seq (.ops [⟨some 10, .assign (.tmp 167), false, none⟩]) <|
 .seq (.ops [⟨some 11, .assign (.tmp 173), false, none⟩]) <|
 .skip) (.amb (.seq (.ops [⟨some 170, .load 3 (.tmp 169), false, none⟩]) <|
 .amb (.seq (.ops [⟨some 167, .call ⟨.value (.func 13), #[(.tmp 162), (.tmp 164), (.tmp 166)], #[25, 3, 3]⟩, true, none⟩]) <|
 .seq (.ops [⟨some 172, .load 3 (.tmp 171), false, none⟩]) <|
 .seq (.ops [⟨some 173, .call ⟨.value (.func 48), #[(.tmp 168), (.tmp 170), (.tmp 172)], #[48, 3, 3]⟩, true, none⟩]) <|
 .seq (.ops [⟨some 10, .assign (.tmp 167), false, none⟩]) <|
 .seq (.ops [⟨some 11, .assign (.tmp 173), false, none⟩]) <|
 .skip) (.seq (.ops [⟨some 172, .load 3 (.tmp 171), false, none⟩]) <|
 .seq (.ops [⟨some 167, .call ⟨.value (.func 13), #[(.tmp 162), (.tmp 164), (.tmp 166)], #[25, 3, 3]⟩, true, none⟩]) <|
 .seq (.ops [⟨some 173, .call ⟨.value (.func 48), #[(.tmp 168), (.tmp 170), (.tmp 172)], #[48, 3, 3]⟩, true, none⟩]) <|
 .seq (.ops [⟨some 10, .assign (.tmp 167), false, none⟩]) <|
 .seq (.ops [⟨some 11, .assign (.tmp 173), false, none⟩]) <|
 .skip)) (.seq (.ops [⟨some 172, .load 3 (.tmp 171), false, none⟩]) <|
 .seq (.ops [⟨some 167, .call ⟨.value (.func 13), #[(.tmp 162), (.tmp 164), (.tmp 166)], #[25, 3, 3]⟩, true, none⟩]) <|
 .seq (.ops [⟨some 170, .load 3 (.tmp 169), false, none⟩]) <|
 .seq (.ops [⟨some 173, .call ⟨.value (.func 48), #[(.tmp 168), (.tmp 170), (.tmp 172)], #[48, 3, 3]⟩, true, none⟩]) <|
 .seq (.ops [⟨some 10, .assign (.tmp 167), false, none⟩]) <|
 .seq (.ops [⟨some 11, .assign (.tmp 173), false, none⟩]) <|
 .skip))) <|
 .seq (.ops [⟨some 175, .binOp .eql 3 (.tmp 17) (.const (.int .i64 8)) 3, false, none⟩,
  ⟨some 174, .assign (.tmp 175), false, none⟩]) <|
 .seq (.keep [0, 1, 5, 8, 9, 10, 11, 12, 13, 17, 174]) <|
 .cond (.tmp 174) (.seq (.ops [⟨some 176, .move (.tmp 0), false, none⟩]) <|
 .seq (.ops [⟨some 177, .fieldAddr 52 (.tmp 5) 1, false, none⟩]) <|
 .seq (.ops [⟨some 178, .load 3 (.tmp 177), false, none⟩]) <|
 .seq (.ops [⟨some 179, .fieldAddr 52 (.tmp 5) 4, false, none⟩]) <|
 .seq (.ops [⟨some 180, .load 3 (.tmp 179), false, none⟩]) <|
 .seq (.ops [⟨some 182, .move (.tmp 1), false, none⟩]) <|
 .seq (.ops [⟨some 183, .fieldAddr 52 (.tmp 5) 1, false, none⟩]) <|
 .seq (.ops [⟨some 185, .fieldAddr 52 (.tmp 5) 4, false, none⟩]) <|
 .amb (.seq (.ops [⟨some 181, .call ⟨.value (.func 49), #[(.tmp 176), (.tmp 178), (.tmp 180)], #[25, 3, 3]⟩, true, none⟩]) <|
 .seq (.ops [⟨some 184, .load 3 (.tmp 183), false, none⟩]) <|
 .seq (.ops [⟨some 186, .load 3 (.tmp 185), false, none⟩]) <|
 .seq (.ops [⟨some 187, .call ⟨.value (.func 50), #[(.tmp 182), (.tmp 184), (.tmp 186)], #[48, 3, 3]⟩, true, none⟩]) <|
 .seq (.ops [⟨some 10, .assign (.tmp 181), false, none⟩]) <|
 .seq (.ops [⟨some 11, .assign (.tmp 187), false, none⟩]) <|
 .skip) (.amb (.seq (.ops [⟨some 184, .load 3 (.tmp 183), false, none⟩]) <|
 .amb (.seq (.ops [⟨some 181, .call ⟨.value (.func 49), #[(.tmp 176), (.tmp 178), (.tmp 180)], #[25, 3, 3]⟩, true, none⟩]) <|
 .seq (.ops [⟨some 186, .load 3 (.tmp 185), false, none⟩]) <|
 .seq (.ops [⟨some 187, .call ⟨.value (.func 50), #[(.tmp 182), (.tmp 184), (.tmp 186)], #[48, 3, 3]⟩, true, none⟩]) <|
 .seq (.ops [⟨some 10, .assign (.tmp 181), false, none⟩]) <|
 .seq (.ops [⟨some 11, .assign (.tmp 187), false, none⟩]) <|
 .skip) (.seq (.ops [⟨some 186, .load 3 (.tmp 185), false, none⟩]) <|
 .seq (.ops [⟨some 181, .call ⟨.value (.func 49), #[(.tmp 176), (.tmp 178), (.tmp 180)], #[25, 3, 3]⟩, true, none⟩]) <|
 .seq (.ops [⟨some 187, .call ⟨.value (.func 50), #[(.tmp 182), (.tmp 184), (.tmp 186)], #[48, 3, 3]⟩, true, none⟩]) <|
 .seq (.ops [⟨some 10, .assign (.tmp 181), false, none⟩]) <|
 .seq (.ops [⟨some 11, .assign (.tmp 187), false, none⟩]) <|
 .skip)) (.seq (.ops [⟨some 186, .load 3 (.tmp 185), false, none⟩]) <|
 .seq (.ops [⟨some 181, .call ⟨.value (.func 49), #[(.tmp 176), (.tmp 178), (.tmp 180)], #[25, 3, 3]⟩, true, none⟩]) <|
 .seq (.ops [⟨some 184, .load 3 (.tmp 183), false, none⟩]) <|
 .seq (.ops [⟨some 187, .call ⟨.value (.func 50), #[(.tmp 182), (.tmp 184), (.tmp 186)], #[48, 3, 3]⟩, true, none⟩]) <|
 .seq (.ops [⟨some 10, .assign (.tmp 181), false, none⟩]) <|
 .seq (.ops [⟨some 11, .assign (.tmp 187), false, none⟩]) <|
 .skip))) <|
 .seq (.ops [⟨some 189, .binOp .eql 3 (.tmp 17) (.const (.int .i64 9)) 3, false, none⟩,
  ⟨some 188, .assign (.tmp 189), false, none⟩]) <|
 .seq (.keep [0, 1, 5, 8, 9, 10, 11, 12, 13, 17, 188]) <|
 .cond (.tmp 188) (.seq (.ops [⟨some 190, .move (.tmp 0), false, none⟩,
  ⟨some 191, .fieldAddr 52 (.tmp 5) 1, false, none⟩,
  ⟨some 192, .load 3 (.tmp 191), false, none⟩,
  ⟨some 193, .call ⟨.value (.func 24), #[(.tmp 190), (.tmp 192)], #[25, 3]⟩, true, none⟩]) <|
 .seq (.keep [1, 5, 8, 9, 10, 11, 12, 13]) <|
 .ops [⟨some 194, .move (.tmp 1), false, none⟩,
  ⟨some 195, .fieldAddr 52 (.tmp 5) 1, false, none⟩,
  ⟨some 196, .load 3 (.tmp 195), false, none⟩,
  ⟨some 197, .call ⟨.value (.func 51), #[(.tmp 194), (.tmp 196)], #[48, 3]⟩, true, none⟩]) <|
 .seq (.ops [⟨some 199, .binOp .eql 3 (.tmp 17) (.const (.int .i64 10)) 3, false, none⟩,
  ⟨some 198, .assign (.tmp 199), false, none⟩]) <|
 .seq (.keep [0, 1, 5, 8, 9, 10, 11, 12, 13, 17, 198]) <|
 .cond (.tmp 198) (.seq (.ops [⟨some 200, .move (.tmp 0), false, none⟩,
  ⟨some 201, .fieldAddr 52 (.tmp 5) 1, false, none⟩,
  ⟨some 202, .load 3 (.tmp 201), false, none⟩,
  ⟨some 203, .call ⟨.value (.func 25), #[(.tmp 200), (.tmp 202)], #[25, 3]⟩, true, none⟩]) <|
 .seq (.keep [1, 5, 8, 9, 10, 11, 12, 13]) <|
 .ops [⟨some 204, .move (.tmp 1), false, none⟩,
  ⟨some 205, .fieldAddr 52 (.tmp 5) 1, false, none⟩,
  ⟨some 206, .load 3 (.tmp 205), false, none⟩,
  ⟨some 207, .call ⟨.value (.func 52), #[(.tmp 204), (.tmp 206)], #[48, 3]⟩, true, none⟩]) <|
 .seq (.ops [⟨some 209, .binOp .eql 3 (.tmp 17) (.const (.int .i64 11)) 3, false, none⟩,
  ⟨some 208, .assign (.tmp 209), false, none⟩]) <|
 .seq (.keep [0, 1, 5, 8, 9, 10, 11, 12, 13, 17, 208]) <|
 .cond (.tmp 208) (.seq (.ops [⟨some 211, .move (.tmp 0), false, none⟩,
  ⟨some 212, .fieldAddr 52 (.tmp 5) 1, false, none⟩,
  ⟨some 213, .load 3 (.tmp 212), false, none⟩,
  ⟨some 214, .fieldAddr 52 (.tmp 5) 5, false, none⟩,
  ⟨some 215, .load 9 (.tmp 214), false, none⟩,
  ⟨some 216, .call ⟨.value (.func 53), #[(.tmp 211), (.tmp 213), (.tmp 215)], #[25, 3, 9]⟩, true, none⟩,
  ⟨some 210, .move (.tmp 216), false, none⟩,
  ⟨some 217, .extract (.tmp 210) 0, false, none⟩,
  ⟨some 218, .extract (.tmp 210) 1, false, none⟩,
  ⟨some 8, .assign (.tmp 217), false, none⟩,
  ⟨some 10, .assign (.tmp 218), false, none⟩]) <|
 .seq (.keep [1, 5, 8, 10, 12, 13]) <|
 .ops [⟨some 220, .move (.tmp 1), false, none⟩,
  ⟨some 221, .fieldAddr 52 (.tmp 5) 1, false, none⟩,
  ⟨some 222, .load 3 (.tmp 221), false, none⟩,
  ⟨some 223, .fieldAddr 52 (.tmp 5) 5, false, none⟩,
  ⟨some 224, .load 9 (.tmp 223), false, none⟩,
  ⟨some 225, .call ⟨.value (.func 54), #[(.tmp 220), (.tmp 222), (.tmp 224)], #[48, 3, 9]⟩, true, none⟩,
  ⟨some 219, .move (.tmp 225), false, none⟩,
  ⟨some 226, .extract (.tmp 219) 0, false, none⟩,
  ⟨some 227, .extract (.tmp 219) 1, false, none⟩,
  ⟨some 9, .assign (.tmp 226), false, none⟩,
  ⟨some 11, .assign (.tmp 227), false, none⟩]) <|
 .seq (.ops [⟨some 229, .binOp .eql 3 (.tmp 17) (.const (.int .i64 12)) 3, false, none⟩,
  ⟨some 228, .assign (.tmp 229), false, none⟩]) <|
 .seq (.keep [0, 1, 5, 8, 9, 10, 11, 12, 13, 228]) <|
 .cond (.tmp 228) (.seq (.ops [⟨some 14, .assign (.const (.string ⟨#[]⟩)), false, none⟩,
  ⟨some 15, .assign (.const (.string ⟨#[]⟩)), false, none⟩]) <|
 .seq (.keep [0, 1, 5, 8, 9]) <|
 .seq (.ops [⟨some 231, .move (.tmp 0), false, none⟩,
  ⟨some 232, .fieldAddr 52 (.tmp 5) 1, false, none⟩,
  ⟨some 233, .load 3 (.tmp 232), false, none⟩,
  ⟨some 234, .call ⟨.value (.func 55), #[(.tmp 231), (.tmp 233)], #[25, 3]⟩, true, none⟩,
  ⟨some 230, .move (.tmp 234), false, none⟩,
  ⟨some 235, .extract (.tmp 230) 0, false, none⟩,
  ⟨some 236, .extract (.tmp 230) 1, false, none⟩,
  ⟨some 14, .assign (.tmp 235), false, none⟩,
  ⟨some 10, .assign (.tmp 236), false, none⟩]) <|
 .seq (.keep [1, 5, 8, 9, 10, 14]) <|
 .seq (.ops [⟨some 238, .move (.tmp 1), false, none⟩,
  ⟨some 239, .fieldAddr 52 (.tmp 5) 1, false, none⟩,
  ⟨some 240, .load 3 (.tmp 239), false, none⟩,
  ⟨some 241, .call ⟨.value (.func 56), #[(.tmp 238), (.tmp 240)], #[48, 3]⟩, true, none⟩,
  ⟨some 237, .move (.tmp 241), false, none⟩,
  ⟨some 242, .extract (.tmp 237) 0, false, none⟩,
  ⟨some 243, .extract (.tmp 237) 1, false, none⟩,
  ⟨some 15, .assign (.tmp 242), false, none⟩,
  ⟨some 11, .assign (.tmp 243), false, none⟩]) <|
 .seq (.keep [8, 9, 10, 11, 14, 15]) <|
 .ops [⟨some 244, .move (.tmp 14), false, none⟩,
  ⟨some 245, .convert 9 23 (.tmp 244), true, none⟩,
  ⟨some 246, .move (.tmp 15), false, none⟩,
  ⟨some 247, .convert 9 23 (.tmp 246), true, none⟩,
  ⟨some 12, .assign (.tmp 245), false, none⟩,
  ⟨some 13, .assign (.tmp 247), false, none⟩]) <|
 .skip) <|
 .seq (.keep [8, 9, 10, 11, 12, 13]) <|
 .seq (.ops [⟨some 248, .move (.tmp 8), false, none⟩,
  ⟨some 249, .move (.tmp 10), false, none⟩,
  ⟨some 250, .move (.tmp 12), false, none⟩,
  ⟨some 251, .call ⟨.value (.func 23), #[(.tmp 248), (.tmp 249), (.tmp 250)], #[3, 26, 23]⟩, true, none⟩,
  ⟨some 252, .move (.tmp 9), false, none⟩,
  ⟨some 253, .move (.tmp 11), false, none⟩,
  ⟨some 254, .move (.tmp 13), false, none⟩,
  ⟨some 255, .call ⟨.value (.func 23), #[(.tmp 252), (.tmp 253), (.tmp 254)], #[3, 26, 23]⟩, true, none⟩,
  ⟨some 6, .assign (.tmp 251), false, none⟩,
  ⟨some 7, .assign (.tmp 255), false, none⟩]) <|
 .seq (.keep [6, 7]) <|
 .ret
theorem c19 : Parted Tryd.prog Tryd.f19 s19 := Parted.of [(0, t19_0), (1, t19_1), (2, t19_2), (3, t19_3), (4, t19_4), (5, t19_5), (6, t19_6)] (List.forall_mem_cons.2 ⟨q19_0, (List.forall_mem_cons.2 ⟨q19_1, (List.forall_mem_cons.2 ⟨q19_2, (List.forall_mem_cons.2 ⟨q19_3, (List.forall_mem_cons.2 ⟨q19_4, (List.forall_mem_cons.2 ⟨q19_5, (List.forall_mem_cons.2 ⟨q19_6, (fun p hp => by cases hp)⟩)⟩)⟩)⟩)⟩)⟩)⟩) (by kernel_rfl)
theorem r19 : Tryd.f19.results.toList = [.tmp 6, .tmp 7] := by kernel_rfl
-- (*marionette/node.Tree).List
abbrev kp20 : List Nat := [4, 5]
def s20 : SC :=
 .seq (.ops [⟨some 4, .assign (.const (.slice none 0 0)), false, none⟩,
  ⟨some 5, .assign (.const (.int .i64 0)), false, none⟩]) <|
 .seq (.keep [0, 1]) <|
 .seq (.ops [⟨some 9, .move (.tmp 0), false, none⟩,
  ⟨some 10, .move (.tmp 1), false, none⟩,
  ⟨some 11, .call ⟨.value (.func 36), #[(.tmp 9), (.tmp 10)], #[25, 3]⟩, true, none⟩,
  ⟨some 8, .move (.tmp 11), false, none⟩,
  ⟨some 12, .extract (.tmp 8) 0, false, none⟩,
  ⟨some 13, .extract (.tmp 8) 1, false, none⟩,
  ⟨some 6, .assign (.tmp 12), false, none⟩,
  ⟨some 7, .assign (.tmp 13), false, none⟩]) <|
 .seq (.keep [6, 7]) <|
 .seq (.seq (.ops [⟨some 14, .move (.tmp 7), false, none⟩,
  ⟨some 15, .binOp .neq 26 (.tmp 14) (.const (.int .i64 0)) 26, false, none⟩]) <|
 .seq (.keep [6, 7, 15]) <|
 .cond (.tmp 15) (.seq (.ops [⟨some 16, .move (.tmp 7), false, none⟩,
  ⟨some 4, .assign (.const (.slice none 0 0)), false, none⟩,
  ⟨some 5, .assign (.tmp 16), false, none⟩]) <|
 .seq (.keep [4, 5]) <|
 .ret) <|
 .skip) <|
 .seq (.keep [6]) <|
 .seq (.ops [⟨some 17, .move (.tmp 6), false, none⟩,
  ⟨some 18, .nilCheck (.tmp 17), false, none⟩,
  ⟨some 19, .fieldAddr 69 (.tmp 18) 3, false, none⟩,
  ⟨some 20, .load 55 (.tmp 19), false, none⟩,
  ⟨some 21, .call ⟨.value (.func 57), #[(.tmp 20)], #[55]⟩, true, none⟩,
  ⟨some 4, .assign (.tmp 21), false, none⟩,
  ⟨some 5, .assign (.const (.int .i64 0)), false, none⟩]) <|
 .seq (.keep [4, 5]) <|
 .ret
theorem c20 : Tryd.f20.body.map (fun c => ((compile Tryd.prog kp20 [] kp20 c).map (·.1), fits Tryd.f20.ntmps c)) = some (some s20, true) := by kernel_rfl
theorem r20 : Tryd.f20.results.toList = [.tmp 4, .tmp 5] := by kernel_rfl
-- (*marionette/node.Tree).Parent
abbrev kp21 : List Nat := [4]
def s21 : SC :=
 .seq (.ops [⟨some 4, .assign (.const (.int .i64 0)), false, none⟩]) <|
 .seq (.keep [0, 1]) <|
 .seq (.ops [⟨some 8, .move (.tmp 0), false, none⟩,
  ⟨some 9, .move (.tmp 1), false, none⟩,
  ⟨some 10, .call ⟨.value (.func 36), #[(.tmp 8), (.tmp 9)], #[25, 3]⟩, true, none⟩,
  ⟨some 7, .move (.tmp 10), false, none⟩,
  ⟨some 11, .extract (.tmp 7) 0, false, none⟩,
  ⟨some 12, .extract (.tmp 7) 1, false, none⟩,
  ⟨some 5, .assign (.tmp 11), false, none⟩,
  ⟨some 6, .assign (.tmp 12), false, none⟩]) <|
 .seq (.keep [1, 5, 6]) <|
 .seq (.block 0 <| .seq (.ops [⟨some 14, .move (.tmp 6), false, none⟩,
  ⟨some 15, .binOp .neq 26 (.tmp 14) (.const (.int .i64 0)) 26, false, none⟩,
  ⟨some 13, .assign (.tmp 15), false, none⟩]) <|
 .seq (.keep [1, 5, 13]) <|
 .cond (.tmp 13) (.seq (.ops [⟨some 4, .assign (.const (.int .i64 0)), false, none⟩]) <|
 .seq (.keep [4]) <|
 .ret) <|
 .seq (.ops [⟨some 17, .move (.tmp 5), false, none⟩,
  ⟨some 18, .nilCheck (.tmp 17), false, none⟩,
  ⟨some 19, .fieldAddr 69 (.tmp 18) 4, false, none⟩,
  ⟨some 20, .load 3 (.tmp 19), false, none⟩,
  ⟨some 21, .binOp .eql 3 (.tmp 20) (.const (.int .i64 0)) 3, false, none⟩,
  ⟨some 16, .assign (.tmp 21), false, none⟩]) <|
 .seq (.keep [1, 5, 16]) <|
 .cond (.tmp 16) (.seq (.ops [⟨some 22, .move (.tmp 1), false, none⟩,
  ⟨some 4, .assign (.tmp 22), false, none⟩]) <|
 .seq (.keep [4]) <|
 .ret) <|
 .skip) <|
 .seq (.keep [5]) <|
 .seq (.ops [⟨some 23, .move (.tmp 5), false, none⟩,
  ⟨some 24, .nilCheck (.tmp 23), false, none⟩,
  ⟨some 25, .fieldAddr 69 (.tmp 24) 4, false, none⟩,
  ⟨some 26, .load 3 (.tmp 25), false, none⟩,
  ⟨some 4, .assign (.tmp 26), false, none⟩]) <|
 .seq (.keep [4]) <|
 .ret
theorem c21 : Tryd.f21.body.map (fun c => ((compile Tryd.prog kp21 [] kp21 c).map (·.1), fits Tryd.f21.ntmps c)) = some (some s21, true) := by kernel_rfl
theorem r21 : Tryd.f21.results.toList = [.tmp 4] := by kernel_rfl
-- marionette/node.GoodName
abbrev kp22 : List Nat := [2]
def s22 : SC :=
 .seq (.ops [⟨some 2, .assign (.const (.bool false)), false, none⟩]) <|
 .seq (.keep [0]) <|
 .seq (.ops [⟨some 3, .move (.tmp 0), false, none⟩,
  ⟨some 4, .binOp .neq 9 (.tmp 3) (.const (.string ⟨#[]⟩)) 9, false, none⟩,
  ⟨some 5, .move (.tmp 4), false, none⟩,
  ⟨some 6, .move (.tmp 0), false, some (5, true)⟩,
  ⟨some 7, .binOp .neq 9 (.tmp 6) (.const (.string ⟨#[46]⟩)) 9, false, some (5, true)⟩,
  ⟨some 8, .pick (.tmp 5) (.tmp 7) (.const (.bool false)), false, none⟩,
  ⟨some 9, .move (.tmp 8), false, none⟩,
  ⟨some 10, .move (.tmp 0), false, some (9, true)⟩,
  ⟨some 11, .binOp .neq 9 (.tmp 10) (.const (.string ⟨#[46, 46]⟩)) 9, false, some (9, true)⟩,
  ⟨some 12, .pick (.tmp 9) (.tmp 11) (.const (.bool false)), false, none⟩,
  ⟨some 13, .move (.tmp 12), false, none⟩,
  ⟨some 14, .move (.tmp 0), false, some (13, true)⟩,
  ⟨some 15, .call ⟨.builtin .len, #[(.tmp 14)], #[9]⟩, false, some (13, true)⟩,
  ⟨some 16, .binOp .leq 3 (.tmp 15) (.const (.int .i64 255)) 3, false, some (13, true)⟩,
  ⟨some 17, .pick (.tmp 13) (.tmp 16) (.const (.bool false)), false, none⟩,
  ⟨some 18, .move (.tmp 17), false, none⟩,
  ⟨some 19, .move (.tmp 0), false, some (18, true)⟩,
  ⟨some 20, .call ⟨.value (.func 58), #[(.tmp 19), (.const (.int .u8 0))], #[9, 5]⟩, true, some (18, true)⟩,
  ⟨some 21, .binOp .lss 3 (.tmp 20) (.const (.int .i64 0)) 3, false, some (18, true)⟩,
  ⟨some 22, .pick (.tmp 18) (.tmp 21) (.const (.bool false)), false, none⟩,
  ⟨some 23, .move (.tmp 22), false, none⟩,
  ⟨some 24, .move (.tmp 0), false, some (23, true)⟩,
  ⟨some 25, .call ⟨.value (.func 58), #[(.tmp 24), (.const (.int .u8 47))], #[9, 5]⟩, true, some (23, true)⟩,
  ⟨some 26, .binOp .lss 3 (.tmp 25) (.const (.int .i64 0)) 3, false, some (23, true)⟩,
  ⟨some 27, .pick (.tmp 23) (.tmp 26) (.const (.bool false)), false, none⟩,
  ⟨some 2, .assign (.tmp 27), false, none⟩]) <|
 .seq (.keep [2]) <|
 .ret
theorem c22 : Tryd.f22.body.map (fun c => ((compile Tryd.prog kp22 [] kp22 c).map (·.1), fits Tryd.f22.ntmps c)) = some (some s22, true) := by kernel_rfl
theorem r22 : Tryd.f22.results.toList = [.tmp 2] := by kernel_rfl
-- marionette/marionettelaw15.told
abbrev kp23 : List Nat := [6]
def s23 : SC :=
 .seq (.ops [⟨some 6, .assign (.const (.string ⟨#[]⟩)), false, none⟩]) <|
 .seq (.keep [0, 1, 2]) <|
 .seq (.seq (.ops [⟨some 7, .move (.tmp 0), false, none⟩]) <|
 .seq (.ops [⟨some 10, .move (.tmp 1), false, none⟩]) <|
 .seq (.ops [⟨some 14, .move (.tmp 2), false, none⟩]) <|
 .amb (.seq (.ops [⟨some 8, .call ⟨.value (.func 15), #[(.tmp 7)], #[3]⟩, true, none⟩]) <|
 .seq (.ops [⟨some 9, .binOp .add 9 (.tmp 8) (.const (.string ⟨#[32]⟩)) 9, false, none⟩]) <|
 .amb (.seq (.ops [⟨some 11, .call ⟨.value (.func 15), #[(.tmp 10)], #[3]⟩, true, none⟩]) <|
 .seq (.ops [⟨some 12, .binOp .add 9 (.tmp 9) (.tmp 11) 9, false, none⟩]) <|
 .seq (.ops [⟨some 13, .binOp .add 9 (.tmp 12) (.const (.string ⟨#[32]⟩)) 9, false, none⟩]) <|
 .seq (.ops [⟨some 15, .convert 23 9 (.tmp 14), true, none⟩]) <|
 .seq (.ops [⟨some 16, .binOp .add 9 (.tmp 13) (.tmp 15) 9, false, none⟩]) <|
 .seq (.ops [⟨some 6, .assign (.tmp 16), false, none⟩]) <|
 .skip) (.seq (.ops [⟨some 15, .convert 23 9 (.tmp 14), true, none⟩]) <|
 .seq (.ops [⟨some 11, .call ⟨.value (.func 15), #[(.tmp 10)], #[3]⟩, true, none⟩]) <|
 .seq (.ops [⟨some 12, .binOp .add 9 (.tmp 9) (.tmp 11) 9, false, none⟩]) <|
 .seq (.ops [⟨some 13, .binOp .add 9 (.tmp 12) (.const (.string ⟨#[32]⟩)) 9, false, none⟩]) <|
 .seq (.ops [⟨some 16, .binOp .add 9 (.tmp 13) (.tmp 15) 9, false, none⟩]) <|
 .seq (.ops [⟨some 6, .assign (.tmp 16), false, none⟩]) <|
 .skip)) (.seq (.ops [⟨some 15, .convert 23 9 (.tmp 14), true, none⟩]) <|
 .seq (.ops [⟨some 8, .call ⟨.value (.func 15), #[(.tmp 7)], #[3]⟩, true, none⟩]) <|
 .seq (.ops [⟨some 9, .binOp .add 9 (.tmp 8) (.const (.string ⟨#[32]⟩)) 9, false, none⟩]) <|
 .seq (.ops [⟨some 11, .call ⟨.value (.func 15), #[(.tmp 10)], #[3]⟩, true, none⟩]) <|
 .seq (.ops [⟨some 12, .binOp .add 9 (.tmp 9) (.tmp 11) 9, false, none⟩]) <|
 .seq (.ops [⟨some 13, .binOp .add 9 (.tmp 12) (.const (.string ⟨#[32]⟩)) 9, false, none⟩]) <|
 .seq (.ops [⟨some 16, .binOp .add 9 (.tmp 13) (.tmp 15) 9, false, none⟩]) <|
 .seq (.ops [⟨some 6, .assign (.tmp 16), false, none⟩]) <|
 .skip)) <|
 .seq (.keep [6]) <|
 .ret
theorem c23 : Tryd.f23.body.map (fun c => ((compile Tryd.prog kp23 [] kp23 c).map (·.1), fits Tryd.f23.ntmps c)) = some (some s23, true) := by kernel_rfl
theorem r23 : Tryd.f23.results.toList = [.tmp 6] := by kernel_rfl
-- (*marionette/node.Tree).Hold
abbrev kp24 : List Nat := []
def s24 : SC :=
 .seq (.ops [⟨some 5, .move (.tmp 0), false, none⟩,
  ⟨some 6, .move (.tmp 1), false, none⟩,
  ⟨some 7, .call ⟨.value (.func 29), #[(.tmp 5), (.tmp 6)], #[25, 3]⟩, true, none⟩,
  ⟨some 4, .assign (.tmp 7), false, none⟩]) <|
 .seq (.keep [4]) <|
 .seq (.ops [⟨some 8, .move (.tmp 4), false, none⟩,
  ⟨some 9, .binOp .neq 67 (.tmp 8) (.const (.pointer none)) 67, false, none⟩]) <|
 .seq (.keep [4, 9]) <|
 .cond (.tmp 9) (.ops [⟨some 10, .move (.tmp 4), false, none⟩,
  ⟨some 11, .nilCheck (.tmp 10), false, none⟩,
  ⟨some 12, .fieldAddr 69 (.tmp 11) 6, false, none⟩,
  ⟨some 13, .load 3 (.tmp 12), false, none⟩,
  ⟨some 14, .binOp .add 3 (.tmp 13) (.const (.int .i64 1)) 3, false, none⟩,
  ⟨some 15, .nilCheck (.tmp 10), false, none⟩,
  ⟨some 16, .fieldAddr 69 (.tmp 15) 6, false, none⟩,
  ⟨none, .store 3 (.tmp 16) (.tmp 14), true, none⟩]) <|
 .skip
theorem c24 : Tryd.f24.body.map (fun c => ((compile Tryd.prog kp24 [] kp24 c).map (·.1), fits Tryd.f24.ntmps c)) = some (some s24, true) := by kernel_rfl
theorem r24 : Tryd.f24.results.toList = [] := by kernel_rfl
-- (*marionette/node.Tree).Release
abbrev kp25 : List Nat := []
def s25 : SC :=
 .seq (.ops [⟨some 5, .move (.tmp 0), false, none⟩,
  ⟨some 6, .move (.tmp 1), false, none⟩,
  ⟨some 7, .call ⟨.value (.func 29), #[(.tmp 5), (.tmp 6)], #[25, 3]⟩, true, none⟩,
  ⟨some 4, .assign (.tmp 7), false, none⟩]) <|
 .seq (.keep [0, 1, 4]) <|
 .seq (.ops [⟨some 8, .move (.tmp 4), false, none⟩,
  ⟨some 9, .binOp .neq 67 (.tmp 8) (.const (.pointer none)) 67, false, none⟩,
  ⟨some 10, .move (.tmp 9), false, none⟩,
  ⟨some 11, .move (.tmp 4), false, some (10, true)⟩,
  ⟨some 12, .nilCheck (.tmp 11), false, some (10, true)⟩,
  ⟨some 13, .fieldAddr 69 (.tmp 12) 6, false, some (10, true)⟩,
  ⟨some 14, .load 3 (.tmp 13), false, some (10, true)⟩,
  ⟨some 15, .binOp .gtr 3 (.tmp 14) (.const (.int .i64 0)) 3, false, some (10, true)⟩,
  ⟨some 16, .pick (.tmp 10) (.tmp 15) (.const (.bool false)), false, none⟩]) <|
 .seq (.keep [0, 1, 4, 16]) <|
 .cond (.tmp 16) (.seq (.ops [⟨some 17, .move (.tmp 4), false, none⟩,
  ⟨some 18, .nilCheck (.tmp 17), false, none⟩,
  ⟨some 19, .fieldAddr 69 (.tmp 18) 6, false, none⟩,
  ⟨some 20, .load 3 (.tmp 19), false, none⟩,
  ⟨some 21, .binOp .sub 3 (.tmp 20) (.const (.int .i64 1)) 3, false, none⟩,
  ⟨some 22, .nilCheck (.tmp 17), false, none⟩,
  ⟨some 23, .fieldAddr 69 (.tmp 22) 6, false, none⟩,
  ⟨none, .store 3 (.tmp 23) (.tmp 21), true, none⟩]) <|
 .seq (.keep [0, 1]) <|
 .ops [⟨some 24, .move (.tmp 0), false, none⟩,
  ⟨some 25, .move (.tmp 1), false, none⟩,
  ⟨some 26, .call ⟨.value (.func 59), #[(.tmp 24), (.tmp 25)], #[25, 3]⟩, true, none⟩]) <|
 .skip
theorem c25 : Tryd.f25.body.map (fun c => ((compile Tryd.prog kp25 [] kp25 c).map (·.1), fits Tryd.f25.ntmps c)) = some (some s25, true) := by kernel_rfl
theorem r25 : Tryd.f25.results.toList = [] := by kernel_rfl
-- (*marionette/node.Tree).Len
abbrev kp26 : List Nat := [2]
def s26 : SC :=
 .seq (.ops [⟨some 2, .assign (.const (.int .i64 0)), false, none⟩]) <|
 .seq (.keep [0]) <|
 .seq (.seq (.ops [⟨some 3, .move (.tmp 0), false, none⟩,
  ⟨some 4, .binOp .eql 25 (.tmp 3) (.const (.pointer none)) 25, false, none⟩]) <|
 .seq (.keep [0, 4]) <|
 .cond (.tmp 4) (.seq (.ops [⟨some 2, .assign (.const (.int .i64 0)), false, none⟩]) <|
 .seq (.keep [2]) <|
 .ret) <|
 .skip) <|
 .seq (.keep [0]) <|
 .seq (.ops [⟨some 5, .move (.tmp 0), false, none⟩,
  ⟨some 6, .nilCheck (.tmp 5), false, none⟩,
  ⟨some 7, .fieldAddr 72 (.tmp 6) 0, false, none⟩,
  ⟨some 8, .load 70 (.tmp 7), false, none⟩,
  ⟨some 9, .call ⟨.builtin .len, #[(.tmp 8)], #[70]⟩, false, none⟩,
  ⟨some 2, .assign (.tmp 9), false, none⟩]) <|
 .seq (.keep [2]) <|
 .ret
theorem c26 : Tryd.f26.body.map (fun c => ((compile Tryd.prog kp26 [] kp26 c).map (·.1), fits Tryd.f26.ntmps c)) = some (some s26, true) := by kernel_rfl
theorem r26 : Tryd.f26.results.toList = [.tmp 2] := by kernel_rfl
-- (*marionette/node.Tree).place
abbrev kp28 : List Nat := [6, 7]
def s28 : SC :=
 .seq (.ops [⟨some 6, .assign (.const (.pointer none)), false, none⟩,
  ⟨some 7, .assign (.const (.int .i64 0)), false, none⟩]) <|
 .seq (.keep [0, 1, 2]) <|
 .seq (.ops [⟨some 11, .move (.tmp 0), false, none⟩,
  ⟨some 12, .move (.tmp 1), false, none⟩,
  ⟨some 13, .call ⟨.value (.func 36), #[(.tmp 11), (.tmp 12)], #[25, 3]⟩, true, none⟩,
  ⟨some 10, .move (.tmp 13), false, none⟩,
  ⟨some 14, .extract (.tmp 10) 0, false, none⟩,
  ⟨some 15, .extract (.tmp 10) 1, false, none⟩,
  ⟨some 8, .assign (.tmp 14), false, none⟩,
  ⟨some 9, .assign (.tmp 15), false, none⟩]) <|
 .seq (.keep [2, 8, 9]) <|
 .seq (.block 0 <| .seq (.ops [⟨some 17, .move (.tmp 9), false, none⟩,
  ⟨some 18, .binOp .neq 26 (.tmp 17) (.const (.int .i64 0)) 26, false, none⟩,
  ⟨some 16, .assign (.tmp 18), false, none⟩]) <|
 .seq (.keep [2, 8, 9, 16]) <|
 .cond (.tmp 16) (.seq (.ops [⟨some 19, .move (.tmp 9), false, none⟩,
  ⟨some 6, .assign (.const (.pointer none)), false, none⟩,
  ⟨some 7, .assign (.tmp 19), false, none⟩]) <|
 .seq (.keep [6, 7]) <|
 .ret) <|
 .seq (.ops [⟨some 21, .move (.tmp 2), false, none⟩,
  ⟨some 22, .binOp .eql 9 (.tmp 21) (.const (.string ⟨#[46]⟩)) 9, false, none⟩,
  ⟨some 23, .move (.tmp 22), false, none⟩,
  ⟨some 24, .move (.tmp 2), false, some (23, false)⟩,
  ⟨some 25, .binOp .eql 9 (.tmp 24) (.const (.string ⟨#[46, 46]⟩)) 9, false, some (23, false)⟩,
  ⟨some 26, .pick (.tmp 23) (.const (.bool true)) (.tmp 25), false, none⟩,
  ⟨some 20, .assign (.tmp 26), false, none⟩]) <|
 .seq (.keep [2, 8, 20]) <|
 .cond (.tmp 20) (.seq (.ops [⟨some 6, .assign (.const (.pointer none)), false, none⟩,
  ⟨some 7, .assign (.const (.int .i64 17)), false, none⟩]) <|
 .seq (.keep [6, 7]) <|
 .ret) <|
 .seq (.ops [⟨some 28, .move (.tmp 2), false, none⟩,
  ⟨some 29, .call ⟨.value (.func 22), #[(.tmp 28)], #[9]⟩, true, none⟩,
  ⟨some 30, .unOp .not 4 (.tmp 29), false, none⟩,
  ⟨some 27, .assign (.tmp 30), false, none⟩]) <|
 .seq (.keep [2, 8, 27]) <|
 .cond (.tmp 27) (.seq (.ops [⟨some 6, .assign (.const (.pointer none)), false, none⟩,
  ⟨some 7, .assign (.const (.int .i64 22)), false, none⟩]) <|
 .seq (.keep [6, 7]) <|
 .ret) <|
 .seq (.ops [⟨some 32, .move (.tmp 8), false, none⟩,
  ⟨some 33, .move (.tmp 2), false, none⟩,
  ⟨some 34, .call ⟨.value (.func 37), #[(.tmp 32), (.tmp 33)], #[67, 9]⟩, true, none⟩,
  ⟨some 35, .binOp .geq 3 (.tmp 34) (.const (.int .i64 0)) 3, false, none⟩,
  ⟨some 31, .assign (.tmp 35), false, none⟩]) <|
 .seq (.keep [8, 31]) <|
 .cond (.tmp 31) (.seq (.ops [⟨some 6, .assign (.const (.pointer none)), false, none⟩,
  ⟨some 7, .assign (.const (.int .i64 17)), false, none⟩]) <|
 .seq (.keep [6, 7]) <|
 .ret) <|
 .seq (.ops [⟨some 37, .move (.tmp 8), false, none⟩,
  ⟨some 38, .call ⟨.value (.func 34), #[(.tmp 37)], #[67]⟩, true, none⟩,
  ⟨some 36, .assign (.tmp 38), false, none⟩]) <|
 .seq (.keep [8, 36]) <|
 .cond (.tmp 36) (.seq (.ops [⟨some 6, .assign (.const (.pointer none)), false, none⟩,
  ⟨some 7, .assign (.const (.int .i64 2)), false, none⟩]) <|
 .seq (.keep [6, 7]) <|
 .ret) <|
 .skip) <|
 .seq (.keep [8]) <|
 .seq (.ops [⟨some 39, .move (.tmp 8), false, none⟩,
  ⟨some 6, .assign (.tmp 39), false, none⟩,
  ⟨some 7, .assign (.const (.int .i64 0)), false, none⟩]) <|
 .seq (.keep [6, 7]) <|
 .ret
theorem c28 : Tryd.f28.body.map (fun c => ((compile Tryd.prog kp28 [] kp28 c).map (·.1), fits Tryd.f28.ntmps c)) = some (some s28, true) := by kernel_rfl
theorem r28 : Tryd.f28.results.toList = [.tmp 6, .tmp 7] := by kernel_rfl
-- (*marionette/node.Tree).get
abbrev kp29 : List Nat := [4]
def s29 : SC :=
 .seq (.ops [⟨some 4, .assign (.const (.pointer none)), false, none⟩]) <|
 .seq (.keep [0, 1]) <|
 .seq (.seq (.ops [⟨some 5, .move (.tmp 0), false, none⟩,
  ⟨some 6, .binOp .eql 25 (.tmp 5) (.const (.pointer none)) 25, false, none⟩]) <|
 .seq (.keep [0, 1, 6]) <|
 .cond (.tmp 6) (.seq (.ops [⟨some 4, .assign (.const (.pointer none)), false, none⟩]) <|
 .seq (.keep [4]) <|
 .ret) <|
 .skip) <|
 .seq (.keep [0, 1]) <|
 .seq (.ops [⟨some 7, .move (.tmp 0), false, none⟩,
  ⟨some 8, .nilCheck (.tmp 7), false, none⟩,
  ⟨some 9, .fieldAddr 72 (.tmp 8) 0, false, none⟩,
  ⟨some 10, .load 70 (.tmp 9), false, none⟩,
  ⟨some 11, .move (.tmp 1), false, none⟩,
  ⟨some 12, .lookup 70 (.tmp 10) (.tmp 11) false, false, none⟩,
  ⟨some 4, .assign (.tmp 12), false, none⟩]) <|
 .seq (.keep [4]) <|
 .ret
theorem c29 : Tryd.f29.body.map (fun c => ((compile Tryd.prog kp29 [] kp29 c).map (·.1), fits Tryd.f29.ntmps c)) = some (some s29, true) := by kernel_rfl
theorem r29 : Tryd.f29.results.toList = [.tmp 4] := by kernel_rfl
-- marionette/node.good
abbrev kp30 : List Nat := [6]
def s30 : SC :=
 .seq (.ops [⟨some 6, .assign (.const (.bool false)), false, none⟩]) <|
 .seq (.keep [0, 1, 2]) <|
 .seq (.seq (.ops [⟨some 7, .move (.tmp 1), false, none⟩,
  ⟨some 8, .binOp .lss 3 (.tmp 7) (.const (.int .i64 0)) 3, false, none⟩,
  ⟨some 9, .move (.tmp 8), false, none⟩,
  ⟨some 10, .move (.tmp 1), false, some (9, false)⟩,
  ⟨some 11, .binOp .gtr 3 (.tmp 10) (.const (.int .i64 511)) 3, false, some (9, false)⟩,
  ⟨some 12, .pick (.tmp 9) (.const (.bool true)) (.tmp 11), false, none⟩,
  ⟨some 13, .move (.tmp 12), false, none⟩,
  ⟨some 14, .move (.tmp 2), false, some (13, false)⟩,
  ⟨some 15, .call ⟨.builtin .len, #[(.tmp 14)], #[23]⟩, false, some (13, false)⟩,
  ⟨some 16, .binOp .gtr 3 (.tmp 15) (.const (.int .i64 1048576)) 3, false, some (13, false)⟩,
  ⟨some 17, .pick (.tmp 13) (.const (.bool true)) (.tmp 16), false, none⟩]) <|
 .seq (.keep [0, 2, 17]) <|
 .cond (.tmp 17) (.seq (.ops [⟨some 6, .assign (.const (.bool false)), false, none⟩]) <|
 .seq (.keep [6]) <|
 .ret) <|
 .skip) <|
 .seq (.keep [0, 2]) <|
 .seq (.seq (.ops [⟨some 18, .move (.tmp 0), false, none⟩]) <|
 .seq (.keep [2, 18]) <|
 .block 0 <| .seq (.ops [⟨some 20, .binOp .eql 3 (.tmp 18) (.const (.int .i64 1)) 3, false, none⟩,
  ⟨some 19, .assign (.tmp 20), false, none⟩]) <|
 .seq (.keep [2, 18, 19]) <|
 .cond (.tmp 19) (.seq (.ops [⟨some 6, .assign (.const (.bool true)), false, none⟩]) <|
 .seq (.keep [6]) <|
 .ret) <|
 .seq (.ops [⟨some 22, .binOp .eql 3 (.tmp 18) (.const (.int .i64 3)) 3, false, none⟩,
  ⟨some 21, .assign (.tmp 22), false, none⟩]) <|
 .seq (.keep [2, 18, 21]) <|
 .cond (.tmp 21) (.seq (.ops [⟨some 23, .move (.tmp 2), false, none⟩,
  ⟨some 24, .call ⟨.builtin .len, #[(.tmp 23)], #[23]⟩, false, none⟩,
  ⟨some 25, .binOp .geq 3 (.tmp 24) (.const (.int .i64 1)) 3, false, none⟩,
  ⟨some 26, .move (.tmp 25), false, none⟩,
  ⟨some 27, .move (.tmp 2), false, some (26, true)⟩,
  ⟨some 28, .call ⟨.builtin .len, #[(.tmp 27)], #[23]⟩, false, some (26, true)⟩,
  ⟨some 29, .binOp .leq 3 (.tmp 28) (.const (.int .i64 4096)) 3, false, some (26, true)⟩,
  ⟨some 30, .pick (.tmp 26) (.tmp 29) (.const (.bool false)), false, none⟩,
  ⟨some 31, .move (.tmp 30), false, none⟩,
  ⟨some 32, .move (.tmp 2), false, some (31, true)⟩,
  ⟨some 33, .call ⟨.value (.func 62), #[(.tmp 32), (.const (.int .u8 0))], #[23, 5]⟩, true, some (31, true)⟩,
  ⟨some 34, .binOp .lss 3 (.tmp 33) (.const (.int .i64 0)) 3, false, some (31, true)⟩,
  ⟨some 35, .pick (.tmp 31) (.tmp 34) (.const (.bool false)), false, none⟩,
  ⟨some 6, .assign (.tmp 35), false, none⟩]) <|
 .seq (.keep [6]) <|
 .ret) <|
 .seq (.seq (.ops [⟨some 37, .binOp .eql 3 (.tmp 18) (.const (.int .i64 2)) 3, false, none⟩,
  ⟨some 36, .assign (.tmp 37), false, none⟩]) <|
 .seq (.keep [2, 18, 36]) <|
 .cond (.tmp 36) (.skip) <|
 .seq (.ops [⟨some 38, .binOp .eql 3 (.tmp 18) (.const (.int .i64 4)) 3, false, none⟩,
  ⟨some 36, .assign (.tmp 38), false, none⟩]) <|
 .seq (.keep [2, 18, 36]) <|
 .cond (.tmp 36) (.skip) <|
 .ops [⟨some 39, .binOp .eql 3 (.tmp 18) (.const (.int .i64 5)) 3, false, none⟩,
  ⟨some 36, .assign (.tmp 39), false, none⟩]) <|
 .seq (.keep [2, 36]) <|
 .cond (.tmp 36) (.seq (.ops [⟨some 40, .move (.tmp 2), false, none⟩,
  ⟨some 41, .call ⟨.builtin .len, #[(.tmp 40)], #[23]⟩, false, none⟩,
  ⟨some 42, .binOp .eql 3 (.tmp 41) (.const (.int .i64 0)) 3, false, none⟩,
  ⟨some 6, .assign (.tmp 42), false, none⟩]) <|
 .seq (.keep [6]) <|
 .ret) <|
 .skip) <|
 .seq (.keep []) <|
 .seq (.ops [⟨some 6, .assign (.const (.bool false)), false, none⟩]) <|
 .seq (.keep [6]) <|
 .ret
theorem c30 : Tryd.f30.body.map (fun c => ((compile Tryd.prog kp30 [] kp30 c).map (·.1), fits Tryd.f30.ntmps c)) = some (some s30, true) := by kernel_rfl
theorem r30 : Tryd.f30.results.toList = [.tmp 6] := by kernel_rfl
-- (*marionette/node.Tree).free
abbrev kp31 : List Nat := [2]
def s31 : SC :=
 .seq (.ops [⟨some 2, .assign (.const (.int .i64 0)), false, none⟩]) <|
 .seq (.keep [0]) <|
 .seq (.ops [⟨some 3, .assign (.const (.int .i64 1)), false, none⟩]) <|
 .seq (.keep [0, 3]) <|
 .seq (.block 0 <| .loop <| .seq (.seq (.seq (.ops [⟨some 4, .move (.tmp 0), false, none⟩,
  ⟨some 5, .nilCheck (.tmp 4), false, none⟩,
  ⟨some 6, .fieldAddr 72 (.tmp 5) 0, false, none⟩,
  ⟨some 7, .load 70 (.tmp 6), false, none⟩,
  ⟨some 8, .move (.tmp 3), false, none⟩,
  ⟨some 9, .lookup 70 (.tmp 7) (.tmp 8) false, false, none⟩,
  ⟨some 10, .binOp .neq 67 (.tmp 9) (.const (.pointer none)) 67, false, none⟩]) <|
 .seq (.keep [0, 3, 10]) <|
 .cond (.tmp 10) (.skip) <|
 .exit 0) <|
 .seq (.keep [0, 3]) <|
 .block 1 <| .ops [⟨some 11, .move (.tmp 3), false, none⟩,
  ⟨some 12, .binOp .add 3 (.tmp 11) (.const (.int .i64 1)) 3, false, none⟩,
  ⟨some 3, .assign (.tmp 12), false, none⟩]) <|
 .keep [0, 3]) <|
 .seq (.keep [3]) <|
 .seq (.ops [⟨some 13, .move (.tmp 3), false, none⟩,
  ⟨some 2, .assign (.tmp 13), false, none⟩]) <|
 .seq (.keep [2]) <|
 .ret
theorem c31 : Tryd.f31.body.map (fun c => ((compile Tryd.prog kp31 [] kp31 c).map (·.1), fits Tryd.f31.ntmps c)) = some (some s31, true) := by kernel_rfl
theorem r31 : Tryd.f31.results.toList = [.tmp 2] := by kernel_rfl
-- bytes.Clone
abbrev kp32 : List Nat := [2]
def s32 : SC :=
 .seq (.ops [⟨some 2, .assign (.const (.slice none 0 0)), false, none⟩]) <|
 .seq (.keep [0]) <|
 .seq (.seq (.ops [⟨some 3, .move (.tmp 0), false, none⟩,
  ⟨some 4, .binOp .eql 23 (.tmp 3) (.const (.slice none 0 0)) 23, false, none⟩]) <|
 .seq (.keep [0, 4]) <|
 .cond (.tmp 4) (.seq (.ops [⟨some 2, .assign (.const (.slice none 0 0)), false, none⟩]) <|
 .seq (.keep [2]) <|
 .ret) <|
 .skip) <|
 .seq (.keep [0]) <|
 .seq (.ops [⟨some 5, .buildSlice 23 0 #[], true, none⟩,
  ⟨some 6, .move (.tmp 0), false, none⟩,
  ⟨some 7, .call ⟨.builtin .append, #[(.tmp 5), (.tmp 6)], #[23, 23]⟩, true, none⟩,
  ⟨some 2, .assign (.tmp 7), false, none⟩]) <|
 .seq (.keep [2]) <|
 .ret
theorem c32 : Tryd.f32.body.map (fun c => ((compile Tryd.prog kp32 [] kp32 c).map (·.1), fits Tryd.f32.ntmps c)) = some (some s32, true) := by kernel_rfl
theorem r32 : Tryd.f32.results.toList = [.tmp 2] := by kernel_rfl
-- (*marionette/node.Tree).plain
abbrev kp33 : List Nat := [4, 5]
def s33 : SC :=
 .seq (.ops [⟨some 4, .assign (.const (.pointer none)), false, none⟩,
  ⟨some 5, .assign (.const (.int .i64 0)), false, none⟩]) <|
 .seq (.keep [0, 1]) <|
 .seq (.ops [⟨some 7, .move (.tmp 0), false, none⟩,
  ⟨some 8, .move (.tmp 1), false, none⟩,
  ⟨some 9, .call ⟨.value (.func 29), #[(.tmp 7), (.tmp 8)], #[25, 3]⟩, true, none⟩,
  ⟨some 6, .assign (.tmp 9), false, none⟩]) <|
 .seq (.keep [6]) <|
 .block 0 <| .seq (.ops [⟨some 12, .move (.tmp 6), false, none⟩,
  ⟨some 13, .binOp .eql 67 (.tmp 12) (.const (.pointer none)) 67, false, none⟩,
  ⟨some 11, .assign (.tmp 13), false, none⟩]) <|
 .seq (.keep [6, 11]) <|
 .cond (.tmp 11) (.seq (.ops [⟨some 4, .assign (.const (.pointer none)), false, none⟩,
  ⟨some 5, .assign (.const (.int .i64 2)), false, none⟩]) <|
 .seq (.keep [4, 5]) <|
 .ret) <|
 .seq (.ops [⟨some 15, .move (.tmp 6), false, none⟩,
  ⟨some 16, .nilCheck (.tmp 15), false, none⟩,
  ⟨some 17, .fieldAddr 69 (.tmp 16) 0, false, none⟩,
  ⟨some 18, .load 3 (.tmp 17), false, none⟩,
  ⟨some 19, .binOp .eql 3 (.tmp 18) (.const (.int .i64 2)) 3, false, none⟩,
  ⟨some 14, .assign (.tmp 19), false, none⟩]) <|
 .seq (.keep [6, 14]) <|
 .cond (.tmp 14) (.seq (.ops [⟨some 4, .assign (.const (.pointer none)), false, none⟩,
  ⟨some 5, .assign (.const (.int .i64 21)), false, none⟩]) <|
 .seq (.keep [4, 5]) <|
 .ret) <|
 .seq (.ops [⟨some 21, .move (.tmp 6), false, none⟩,
  ⟨some 22, .nilCheck (.tmp 21), false, none⟩,
  ⟨some 23, .fieldAddr 69 (.tmp 22) 0, false, none⟩,
  ⟨some 24, .load 3 (.tmp 23), false, none⟩,
  ⟨some 25, .binOp .eql 3 (.tmp 24) (.const (.int .i64 3)) 3, false, none⟩,
  ⟨some 20, .assign (.tmp 25), false, none⟩]) <|
 .seq (.keep [6, 20]) <|
 .cond (.tmp 20) (.seq (.ops [⟨some 4, .assign (.const (.pointer none)), false, none⟩,
  ⟨some 5, .assign (.const (.int .i64 22)), false, none⟩]) <|
 .seq (.keep [4, 5]) <|
 .ret) <|
 .seq (.ops [⟨some 10, .move (.tmp 6), false, none⟩,
  ⟨some 4, .assign (.tmp 10), false, none⟩,
  ⟨some 5, .assign (.const (.int .i64 0)), false, none⟩]) <|
 .seq (.keep [4, 5]) <|
 .ret
theorem c33 : Tryd.f33.body.map (fun c => ((compile Tryd.prog kp33 [] kp33 c).map (·.1), fits Tryd.f33.ntmps c)) = some (some s33, true) := by kernel_rfl
theorem r33 : Tryd.f33.results.toList = [.tmp 4, .tmp 5] := by kernel_rfl
-- (*marionette/node.file).dead
abbrev kp34 : List Nat := [2]
def s34 : SC :=
 .seq (.ops [⟨some 2, .assign (.const (.bool false)), false, none⟩]) <|
 .seq (.keep [0]) <|
 .seq (.ops [⟨some 3, .move (.tmp 0), false, none⟩,
  ⟨some 4, .nilCheck (.tmp 3), false, none⟩,
  ⟨some 5, .fieldAddr 69 (.tmp 4) 0, false, none⟩,
  ⟨some 6, .load 3 (.tmp 5), false, none⟩,
  ⟨some 7, .binOp .eql 3 (.tmp 6) (.const (.int .i64 2)) 3, false, none⟩,
  ⟨some 8, .move (.tmp 7), false, none⟩,
  ⟨some 9, .move (.tmp 0), false, some (8, true)⟩,
  ⟨some 10, .nilCheck (.tmp 9), false, some (8, true)⟩,
  ⟨some 11, .fieldAddr 69 (.tmp 10) 4, false, some (8, true)⟩,
  ⟨some 12, .load 3 (.tmp 11), false, some (8, true)⟩,
  ⟨some 13, .binOp .eql 3 (.tmp 12) (.const (.int .i64 0)) 3, false, some (8, true)⟩,
  ⟨some 14, .pick (.tmp 8) (.tmp 13) (.const (.bool false)), false, none⟩,
  ⟨some 2, .assign (.tmp 14), false, none⟩]) <|
 .seq (.keep [2]) <|
 .ret
theorem c34 : Tryd.f34.body.map (fun c => ((compile Tryd.prog kp34 [] kp34 c).map (·.1), fits Tryd.f34.ntmps c)) = some (some s34, true) := by kernel_rfl
theorem r34 : Tryd.f34.results.toList = [.tmp 2] := by kernel_rfl
-- marionette/marionetteref01.Udec
abbrev kp35 : List Nat := [2]
def s35 : SC :=
 .seq (.ops [⟨some 2, .assign (.const (.string ⟨#[]⟩)), false, none⟩]) <|
 .seq (.keep [0]) <|
 .seq (.ops [⟨some 3, .assign (.const (.string ⟨#[]⟩)), false, none⟩]) <|
 .seq (.keep [0, 3]) <|
 .block 0 <| .loop <| .seq (.block 1 <| .seq (.ops [⟨some 4, .move (.tmp 0), false, none⟩,
  ⟨some 5, .binOp .rem 83 (.tmp 4) (.const (.int .u64 10)) 83, false, none⟩,
  ⟨some 6, .convert 83 5 (.tmp 5), false, none⟩,
  ⟨some 7, .binOp .add 5 (.const (.int .u8 48)) (.tmp 6) 5, false, none⟩,
  ⟨some 8, .buildSlice 23 1 #[(0, (.tmp 7))], true, none⟩,
  ⟨some 9, .convert 23 9 (.tmp 8), true, none⟩,
  ⟨some 10, .move (.tmp 3), false, none⟩,
  ⟨some 11, .binOp .add 9 (.tmp 9) (.tmp 10) 9, false, none⟩,
  ⟨some 3, .assign (.tmp 11), false, none⟩]) <|
 .seq (.keep [0, 3]) <|
 .seq (.ops [⟨some 12, .move (.tmp 0), false, none⟩,
  ⟨some 13, .binOp .quo 83 (.tmp 12) (.const (.int .u64 10)) 83, false, none⟩,
  ⟨some 0, .assign (.tmp 13), false, none⟩]) <|
 .seq (.keep [0, 3]) <|
 .seq (.ops [⟨some 14, .move (.tmp 0), false, none⟩,
  ⟨some 15, .binOp .eql 83 (.tmp 14) (.const (.int .u64 0)) 83, false, none⟩]) <|
 .seq (.keep [0, 3, 15]) <|
 .cond (.tmp 15) (.seq (.ops [⟨some 16, .move (.tmp 3), false, none⟩,
  ⟨some 2, .assign (.tmp 16), false, none⟩]) <|
 .seq (.keep [2]) <|
 .ret) <|
 .skip) <|
 .keep [0, 3]
theorem c35 : Tryd.f35.body.map (fun c => ((compile Tryd.prog kp35 [] kp35 c).map (·.1), fits Tryd.f35.ntmps c)) = some (some s35, true) := by kernel_rfl
theorem r35 : Tryd.f35.results.toList = [.tmp 2] := by kernel_rfl
-- (*marionette/node.Tree).dir
abbrev kp36 : List Nat := [4, 5]
def s36 : SC :=
 .seq (.ops [⟨some 4, .assign (.const (.pointer none)), false, none⟩,
  ⟨some 5, .assign (.const (.int .i64 0)), false, none⟩]) <|
 .seq (.keep [0, 1]) <|
 .seq (.ops [⟨some 7, .move (.tmp 0), false, none⟩,
  ⟨some 8, .move (.tmp 1), false, none⟩,
  ⟨some 9, .call ⟨.value (.func 29), #[(.tmp 7), (.tmp 8)], #[25, 3]⟩, true, none⟩,
  ⟨some 6, .assign (.tmp 9), false, none⟩]) <|
 .seq (.keep [6]) <|
 .block 0 <| .seq (.ops [⟨some 12, .move (.tmp 6), false, none⟩,
  ⟨some 13, .binOp .eql 67 (.tmp 12) (.const (.pointer none)) 67, false, none⟩,
  ⟨some 11, .assign (.tmp 13), false, none⟩]) <|
 .seq (.keep [6, 11]) <|
 .cond (.tmp 11) (.seq (.ops [⟨some 4, .assign (.const (.pointer none)), false, none⟩,
  ⟨some 5, .assign (.const (.int .i64 2)), false, none⟩]) <|
 .seq (.keep [4, 5]) <|
 .ret) <|
 .seq (.ops [⟨some 15, .move (.tmp 6), false, none⟩,
  ⟨some 16, .nilCheck (.tmp 15), false, none⟩,
  ⟨some 17, .fieldAddr 69 (.tmp 16) 0, false, none⟩,
  ⟨some 18, .load 3 (.tmp 17), false, none⟩,
  ⟨some 19, .binOp .neq 3 (.tmp 18) (.const (.int .i64 2)) 3, false, none⟩,
  ⟨some 14, .assign (.tmp 19), false, none⟩]) <|
 .seq (.keep [6, 14]) <|
 .cond (.tmp 14) (.seq (.ops [⟨some 4, .assign (.const (.pointer none)), false, none⟩,
  ⟨some 5, .assign (.const (.int .i64 20)), false, none⟩]) <|
 .seq (.keep [4, 5]) <|
 .ret) <|
 .seq (.ops [⟨some 10, .move (.tmp 6), false, none⟩,
  ⟨some 4, .assign (.tmp 10), false, none⟩,
  ⟨some 5, .assign (.const (.int .i64 0)), false, none⟩]) <|
 .seq (.keep [4, 5]) <|
 .ret
theorem c36 : Tryd.f36.body.map (fun c => ((compile Tryd.prog kp36 [] kp36 c).map (·.1), fits Tryd.f36.ntmps c)) = some (some s36, true) := by kernel_rfl
theorem r36 : Tryd.f36.results.toList = [.tmp 4, .tmp 5] := by kernel_rfl
-- (*marionette/node.file).at
abbrev kp37 : List Nat := [4]
def s37 : SC :=
 .seq (.ops [⟨some 3, .box 9 (.tmp 1), true, none⟩,
  ⟨some 4, .assign (.const (.int .i64 0)), false, none⟩]) <|
 .seq (.keep [0, 3]) <|
 .seq (.ops [⟨some 5, .move (.tmp 0), false, none⟩,
  ⟨some 6, .nilCheck (.tmp 5), false, none⟩,
  ⟨some 7, .fieldAddr 69 (.tmp 6) 3, false, none⟩,
  ⟨some 8, .load 55 (.tmp 7), false, none⟩,
  ⟨some 9, .makeFunc (.func 64) #[] #[(.tmp 3)], false, none⟩,
  ⟨some 10, .call ⟨.value (.func 63), #[(.tmp 8), (.tmp 9)], #[55, 106]⟩, true, none⟩,
  ⟨some 4, .assign (.tmp 10), false, none⟩]) <|
 .seq (.keep [4]) <|
 .ret
theorem c37 : Tryd.f37.body.map (fun c => ((compile Tryd.prog kp37 [] kp37 c).map (·.1), fits Tryd.f37.ntmps c)) = some (some s37, true) := by kernel_rfl
theorem r37 : Tryd.f37.results.toList = [.tmp 4] := by kernel_rfl
-- (*marionette/marionetteref15.Tree).Make
abbrev kp40 : List Nat := [12, 13]
def s40 : SC :=
 .seq (.ops [⟨some 12, .assign (.const (.int .i64 0)), false, none⟩,
  ⟨some 13, .assign (.const (.int .i64 0)), false, none⟩]) <|
 .seq (.keep [0, 1, 2, 3, 4, 5]) <|
 .seq (.ops [⟨some 17, .move (.tmp 0), false, none⟩,
  ⟨some 18, .move (.tmp 1), false, none⟩,
  ⟨some 19, .call ⟨.value (.func 66), #[(.tmp 17), (.tmp 18)], #[48, 3]⟩, true, none⟩,
  ⟨some 14, .assign (.tmp 19), false, none⟩]) <|
 .seq (.keep [0, 1, 2, 3, 4, 5, 14]) <|
 .seq (.seq (.ops [⟨some 20, .move (.tmp 14), false, none⟩,
  ⟨some 21, .binOp .neq 26 (.tmp 20) (.const (.int .i64 0)) 26, false, none⟩]) <|
 .seq (.keep [0, 1, 2, 3, 4, 5, 14, 21]) <|
 .cond (.tmp 21) (.seq (.ops [⟨some 22, .move (.tmp 14), false, none⟩,
  ⟨some 12, .assign (.const (.int .i64 0)), false, none⟩,
  ⟨some 13, .assign (.tmp 22), false, none⟩]) <|
 .seq (.keep [12, 13]) <|
 .ret) <|
 .skip) <|
 .seq (.keep [0, 1, 2, 3, 4, 5]) <|
 .seq (.seq (.ops [⟨some 23, .move (.tmp 3), false, none⟩,
  ⟨some 24, .move (.tmp 4), false, none⟩,
  ⟨some 25, .move (.tmp 5), false, none⟩,
  ⟨some 26, .call ⟨.value (.func 67), #[(.tmp 23), (.tmp 24), (.tmp 25)], #[3, 3, 23]⟩, true, none⟩,
  ⟨some 27, .unOp .not 4 (.tmp 26), false, none⟩]) <|
 .seq (.keep [0, 1, 2, 3, 4, 5, 27]) <|
 .cond (.tmp 27) (.seq (.ops [⟨some 12, .assign (.const (.int .i64 0)), false, none⟩,
  ⟨some 13, .assign (.const (.int .i64 22)), false, none⟩]) <|
 .seq (.keep [12, 13]) <|
 .ret) <|
 .skip) <|
 .seq (.keep [0, 1, 2, 3, 4, 5]) <|
 .seq (.ops [⟨some 28, .move (.tmp 0), false, none⟩,
  ⟨some 29, .move (.tmp 1), false, none⟩,
  ⟨some 30, .move (.tmp 2), false, none⟩,
  ⟨some 31, .call ⟨.value (.func 68), #[(.tmp 28), (.tmp 29), (.tmp 30)], #[48, 3, 9]⟩, true, none⟩,
  ⟨some 14, .assign (.tmp 31), false, none⟩]) <|
 .seq (.keep [0, 1, 2, 3, 4, 5, 14]) <|
 .seq (.seq (.ops [⟨some 32, .move (.tmp 14), false, none⟩,
  ⟨some 33, .binOp .neq 26 (.tmp 32) (.const (.int .i64 0)) 26, false, none⟩]) <|
 .seq (.keep [0, 1, 2, 3, 4, 5, 14, 33]) <|
 .cond (.tmp 33) (.seq (.ops [⟨some 34, .move (.tmp 14), false, none⟩,
  ⟨some 12, .assign (.const (.int .i64 0)), false, none⟩,
  ⟨some 13, .assign (.tmp 34), false, none⟩]) <|
 .seq (.keep [12, 13]) <|
 .ret) <|
 .skip) <|
 .seq (.keep [0, 1, 2, 3, 4, 5]) <|
 .seq (.seq (.ops [⟨some 35, .move (.tmp 0), false, none⟩,
  ⟨some 36, .call ⟨.value (.func 69), #[(.tmp 35)], #[48]⟩, true, none⟩,
  ⟨some 37, .binOp .geq 3 (.tmp 36) (.const (.int .i64 1024)) 3, false, none⟩]) <|
 .seq (.keep [0, 1, 2, 3, 4, 5, 37]) <|
 .cond (.tmp 37) (.seq (.ops [⟨some 12, .assign (.const (.int .i64 0)), false, none⟩,
  ⟨some 13, .assign (.const (.int .i64 28)), false, none⟩]) <|
 .seq (.keep [12, 13]) <|
 .ret) <|
 .skip) <|
 .seq (.keep [0, 1, 2, 3, 4, 5]) <|
 .seq (.ops [⟨some 15, .assign (.const (.int .i64 1)), false, none⟩]) <|
 .seq (.keep [0, 1, 2, 3, 4, 5, 15]) <|
 .seq (.block 0 <| .loop <| .seq (.seq (.seq (.ops [⟨some 38, .move (.tmp 15), false, none⟩,
  ⟨some 39, .move (.tmp 0), false, none⟩,
  ⟨some 40, .nilCheck (.tmp 39), false, none⟩,
  ⟨some 41, .fieldAddr 92 (.tmp 40) 0, false, none⟩,
  ⟨some 42, .load 90 (.tmp 41), false, none⟩,
  ⟨some 43, .call ⟨.builtin .len, #[(.tmp 42)], #[90]⟩, false, none⟩,
  ⟨some 44, .binOp .leq 3 (.tmp 38) (.tmp 43) 3, false, none⟩,
  ⟨some 45, .move (.tmp 44), false, none⟩,
  ⟨some 46, .move (.tmp 0), false, some (45, true)⟩,
  ⟨some 47, .nilCheck (.tmp 46), false, some (45, true)⟩,
  ⟨some 48, .fieldAddr 92 (.tmp 47) 0, false, some (45, true)⟩,
  ⟨some 49, .load 90 (.tmp 48), false, some (45, true)⟩,
  ⟨some 50, .move (.tmp 15), false, some (45, true)⟩,
  ⟨some 51, .binOp .sub 3 (.tmp 50) (.const (.int .i64 1)) 3, false, some (45, true)⟩,
  ⟨some 52, .indexAddr 90 (.tmp 49) (.tmp 51), false, some (45, true)⟩,
  ⟨some 53, .load 87 (.tmp 52), false, some (45, true)⟩,
  ⟨some 54, .nilCheck (.tmp 53), false, some (45, true)⟩,
  ⟨some 55, .fieldAddr 89 (.tmp 54) 0, false, some (45, true)⟩,
  ⟨some 56, .load 3 (.tmp 55), false, some (45, true)⟩,
  ⟨some 57, .binOp .gtr 3 (.tmp 56) (.const (.int .i64 0)) 3, false, some (45, true)⟩,
  ⟨some 58, .pick (.tmp 45) (.tmp 57) (.const (.bool false)), false, none⟩]) <|
 .seq (.keep [0, 1, 2, 3, 4, 5, 15, 58]) <|
 .cond (.tmp 58) (.skip) <|
 .exit 0) <|
 .seq (.keep [0, 1, 2, 3, 4, 5, 15]) <|
 .block 1 <| .ops [⟨some 59, .move (.tmp 15), false, none⟩,
  ⟨some 60, .binOp .add 3 (.tmp 59) (.const (.int .i64 1)) 3, false, none⟩,
  ⟨some 15, .assign (.tmp 60), false, none⟩]) <|
 .keep [0, 1, 2, 3, 4, 5, 15]) <|
 .seq (.keep [0, 1, 2, 3, 4, 5, 15]) <|
 .seq (.ops [⟨some 61, .move (.tmp 15), false, none⟩,
  ⟨some 62, .move (.tmp 3), false, none⟩,
  ⟨some 63, .move (.tmp 4), false, none⟩,
  ⟨some 64, .buildSlice 23 0 #[], true, none⟩,
  ⟨some 65, .move (.tmp 5), false, none⟩,
  ⟨some 66, .call ⟨.builtin .append, #[(.tmp 64), (.tmp 65)], #[23, 23]⟩, true, none⟩,
  ⟨some 67, .build 89 #[(0, (.tmp 61)), (1, (.tmp 62)), (2, (.tmp 63)), (3, (.tmp 66)), (6, (.const (.int .i64 1)))], false, none⟩,
  ⟨some 68, .box 89 (.tmp 67), true, none⟩,
  ⟨some 16, .assign (.tmp 68), false, none⟩]) <|
 .seq (.keep [0, 1, 2, 3, 15, 16]) <|
 .seq (.seq (.ops [⟨some 69, .move (.tmp 3), false, none⟩,
  ⟨some 70, .binOp .eql 3 (.tmp 69) (.const (.int .i64 2)) 3, false, none⟩]) <|
 .seq (.keep [0, 1, 2, 15, 16, 70]) <|
 .cond (.tmp 70) (.ops [⟨some 71, .move (.tmp 16), false, none⟩,
  ⟨some 72, .move (.tmp 1), false, none⟩,
  ⟨some 73, .nilCheck (.tmp 71), false, none⟩,
  ⟨some 74, .fieldAddr 89 (.tmp 73) 5, false, none⟩,
  ⟨none, .store 3 (.tmp 74) (.tmp 72), true, none⟩]) <|
 .skip) <|
 .seq (.keep [0, 1, 2, 15, 16]) <|
 .seq (.seq (.ops [⟨some 75, .move (.tmp 15), false, none⟩,
  ⟨some 76, .move (.tmp 0), false, none⟩,
  ⟨some 77, .nilCheck (.tmp 76), false, none⟩,
  ⟨some 78, .fieldAddr 92 (.tmp 77) 0, false, none⟩,
  ⟨some 79, .load 90 (.tmp 78), false, none⟩,
  ⟨some 80, .call ⟨.builtin .len, #[(.tmp 79)], #[90]⟩, false, none⟩,
  ⟨some 81, .binOp .gtr 3 (.tmp 75) (.tmp 80) 3, false, none⟩]) <|
 .seq (.keep [0, 1, 2, 15, 16, 81]) <|
 .cond (.tmp 81) (.ops [⟨some 82, .move (.tmp 0), false, none⟩,
  ⟨some 83, .move (.tmp 0), false, none⟩,
  ⟨some 84, .nilCheck (.tmp 83), false, none⟩,
  ⟨some 85, .fieldAddr 92 (.tmp 84) 0, false, none⟩,
  ⟨some 86, .load 90 (.tmp 85), false, none⟩,
  ⟨some 87, .move (.tmp 16), false, none⟩,
  ⟨some 88, .buildSlice 90 1 #[(0, (.tmp 87))], true, none⟩,
  ⟨some 89, .call ⟨.builtin .append, #[(.tmp 86), (.tmp 88)], #[90, 90]⟩, true, none⟩,
  ⟨some 90, .nilCheck (.tmp 82), false, none⟩,
  ⟨some 91, .fieldAddr 92 (.tmp 90) 0, false, none⟩,
  ⟨none, .store 90 (.tmp 91) (.tmp 89), true, none⟩]) <|
 .ops [⟨some 92, .move (.tmp 0), false, none⟩,
  ⟨some 93, .nilCheck (.tmp 92), false, none⟩,
  ⟨some 94, .fieldAddr 92 (.tmp 93) 0, false, none⟩,
  ⟨some 95, .load 90 (.tmp 94), false, none⟩,
  ⟨some 96, .move (.tmp 15), false, none⟩,
  ⟨some 97, .binOp .sub 3 (.tmp 96) (.const (.int .i64 1)) 3, false, none⟩,
  ⟨some 98, .move (.tmp 16), false, none⟩,
  ⟨some 99, .indexAddr 90 (.tmp 95) (.tmp 97), false, none⟩,
  ⟨none, .store 87 (.tmp 99) (.tmp 98), true, none⟩]) <|
 .seq (.keep [0, 1, 2, 15]) <|
 .seq (.ops [⟨some 100, .move (.tmp 0), false, none⟩,
  ⟨some 101, .move (.tmp 1), false, none⟩,
  ⟨some 102, .move (.tmp 2), false, none⟩,
  ⟨some 103, .move (.tmp 15), false, none⟩,
  ⟨some 104, .call ⟨.value (.func 70), #[(.tmp 100), (.tmp 101), (.tmp 102), (.tmp 103)], #[48, 3, 9, 3]⟩, true, none⟩]) <|
 .seq (.keep [15]) <|
 .seq (.ops [⟨some 105, .move (.tmp 15), false, none⟩,
  ⟨some 12, .assign (.tmp 105), false, none⟩,
  ⟨some 13, .assign (.const (.int .i64 0)), false, none⟩]) <|
 .seq (.keep [12, 13]) <|
 .ret
theorem c40 : Tryd.f40.body.map (fun c => ((compile Tryd.prog kp40 [] kp40 c).map (·.1), fits Tryd.f40.ntmps c)) = some (some s40, true) := by kernel_rfl
theorem r40 : Tryd.f40.results.toList = [.tmp 12, .tmp 13] := by kernel_rfl
-- (*marionette/node.Tree).Link
abbrev kp41 : List Nat := [8]
def s41 : SC :=
 .seq (.ops [⟨some 8, .assign (.const (.int .i64 0)), false, none⟩]) <|
 .seq (.keep [0, 1, 2, 3]) <|
 .seq (.ops [⟨some 12, .move (.tmp 0), false, none⟩,
  ⟨some 13, .move (.tmp 3), false, none⟩,
  ⟨some 14, .call ⟨.value (.func 29), #[(.tmp 12), (.tmp 13)], #[25, 3]⟩, true, none⟩,
  ⟨some 9, .assign (.tmp 14), false, none⟩]) <|
 .seq (.keep [0, 1, 2, 3, 9]) <|
 .seq (.block 0 <| .seq (.ops [⟨some 16, .move (.tmp 9), false, none⟩,
  ⟨some 17, .binOp .eql 67 (.tmp 16) (.const (.pointer none)) 67, false, none⟩,
  ⟨some 15, .assign (.tmp 17), false, none⟩]) <|
 .seq (.keep [0, 1, 2, 3, 9, 15]) <|
 .cond (.tmp 15) (.seq (.ops [⟨some 8, .assign (.const (.int .i64 2)), false, none⟩]) <|
 .seq (.keep [8]) <|
 .ret) <|
 .seq (.ops [⟨some 19, .move (.tmp 9), false, none⟩,
  ⟨some 20, .nilCheck (.tmp 19), false, none⟩,
  ⟨some 21, .fieldAddr 69 (.tmp 20) 0, false, none⟩,
  ⟨some 22, .load 3 (.tmp 21), false, none⟩,
  ⟨some 23, .binOp .eql 3 (.tmp 22) (.const (.int .i64 2)) 3, false, none⟩,
  ⟨some 18, .assign (.tmp 23), false, none⟩]) <|
 .seq (.keep [0, 1, 2, 3, 9, 18]) <|
 .cond (.tmp 18) (.seq (.ops [⟨some 8, .assign (.const (.int .i64 1)), false, none⟩]) <|
 .seq (.keep [8]) <|
 .ret) <|
 .skip) <|
 .seq (.keep [0, 1, 2, 3, 9]) <|
 .seq (.ops [⟨some 25, .move (.tmp 0), false, none⟩,
  ⟨some 26, .move (.tmp 1), false, none⟩,
  ⟨some 27, .move (.tmp 2), false, none⟩,
  ⟨some 28, .call ⟨.value (.func 28), #[(.tmp 25), (.tmp 26), (.tmp 27)], #[25, 3, 9]⟩, true, none⟩,
  ⟨some 24, .move (.tmp 28), false, none⟩,
  ⟨some 29, .extract (.tmp 24) 0, false, none⟩,
  ⟨some 30, .extract (.tmp 24) 1, false, none⟩,
  ⟨some 10, .assign (.tmp 29), false, none⟩,
  ⟨some 11, .assign (.tmp 30), false, none⟩]) <|
 .seq (.keep [2, 3, 9, 10, 11]) <|
 .seq (.seq (.ops [⟨some 31, .move (.tmp 11), false, none⟩,
  ⟨some 32, .binOp .neq 26 (.tmp 31) (.const (.int .i64 0)) 26, false, none⟩]) <|
 .seq (.keep [2, 3, 9, 10, 11, 32]) <|
 .cond (.tmp 32) (.seq (.ops [⟨some 33, .move (.tmp 11), false, none⟩,
  ⟨some 8, .assign (.tmp 33), false, none⟩]) <|
 .seq (.keep [8]) <|
 .ret) <|
 .skip) <|
 .seq (.keep [2, 3, 9, 10]) <|
 .seq (.ops [⟨some 34, .move (.tmp 9), false, none⟩,
  ⟨some 35, .nilCheck (.tmp 34), false, none⟩,
  ⟨some 36, .fieldAddr 69 (.tmp 35) 5, false, none⟩,
  ⟨some 37, .load 3 (.tmp 36), false, none⟩,
  ⟨some 38, .binOp .add 3 (.tmp 37) (.const (.int .i64 1)) 3, false, none⟩,
  ⟨some 39, .nilCheck (.tmp 34), false, none⟩,
  ⟨some 40, .fieldAddr 69 (.tmp 39) 5, false, none⟩,
  ⟨none, .store 3 (.tmp 40) (.tmp 38), true, none⟩]) <|
 .seq (.keep [2, 3, 9, 10]) <|
 .seq (.seq (.ops [⟨some 41, .move (.tmp 10), false, none⟩]) <|
 .seq (.ops [⟨some 42, .move (.tmp 10), false, none⟩]) <|
 .seq (.ops [⟨some 43, .nilCheck (.tmp 42), false, none⟩]) <|
 .seq (.ops [⟨some 44, .fieldAddr 69 (.tmp 43) 3, false, none⟩]) <|
 .seq (.ops [⟨some 46, .move (.tmp 2), false, none⟩]) <|
 .seq (.ops [⟨some 47, .move (.tmp 3), false, none⟩]) <|
 .seq (.ops [⟨some 48, .move (.tmp 9), false, none⟩]) <|
 .seq (.ops [⟨some 49, .nilCheck (.tmp 48), false, none⟩]) <|
 .seq (.ops [⟨some 50, .fieldAddr 69 (.tmp 49) 0, false, none⟩]) <|
 .seq (.ops [⟨some 51, .load 3 (.tmp 50), false, none⟩]) <|
 .seq (.ops [⟨some 52, .build 59 #[(0, (.tmp 46)), (1, (.tmp 47)), (2, (.tmp 51))], false, none⟩]) <|
 .amb (.seq (.ops [⟨some 45, .load 55 (.tmp 44), false, none⟩]) <|
 .seq (.ops [⟨some 53, .buildSlice 55 1 #[(0, (.tmp 52))], true, none⟩]) <|
 .seq (.ops [⟨some 54, .call ⟨.builtin .append, #[(.tmp 45), (.tmp 53)], #[55, 55]⟩, true, none⟩]) <|
 .seq (.ops [⟨some 55, .nilCheck (.tmp 41), false, none⟩]) <|
 .seq (.ops [⟨some 56, .fieldAddr 69 (.tmp 55) 3, false, none⟩]) <|
 .seq (.ops [⟨none, .store 55 (.tmp 56) (.tmp 54), true, none⟩]) <|
 .skip) (.seq (.ops [⟨some 53, .buildSlice 55 1 #[(0, (.tmp 52))], true, none⟩]) <|
 .seq (.ops [⟨some 45, .load 55 (.tmp 44), false, none⟩]) <|
 .seq (.ops [⟨some 54, .call ⟨.builtin .append, #[(.tmp 45), (.tmp 53)], #[55, 55]⟩, true, none⟩]) <|
 .seq (.ops [⟨some 55, .nilCheck (.tmp 41), false, none⟩]) <|
 .seq (.ops [⟨some 56, .fieldAddr 69 (.tmp 55) 3, false, none⟩]) <|
 .seq (.ops [⟨none, .store 55 (.tmp 56) (.tmp 54), true, none⟩]) <|
 .skip)) <|
 .seq (.keep []) <|
 .seq (.ops [⟨some 8, .assign (.const (.int .i64 0)), false, none⟩]) <|
 .seq (.keep [8]) <|
 .ret
theorem c41 : Tryd.f41.body.map (fun c => ((compile Tryd.prog kp41 [] kp41 c).map (·.1), fits Tryd.f41.ntmps c)) = some (some s41, true) := by kernel_rfl
theorem r41 : Tryd.f41.results.toList = [.tmp 8] := by kernel_rfl
-- (*marionette/marionetteref15.Tree).Link
abbrev kp42 : List Nat := [8]
def s42 : SC :=
 .seq (.ops [⟨some 8, .assign (.const (.int .i64 0)), false, none⟩]) <|
 .seq (.keep [0, 1, 2, 3]) <|
 .seq (.ops [⟨some 11, .move (.tmp 0), false, none⟩,
  ⟨some 12, .move (.tmp 3), false, none⟩,
  ⟨some 13, .call ⟨.value (.func 71), #[(.tmp 11), (.tmp 12)], #[48, 3]⟩, true, none⟩,
  ⟨some 9, .assign (.tmp 13), false, none⟩]) <|
 .seq (.keep [0, 1, 2, 3, 9]) <|
 .seq (.seq (.ops [⟨some 14, .move (.tmp 9), false, none⟩,
  ⟨some 15, .nilCheck (.tmp 14), false, none⟩,
  ⟨some 16, .fieldAddr 89 (.tmp 15) 0, false, none⟩,
  ⟨some 17, .load 3 (.tmp 16), false, none⟩,
  ⟨some 18, .binOp .eql 3 (.tmp 17) (.const (.int .i64 0)) 3, false, none⟩]) <|
 .seq (.keep [0, 1, 2, 3, 9, 18]) <|
 .cond (.tmp 18) (.seq (.ops [⟨some 8, .assign (.const (.int .i64 2)), false, none⟩]) <|
 .seq (.keep [8]) <|
 .ret) <|
 .skip) <|
 .seq (.keep [0, 1, 2, 3, 9]) <|
 .seq (.seq (.ops [⟨some 19, .move (.tmp 9), false, none⟩,
  ⟨some 20, .nilCheck (.tmp 19), false, none⟩,
  ⟨some 21, .fieldAddr 89 (.tmp 20) 1, false, none⟩,
  ⟨some 22, .load 3 (.tmp 21), false, none⟩,
  ⟨some 23, .binOp .eql 3 (.tmp 22) (.const (.int .i64 2)) 3, false, none⟩]) <|
 .seq (.keep [0, 1, 2, 3, 9, 23]) <|
 .cond (.tmp 23) (.seq (.ops [⟨some 8, .assign (.const (.int .i64 1)), false, none⟩]) <|
 .seq (.keep [8]) <|
 .ret) <|
 .skip) <|
 .seq (.keep [0, 1, 2, 3, 9]) <|
 .seq (.ops [⟨some 24, .move (.tmp 0), false, none⟩,
  ⟨some 25, .move (.tmp 1), false, none⟩,
  ⟨some 26, .move (.tmp 2), false, none⟩,
  ⟨some 27, .call ⟨.value (.func 68), #[(.tmp 24), (.tmp 25), (.tmp 26)], #[48, 3, 9]⟩, true, none⟩,
  ⟨some 10, .assign (.tmp 27), false, none⟩]) <|
 .seq (.keep [0, 1, 2, 3, 9, 10]) <|
 .seq (.seq (.ops [⟨some 28, .move (.tmp 10), false, none⟩,
  ⟨some 29, .binOp .eql 26 (.tmp 28) (.const (.int .i64 0)) 26, false, none⟩]) <|
 .seq (.keep [0, 1, 2, 3, 9, 10, 29]) <|
 .cond (.tmp 29) (.seq (.ops [⟨some 30, .move (.tmp 9), false, none⟩,
  ⟨some 31, .nilCheck (.tmp 30), false, none⟩,
  ⟨some 32, .fieldAddr 89 (.tmp 31) 6, false, none⟩,
  ⟨some 33, .load 3 (.tmp 32), false, none⟩,
  ⟨some 34, .binOp .add 3 (.tmp 33) (.const (.int .i64 1)) 3, false, none⟩,
  ⟨some 35, .nilCheck (.tmp 30), false, none⟩,
  ⟨some 36, .fieldAddr 89 (.tmp 35) 6, false, none⟩,
  ⟨none, .store 3 (.tmp 36) (.tmp 34), true, none⟩]) <|
 .seq (.keep [0, 1, 2, 3, 10]) <|
 .ops [⟨some 37, .move (.tmp 0), false, none⟩,
  ⟨some 38, .move (.tmp 1), false, none⟩,
  ⟨some 39, .move (.tmp 2), false, none⟩,
  ⟨some 40, .move (.tmp 3), false, none⟩,
  ⟨some 41, .call ⟨.value (.func 70), #[(.tmp 37), (.tmp 38), (.tmp 39), (.tmp 40)], #[48, 3, 9, 3]⟩, true, none⟩]) <|
 .skip) <|
 .seq (.keep [10]) <|
 .seq (.ops [⟨some 42, .move (.tmp 10), false, none⟩,
  ⟨some 8, .assign (.tmp 42), false, none⟩]) <|
 .seq (.keep [8]) <|
 .ret
theorem c42 : Tryd.f42.body.map (fun c => ((compile Tryd.prog kp42 [] kp42 c).map (·.1), fits Tryd.f42.ntmps c)) = some (some s42, true) := by kernel_rfl
theorem r42 : Tryd.f42.results.toList = [.tmp 8] := by kernel_rfl
-- (*marionette/marionetteref15.Tree).Remove
abbrev kp43 : List Nat := [8]
def s43 : SC :=
 .seq (.ops [⟨some 8, .assign (.const (.int .i64 0)), false, none⟩]) <|
 .seq (.keep [0, 1, 2, 3]) <|
 .seq (.ops [⟨some 11, .move (.tmp 0), false, none⟩,
  ⟨some 12, .move (.tmp 1), false, none⟩,
  ⟨some 13, .call ⟨.value (.func 66), #[(.tmp 11), (.tmp 12)], #[48, 3]⟩, true, none⟩,
  ⟨some 9, .assign (.tmp 13), false, none⟩]) <|
 .seq (.keep [0, 1, 2, 3, 9]) <|
 .seq (.seq (.ops [⟨some 14, .move (.tmp 9), false, none⟩,
  ⟨some 15, .binOp .neq 26 (.tmp 14) (.const (.int .i64 0)) 26, false, none⟩]) <|
 .seq (.keep [0, 1, 2, 3, 9, 15]) <|
 .cond (.tmp 15) (.seq (.ops [⟨some 16, .move (.tmp 9), false, none⟩,
  ⟨some 8, .assign (.tmp 16), false, none⟩]) <|
 .seq (.keep [8]) <|
 .ret) <|
 .skip) <|
 .seq (.keep [0, 1, 2, 3]) <|
 .seq (.seq (.ops [⟨some 17, .move (.tmp 2), false, none⟩,
  ⟨some 18, .binOp .eql 9 (.tmp 17) (.const (.string ⟨#[46]⟩)) 9, false, none⟩]) <|
 .seq (.keep [0, 1, 2, 3, 18]) <|
 .cond (.tmp 18) (.seq (.ops [⟨some 8, .assign (.const (.int .i64 22)), false, none⟩]) <|
 .seq (.keep [8]) <|
 .ret) <|
 .skip) <|
 .seq (.keep [0, 1, 2, 3]) <|
 .seq (.seq (.ops [⟨some 19, .move (.tmp 2), false, none⟩,
  ⟨some 20, .binOp .eql 9 (.tmp 19) (.const (.string ⟨#[46, 46]⟩)) 9, false, none⟩]) <|
 .seq (.keep [0, 1, 2, 3, 20]) <|
 .cond (.tmp 20) (.seq (.ops [⟨some 8, .assign (.const (.int .i64 39)), false, none⟩]) <|
 .seq (.keep [8]) <|
 .ret) <|
 .skip) <|
 .seq (.keep [0, 1, 2, 3]) <|
 .seq (.ops [⟨some 21, .move (.tmp 0), false, none⟩,
  ⟨some 22, .move (.tmp 1), false, none⟩,
  ⟨some 23, .call ⟨.value (.func 71), #[(.tmp 21), (.tmp 22)], #[48, 3]⟩, true, none⟩,
  ⟨some 24, .move (.tmp 2), false, none⟩,
  ⟨some 25, .call ⟨.value (.func 72), #[(.tmp 23), (.tmp 24)], #[87, 9]⟩, true, none⟩,
  ⟨some 10, .assign (.tmp 25), false, none⟩]) <|
 .seq (.keep [0, 1, 3, 10]) <|
 .seq (.seq (.ops [⟨some 26, .move (.tmp 10), false, none⟩,
  ⟨some 27, .binOp .lss 3 (.tmp 26) (.const (.int .i64 0)) 3, false, none⟩]) <|
 .seq (.keep [0, 1, 3, 10, 27]) <|
 .cond (.tmp 27) (.seq (.ops [⟨some 8, .assign (.const (.int .i64 2)), false, none⟩]) <|
 .seq (.keep [8]) <|
 .ret) <|
 .skip) <|
 .seq (.keep [0, 1, 3, 10]) <|
 .seq (.ops [⟨some 28, .move (.tmp 0), false, none⟩,
  ⟨some 29, .move (.tmp 0), false, none⟩,
  ⟨some 30, .move (.tmp 1), false, none⟩,
  ⟨some 31, .call ⟨.value (.func 71), #[(.tmp 29), (.tmp 30)], #[48, 3]⟩, true, none⟩,
  ⟨some 32, .nilCheck (.tmp 31), false, none⟩,
  ⟨some 33, .fieldAddr 89 (.tmp 32) 4, false, none⟩,
  ⟨some 34, .load 55 (.tmp 33), false, none⟩,
  ⟨some 35, .move (.tmp 10), false, none⟩,
  ⟨some 36, .indexAddr 55 (.tmp 34) (.tmp 35), false, none⟩,
  ⟨some 37, .fieldAddr 59 (.tmp 36) 1, false, none⟩,
  ⟨some 38, .load 3 (.tmp 37), false, none⟩,
  ⟨some 39, .move (.tmp 3), false, none⟩,
  ⟨some 40, .call ⟨.value (.func 73), #[(.tmp 28), (.tmp 38), (.tmp 39)], #[48, 3, 4]⟩, true, none⟩,
  ⟨some 9, .assign (.tmp 40), false, none⟩]) <|
 .seq (.keep [0, 1, 9, 10]) <|
 .seq (.seq (.ops [⟨some 41, .move (.tmp 9), false, none⟩,
  ⟨some 42, .binOp .eql 26 (.tmp 41) (.const (.int .i64 0)) 26, false, none⟩]) <|
 .seq (.keep [0, 1, 9, 10, 42]) <|
 .cond (.tmp 42) (.ops [⟨some 43, .move (.tmp 0), false, none⟩,
  ⟨some 44, .move (.tmp 1), false, none⟩,
  ⟨some 45, .move (.tmp 10), false, none⟩,
  ⟨some 46, .call ⟨.value (.func 74), #[(.tmp 43), (.tmp 44), (.tmp 45)], #[48, 3, 3]⟩, true, none⟩]) <|
 .skip) <|
 .seq (.keep [9]) <|
 .seq (.ops [⟨some 47, .move (.tmp 9), false, none⟩,
  ⟨some 8, .assign (.tmp 47), false, none⟩]) <|
 .seq (.keep [8]) <|
 .ret
theorem c43 : Tryd.f43.body.map (fun c => ((compile Tryd.prog kp43 [] kp43 c).map (·.1), fits Tryd.f43.ntmps c)) = some (some s43, true) := by kernel_rfl
theorem r43 : Tryd.f43.results.toList = [.tmp 8] := by kernel_rfl
-- (*marionette/node.Tree).Move
abbrev kp44 : List Nat := [10]
def s44 : SC :=
 .seq (.ops [⟨some 10, .assign (.const (.int .i64 0)), false, none⟩]) <|
 .seq (.keep [0, 1, 2, 3, 4]) <|
 .seq (.ops [⟨some 20, .move (.tmp 0), false, none⟩,
  ⟨some 21, .move (.tmp 1), false, none⟩,
  ⟨some 22, .call ⟨.value (.func 36), #[(.tmp 20), (.tmp 21)], #[25, 3]⟩, true, none⟩,
  ⟨some 19, .move (.tmp 22), false, none⟩,
  ⟨some 23, .extract (.tmp 19) 0, false, none⟩,
  ⟨some 24, .extract (.tmp 19) 1, false, none⟩,
  ⟨some 11, .assign (.tmp 23), false, none⟩,
  ⟨some 12, .assign (.tmp 24), false, none⟩]) <|
 .seq (.keep [0, 2, 3, 4, 11, 12]) <|
 .seq (.seq (.ops [⟨some 25, .move (.tmp 12), false, none⟩,
  ⟨some 26, .binOp .neq 26 (.tmp 25) (.const (.int .i64 0)) 26, false, none⟩]) <|
 .seq (.keep [0, 2, 3, 4, 11, 12, 26]) <|
 .cond (.tmp 26) (.seq (.ops [⟨some 27, .move (.tmp 12), false, none⟩,
  ⟨some 10, .assign (.tmp 27), false, none⟩]) <|
 .seq (.keep [10]) <|
 .ret) <|
 .skip) <|
 .seq (.keep [0, 2, 3, 4, 11]) <|
 .seq (.ops [⟨some 29, .move (.tmp 0), false, none⟩,
  ⟨some 30, .move (.tmp 3), false, none⟩,
  ⟨some 31, .call ⟨.value (.func 36), #[(.tmp 29), (.tmp 30)], #[25, 3]⟩, true, none⟩,
  ⟨some 28, .move (.tmp 31), false, none⟩,
  ⟨some 32, .extract (.tmp 28) 0, false, none⟩,
  ⟨some 33, .extract (.tmp 28) 1, false, none⟩,
  ⟨some 13, .assign (.tmp 32), false, none⟩,
  ⟨some 12, .assign (.tmp 33), false, none⟩]) <|
 .seq (.keep [0, 2, 3, 4, 11, 12, 13]) <|
 .seq (.seq (.ops [⟨some 34, .move (.tmp 12), false, none⟩,
  ⟨some 35, .binOp .neq 26 (.tmp 34) (.const (.int .i64 0)) 26, false, none⟩]) <|
 .seq (.keep [0, 2, 3, 4, 11, 12, 13, 35]) <|
 .cond (.tmp 35) (.seq (.ops [⟨some 36, .move (.tmp 12), false, none⟩,
  ⟨some 10, .assign (.tmp 36), false, none⟩]) <|
 .seq (.keep [10]) <|
 .ret) <|
 .skip) <|
 .seq (.keep [0, 2, 3, 4, 11, 13]) <|
 .seq (.seq (.ops [⟨some 37, .move (.tmp 2), false, none⟩,
  ⟨some 38, .binOp .eql 9 (.tmp 37) (.const (.string ⟨#[46]⟩)) 9, false, none⟩,
  ⟨some 39, .move (.tmp 38), false, none⟩,
  ⟨some 40, .move (.tmp 2), false, some (39, false)⟩,
  ⟨some 41, .binOp .eql 9 (.tmp 40) (.const (.string ⟨#[46, 46]⟩)) 9, false, some (39, false)⟩,
  ⟨some 42, .pick (.tmp 39) (.const (.bool true)) (.tmp 41), false, none⟩,
  ⟨some 43, .move (.tmp 42), false, none⟩,
  ⟨some 44, .move (.tmp 4), false, some (43, false)⟩,
  ⟨some 45, .call ⟨.value (.func 22), #[(.tmp 44)], #[9]⟩, true, some (43, false)⟩,
  ⟨some 46, .unOp .not 4 (.tmp 45), false, some (43, false)⟩,
  ⟨some 47, .pick (.tmp 43) (.const (.bool true)) (.tmp 46), false, none⟩]) <|
 .seq (.keep [0, 2, 3, 4, 11, 13, 47]) <|
 .cond (.tmp 47) (.seq (.ops [⟨some 10, .assign (.const (.int .i64 22)), false, none⟩]) <|
 .seq (.keep [10]) <|
 .ret) <|
 .skip) <|
 .seq (.keep [0, 2, 3, 4, 11, 13]) <|
 .seq (.ops [⟨some 48, .move (.tmp 11), false, none⟩,
  ⟨some 49, .move (.tmp 2), false, none⟩,
  ⟨some 50, .call ⟨.value (.func 37), #[(.tmp 48), (.tmp 49)], #[67, 9]⟩, true, none⟩,
  ⟨some 14, .assign (.tmp 50), false, none⟩]) <|
 .seq (.keep [0, 2, 3, 4, 11, 13, 14]) <|
 .seq (.seq (.ops [⟨some 51, .move (.tmp 14), false, none⟩,
  ⟨some 52, .binOp .lss 3 (.tmp 51) (.const (.int .i64 0)) 3, false, none⟩,
  ⟨some 53, .move (.tmp 52), false, none⟩,
  ⟨some 54, .move (.tmp 13), false, some (53, false)⟩,
  ⟨some 55, .call ⟨.value (.func 34), #[(.tmp 54)], #[67]⟩, true, some (53, false)⟩,
  ⟨some 56, .pick (.tmp 53) (.const (.bool true)) (.tmp 55), false, none⟩]) <|
 .seq (.keep [0, 2, 3, 4, 11, 13, 14, 56]) <|
 .cond (.tmp 56) (.seq (.ops [⟨some 10, .assign (.const (.int .i64 2)), false, none⟩]) <|
 .seq (.keep [10]) <|
 .ret) <|
 .skip) <|
 .seq (.keep [0, 2, 3, 4, 11, 13, 14]) <|
 .seq (.ops [⟨some 57, .move (.tmp 11), false, none⟩,
  ⟨some 58, .nilCheck (.tmp 57), false, none⟩,
  ⟨some 59, .fieldAddr 69 (.tmp 58) 3, false, none⟩,
  ⟨some 60, .load 55 (.tmp 59), false, none⟩,
  ⟨some 61, .move (.tmp 14), false, none⟩,
  ⟨some 62, .indexAddr 55 (.tmp 60) (.tmp 61), false, none⟩,
  ⟨some 63, .fieldAddr 59 (.tmp 62) 1, false, none⟩,
  ⟨some 64, .load 3 (.tmp 63), false, none⟩,
  ⟨some 15, .assign (.tmp 64), false, none⟩]) <|
 .seq (.keep [0, 2, 3, 4, 11, 13, 14, 15]) <|
 .seq (.ops [⟨some 65, .move (.tmp 0), false, none⟩,
  ⟨some 66, .nilCheck (.tmp 65), false, none⟩,
  ⟨some 67, .fieldAddr 72 (.tmp 66) 0, false, none⟩,
  ⟨some 68, .load 70 (.tmp 67), false, none⟩,
  ⟨some 69, .move (.tmp 15), false, none⟩,
  ⟨some 70, .lookup 70 (.tmp 68) (.tmp 69) false, false, none⟩,
  ⟨some 16, .assign (.tmp 70), false, none⟩]) <|
 .seq (.keep [0, 2, 3, 4, 11, 13, 14, 15, 16]) <|
 .seq (.seq (.ops [⟨some 71, .move (.tmp 16), false, none⟩,
  ⟨some 72, .nilCheck (.tmp 71), false, none⟩,
  ⟨some 73, .fieldAddr 69 (.tmp 72) 0, false, none⟩,
  ⟨some 74, .load 3 (.tmp 73), false, none⟩,
  ⟨some 75, .binOp .eql 3 (.tmp 74) (.const (.int .i64 2)) 3, false, none⟩,
  ⟨some 76, .move (.tmp 75), false, none⟩,
  ⟨some 77, .move (.tmp 0), false, some (76, true)⟩,
  ⟨some 78, .move (.tmp 15), false, some (76, true)⟩,
  ⟨some 79, .move (.tmp 3), false, some (76, true)⟩,
  ⟨some 80, .call ⟨.value (.func 75), #[(.tmp 77), (.tmp 78), (.tmp 79)], #[25, 3, 3]⟩, true, some (76, true)⟩,
  ⟨some 81, .pick (.tmp 76) (.tmp 80) (.const (.bool false)), false, none⟩]) <|
 .seq (.keep [0, 2, 3, 4, 11, 13, 14, 15, 16, 81]) <|
 .cond (.tmp 81) (.seq (.ops [⟨some 10, .assign (.const (.int .i64 22)), false, none⟩]) <|
 .seq (.keep [10]) <|
 .ret) <|
 .skip) <|
 .seq (.keep [0, 2, 3, 4, 11, 13, 14, 15, 16]) <|
 .seq (.seq (.ops [⟨some 82, .move (.tmp 13), false, none⟩,
  ⟨some 83, .move (.tmp 4), false, none⟩,
  ⟨some 84, .call ⟨.value (.func 37), #[(.tmp 82), (.tmp 83)], #[67, 9]⟩, true, none⟩,
  ⟨some 17, .assign (.tmp 84), false, none⟩]) <|
 .seq (.keep [0, 2, 3, 4, 11, 13, 14, 15, 16, 17]) <|
 .seq (.ops [⟨some 85, .move (.tmp 17), false, none⟩,
  ⟨some 86, .binOp .geq 3 (.tmp 85) (.const (.int .i64 0)) 3, false, none⟩]) <|
 .seq (.keep [0, 2, 3, 4, 11, 13, 14, 15, 16, 17, 86]) <|
 .cond (.tmp 86) (.seq (.seq (.ops [⟨some 87, .move (.tmp 13), false, none⟩,
  ⟨some 88, .nilCheck (.tmp 87), false, none⟩,
  ⟨some 89, .fieldAddr 69 (.tmp 88) 3, false, none⟩,
  ⟨some 90, .load 55 (.tmp 89), false, none⟩,
  ⟨some 91, .move (.tmp 17), false, none⟩,
  ⟨some 92, .indexAddr 55 (.tmp 90) (.tmp 91), false, none⟩,
  ⟨some 93, .fieldAddr 59 (.tmp 92) 1, false, none⟩,
  ⟨some 94, .load 3 (.tmp 93), false, none⟩,
  ⟨some 95, .move (.tmp 15), false, none⟩,
  ⟨some 96, .binOp .eql 3 (.tmp 94) (.tmp 95) 3, false, none⟩]) <|
 .seq (.keep [0, 2, 3, 4, 11, 13, 15, 16, 17, 96]) <|
 .cond (.tmp 96) (.seq (.ops [⟨some 10, .assign (.const (.int .i64 0)), false, none⟩]) <|
 .seq (.keep [10]) <|
 .ret) <|
 .skip) <|
 .seq (.keep [0, 2, 3, 4, 11, 13, 15, 16, 17]) <|
 .seq (.seq (.seq (.ops [⟨some 97, .move (.tmp 0), false, none⟩]) <|
 .seq (.ops [⟨some 98, .nilCheck (.tmp 97), false, none⟩]) <|
 .seq (.ops [⟨some 99, .fieldAddr 72 (.tmp 98) 0, false, none⟩]) <|
 .seq (.ops [⟨some 100, .load 70 (.tmp 99), false, none⟩]) <|
 .seq (.ops [⟨some 101, .move (.tmp 13), false, none⟩]) <|
 .seq (.ops [⟨some 102, .nilCheck (.tmp 101), false, none⟩]) <|
 .seq (.ops [⟨some 103, .fieldAddr 69 (.tmp 102) 3, false, none⟩]) <|
 .seq (.ops [⟨some 104, .load 55 (.tmp 103), false, none⟩]) <|
 .seq (.ops [⟨some 105, .move (.tmp 17), false, none⟩]) <|
 .seq (.ops [⟨some 106, .indexAddr 55 (.tmp 104) (.tmp 105), false, none⟩]) <|
 .seq (.ops [⟨some 107, .fieldAddr 59 (.tmp 106) 1, false, none⟩]) <|
 .seq (.ops [⟨some 108, .load 3 (.tmp 107), false, none⟩]) <|
 .seq (.ops [⟨some 109, .lookup 70 (.tmp 100) (.tmp 108) false, false, none⟩]) <|
 .seq (.ops [⟨some 110, .move (.tmp 16), false, none⟩]) <|
 .seq (.ops [⟨some 111, .nilCheck (.tmp 110), false, none⟩]) <|
 .seq (.ops [⟨some 112, .fieldAddr 69 (.tmp 111) 0, false, none⟩]) <|
 .seq (.ops [⟨some 113, .load 3 (.tmp 112), false, none⟩]) <|
 .seq (.ops [⟨some 114, .binOp .eql 3 (.tmp 113) (.const (.int .i64 2)) 3, false, none⟩]) <|
 .seq (.ops [⟨some 115, .call ⟨.value (.func 38), #[(.tmp 109), (.tmp 114)], #[67, 4]⟩, true, none⟩]) <|
 .seq (.ops [⟨some 18, .assign (.tmp 115), false, none⟩]) <|
 .skip) <|
 .seq (.keep [0, 2, 3, 4, 11, 13, 15, 16, 17, 18]) <|
 .seq (.ops [⟨some 116, .move (.tmp 18), false, none⟩,
  ⟨some 117, .binOp .neq 26 (.tmp 116) (.const (.int .i64 0)) 26, false, none⟩]) <|
 .seq (.keep [0, 2, 3, 4, 11, 13, 15, 16, 17, 18, 117]) <|
 .cond (.tmp 117) (.seq (.ops [⟨some 118, .move (.tmp 18), false, none⟩,
  ⟨some 10, .assign (.tmp 118), false, none⟩]) <|
 .seq (.keep [10]) <|
 .ret) <|
 .skip) <|
 .seq (.keep [0, 2, 3, 4, 11, 13, 15, 16, 17]) <|
 .seq (.ops [⟨some 119, .move (.tmp 0), false, none⟩,
  ⟨some 120, .move (.tmp 13), false, none⟩,
  ⟨some 121, .move (.tmp 17), false, none⟩,
  ⟨some 122, .call ⟨.value (.func 39), #[(.tmp 119), (.tmp 120), (.tmp 121)], #[25, 67, 3]⟩, true, none⟩]) <|
 .seq (.keep [2, 3, 4, 11, 13, 15, 16]) <|
 .ops [⟨some 123, .move (.tmp 11), false, none⟩,
  ⟨some 124, .move (.tmp 2), false, none⟩,
  ⟨some 125, .call ⟨.value (.func 37), #[(.tmp 123), (.tmp 124)], #[67, 9]⟩, true, none⟩,
  ⟨some 14, .assign (.tmp 125), false, none⟩]) <|
 .skip) <|
 .seq (.keep [3, 4, 11, 13, 14, 15, 16]) <|
 .seq (.ops [⟨some 126, .move (.tmp 11), false, none⟩,
  ⟨some 127, .move (.tmp 11), false, none⟩,
  ⟨some 128, .nilCheck (.tmp 127), false, none⟩,
  ⟨some 129, .fieldAddr 69 (.tmp 128) 3, false, none⟩,
  ⟨some 130, .load 55 (.tmp 129), false, none⟩,
  ⟨some 131, .move (.tmp 14), false, none⟩,
  ⟨some 132, .move (.tmp 14), false, none⟩,
  ⟨some 133, .binOp .add 3 (.tmp 132) (.const (.int .i64 1)) 3, false, none⟩,
  ⟨some 134, .call ⟨.value (.func 65), #[(.tmp 130), (.tmp 131), (.tmp 133)], #[55, 3, 3]⟩, true, none⟩,
  ⟨some 135, .nilCheck (.tmp 126), false, none⟩,
  ⟨some 136, .fieldAddr 69 (.tmp 135) 3, false, none⟩,
  ⟨none, .store 55 (.tmp 136) (.tmp 134), true, none⟩]) <|
 .seq (.keep [3, 4, 13, 15, 16]) <|
 .seq (.seq (.ops [⟨some 137, .move (.tmp 13), false, none⟩]) <|
 .seq (.ops [⟨some 138, .move (.tmp 13), false, none⟩]) <|
 .seq (.ops [⟨some 139, .nilCheck (.tmp 138), false, none⟩]) <|
 .seq (.ops [⟨some 140, .fieldAddr 69 (.tmp 139) 3, false, none⟩]) <|
 .seq (.ops [⟨some 142, .move (.tmp 4), false, none⟩]) <|
 .seq (.ops [⟨some 143, .move (.tmp 15), false, none⟩]) <|
 .seq (.ops [⟨some 144, .move (.tmp 16), false, none⟩]) <|
 .seq (.ops [⟨some 145, .nilCheck (.tmp 144), false, none⟩]) <|
 .seq (.ops [⟨some 146, .fieldAddr 69 (.tmp 145) 0, false, none⟩]) <|
 .seq (.ops [⟨some 147, .load 3 (.tmp 146), false, none⟩]) <|
 .seq (.ops [⟨some 148, .build 59 #[(0, (.tmp 142)), (1, (.tmp 143)), (2, (.tmp 147))], false, none⟩]) <|
 .amb (.seq (.ops [⟨some 141, .load 55 (.tmp 140), false, none⟩]) <|
 .seq (.ops [⟨some 149, .buildSlice 55 1 #[(0, (.tmp 148))], true, none⟩]) <|
 .seq (.ops [⟨some 150, .call ⟨.builtin .append, #[(.tmp 141), (.tmp 149)], #[55, 55]⟩, true, none⟩]) <|
 .seq (.ops [⟨some 151, .nilCheck (.tmp 137), false, none⟩]) <|
 .seq (.ops [⟨some 152, .fieldAddr 69 (.tmp 151) 3, false, none⟩]) <|
 .seq (.ops [⟨none, .store 55 (.tmp 152) (.tmp 150), true, none⟩]) <|
 .skip) (.seq (.ops [⟨some 149, .buildSlice 55 1 #[(0, (.tmp 148))], true, none⟩]) <|
 .seq (.ops [⟨some 141, .load 55 (.tmp 140), false, none⟩]) <|
 .seq (.ops [⟨some 150, .call ⟨.builtin .append, #[(.tmp 141), (.tmp 149)], #[55, 55]⟩, true, none⟩]) <|
 .seq (.ops [⟨some 151, .nilCheck (.tmp 137), false, none⟩]) <|
 .seq (.ops [⟨some 152, .fieldAddr 69 (.tmp 151) 3, false, none⟩]) <|
 .seq (.ops [⟨none, .store 55 (.tmp 152) (.tmp 150), true, none⟩]) <|
 .skip)) <|
 .seq (.keep [3, 16]) <|
 .seq (.seq (.ops [⟨some 153, .move (.tmp 16), false, none⟩,
  ⟨some 154, .nilCheck (.tmp 153), false, none⟩,
  ⟨some 155, .fieldAddr 69 (.tmp 154) 0, false, none⟩,
  ⟨some 156, .load 3 (.tmp 155), false, none⟩,
  ⟨some 157, .binOp .eql 3 (.tmp 156) (.const (.int .i64 2)) 3, false, none⟩]) <|
 .seq (.keep [3, 16, 157]) <|
 .cond (.tmp 157) (.ops [⟨some 158, .move (.tmp 16), false, none⟩,
  ⟨some 159, .move (.tmp 3), false, none⟩,
  ⟨some 160, .nilCheck (.tmp 158), false, none⟩,
  ⟨some 161, .fieldAddr 69 (.tmp 160) 4, false, none⟩,
  ⟨none, .store 3 (.tmp 161) (.tmp 159), true, none⟩]) <|
 .skip) <|
 .seq (.keep []) <|
 .seq (.ops [⟨some 10, .assign (.const (.int .i64 0)), false, none⟩]) <|
 .seq (.keep [10]) <|
 .ret
theorem c44 : Tryd.f44.body.map (fun c => ((compile Tryd.prog kp44 [] kp44 c).map (·.1), fits Tryd.f44.ntmps c)) = some (some s44, true) := by kernel_rfl
theorem r44 : Tryd.f44.results.toList = [.tmp 10] := by kernel_rfl
-- (*marionette/marionetteref15.Tree).Move
abbrev kp45 : List Nat := [10]
def s45 : SC :=
 .seq (.ops [⟨some 10, .assign (.const (.int .i64 0)), false, none⟩]) <|
 .seq (.keep [0, 1, 2, 3, 4]) <|
 .seq (.ops [⟨some 19, .move (.tmp 0), false, none⟩,
  ⟨some 20, .move (.tmp 1), false, none⟩,
  ⟨some 21, .call ⟨.value (.func 66), #[(.tmp 19), (.tmp 20)], #[48, 3]⟩, true, none⟩,
  ⟨some 11, .assign (.tmp 21), false, none⟩]) <|
 .seq (.keep [0, 1, 2, 3, 4, 11]) <|
 .seq (.seq (.ops [⟨some 22, .move (.tmp 11), false, none⟩,
  ⟨some 23, .binOp .eql 26 (.tmp 22) (.const (.int .i64 0)) 26, false, none⟩]) <|
 .seq (.keep [0, 1, 2, 3, 4, 11, 23]) <|
 .cond (.tmp 23) (.ops [⟨some 24, .move (.tmp 0), false, none⟩,
  ⟨some 25, .move (.tmp 3), false, none⟩,
  ⟨some 26, .call ⟨.value (.func 66), #[(.tmp 24), (.tmp 25)], #[48, 3]⟩, true, none⟩,
  ⟨some 11, .assign (.tmp 26), false, none⟩]) <|
 .skip) <|
 .seq (.keep [0, 1, 2, 3, 4, 11]) <|
 .seq (.seq (.ops [⟨some 27, .move (.tmp 11), false, none⟩,
  ⟨some 28, .binOp .neq 26 (.tmp 27) (.const (.int .i64 0)) 26, false, none⟩]) <|
 .seq (.keep [0, 1, 2, 3, 4, 11, 28]) <|
 .cond (.tmp 28) (.seq (.ops [⟨some 29, .move (.tmp 11), false, none⟩,
  ⟨some 10, .assign (.tmp 29), false, none⟩]) <|
 .seq (.keep [10]) <|
 .ret) <|
 .skip) <|
 .seq (.keep [0, 1, 2, 3, 4]) <|
 .seq (.seq (.ops [⟨some 30, .move (.tmp 2), false, none⟩,
  ⟨some 31, .binOp .eql 9 (.tmp 30) (.const (.string ⟨#[46]⟩)) 9, false, none⟩,
  ⟨some 32, .move (.tmp 31), false, none⟩,
  ⟨some 33, .move (.tmp 2), false, some (32, false)⟩,
  ⟨some 34, .binOp .eql 9 (.tmp 33) (.const (.string ⟨#[46, 46]⟩)) 9, false, some (32, false)⟩,
  ⟨some 35, .pick (.tmp 32) (.const (.bool true)) (.tmp 34), false, none⟩,
  ⟨some 36, .move (.tmp 35), false, none⟩,
  ⟨some 37, .move (.tmp 4), false, some (36, false)⟩,
  ⟨some 38, .call ⟨.value (.func 76), #[(.tmp 37)], #[9]⟩, true, some (36, false)⟩,
  ⟨some 39, .unOp .not 4 (.tmp 38), false, some (36, false)⟩,
  ⟨some 40, .pick (.tmp 36) (.const (.bool true)) (.tmp 39), false, none⟩]) <|
 .seq (.keep [0, 1, 2, 3, 4, 40]) <|
 .cond (.tmp 40) (.seq (.ops [⟨some 10, .assign (.const (.int .i64 22)), false, none⟩]) <|
 .seq (.keep [10]) <|
 .ret) <|
 .skip) <|
 .seq (.keep [0, 1, 2, 3, 4]) <|
 .seq (.ops [⟨some 41, .move (.tmp 0), false, none⟩,
  ⟨some 42, .move (.tmp 1), false, none⟩,
  ⟨some 43, .call ⟨.value (.func 71), #[(.tmp 41), (.tmp 42)], #[48, 3]⟩, true, none⟩,
  ⟨some 44, .move (.tmp 2), false, none⟩,
  ⟨some 45, .call ⟨.value (.func 72), #[(.tmp 43), (.tmp 44)], #[87, 9]⟩, true, none⟩,
  ⟨some 12, .assign (.tmp 45), false, none⟩]) <|
 .seq (.keep [0, 1, 2, 3, 4, 12]) <|
 .seq (.seq (.ops [⟨some 46, .move (.tmp 12), false, none⟩,
  ⟨some 47, .binOp .lss 3 (.tmp 46) (.const (.int .i64 0)) 3, false, none⟩,
  ⟨some 48, .move (.tmp 47), false, none⟩,
  ⟨some 49, .move (.tmp 0), false, some (48, false)⟩,
  ⟨some 50, .move (.tmp 3), false, some (48, false)⟩,
  ⟨some 51, .call ⟨.value (.func 71), #[(.tmp 49), (.tmp 50)], #[48, 3]⟩, true, some (48, false)⟩,
  ⟨some 52, .nilCheck (.tmp 51), false, some (48, false)⟩,
  ⟨some 53, .fieldAddr 89 (.tmp 52) 5, false, some (48, false)⟩,
  ⟨some 54, .load 3 (.tmp 53), false, some (48, false)⟩,
  ⟨some 55, .binOp .eql 3 (.tmp 54) (.const (.int .i64 0)) 3, false, some (48, false)⟩,
  ⟨some 56, .pick (.tmp 48) (.const (.bool true)) (.tmp 55), false, none⟩]) <|
 .seq (.keep [0, 1, 2, 3, 4, 12, 56]) <|
 .cond (.tmp 56) (.seq (.ops [⟨some 10, .assign (.const (.int .i64 2)), false, none⟩]) <|
 .seq (.keep [10]) <|
 .ret) <|
 .skip) <|
 .seq (.keep [0, 1, 2, 3, 4, 12]) <|
 .seq (.ops [⟨some 57, .move (.tmp 0), false, none⟩,
  ⟨some 58, .move (.tmp 1), false, none⟩,
  ⟨some 59, .call ⟨.value (.func 71), #[(.tmp 57), (.tmp 58)], #[48, 3]⟩, true, none⟩,
  ⟨some 60, .nilCheck (.tmp 59), false, none⟩,
  ⟨some 61, .fieldAddr 89 (.tmp 60) 4, false, none⟩,
  ⟨some 62, .load 55 (.tmp 61), false, none⟩,
  ⟨some 63, .move (.tmp 12), false, none⟩,
  ⟨some 64, .indexAddr 55 (.tmp 62) (.tmp 63), false, none⟩,
  ⟨some 65, .fieldAddr 59 (.tmp 64) 1, false, none⟩,
  ⟨some 66, .load 3 (.tmp 65), false, none⟩,
  ⟨some 13, .assign (.tmp 66), false, none⟩]) <|
 .seq (.keep [0, 1, 2, 3, 4, 12, 13]) <|
 .seq (.ops [⟨some 67, .move (.tmp 0), false, none⟩,
  ⟨some 68, .move (.tmp 13), false, none⟩,
  ⟨some 69, .call ⟨.value (.func 71), #[(.tmp 67), (.tmp 68)], #[48, 3]⟩, true, none⟩,
  ⟨some 70, .nilCheck (.tmp 69), false, none⟩,
  ⟨some 71, .fieldAddr 89 (.tmp 70) 1, false, none⟩,
  ⟨some 72, .load 3 (.tmp 71), false, none⟩,
  ⟨some 14, .assign (.tmp 72), false, none⟩]) <|
 .seq (.keep [0, 1, 2, 3, 4, 12, 13, 14]) <|
 .seq (.seq (.ops [⟨some 73, .move (.tmp 14), false, none⟩,
  ⟨some 74, .binOp .eql 3 (.tmp 73) (.const (.int .i64 2)) 3, false, none⟩]) <|
 .seq (.keep [0, 1, 2, 3, 4, 12, 13, 14, 74]) <|
 .cond (.tmp 74) (.seq (.ops [⟨some 75, .move (.tmp 3), false, none⟩,
  ⟨some 15, .assign (.tmp 75), false, none⟩]) <|
 .seq (.keep [0, 1, 2, 3, 4, 12, 13, 14, 15]) <|
 .seq (.ops [⟨some 16, .assign (.const (.int .i64 0)), false, none⟩]) <|
 .seq (.keep [0, 1, 2, 3, 4, 12, 13, 14, 15, 16]) <|
 .block 0 <| .loop <| .seq (.seq (.seq (.ops [⟨some 76, .move (.tmp 16), false, none⟩,
  ⟨some 77, .binOp .lss 3 (.tmp 76) (.const (.int .i64 2000)) 3, false, none⟩]) <|
 .seq (.keep [0, 1, 2, 3, 4, 12, 13, 14, 15, 16, 77]) <|
 .cond (.tmp 77) (.skip) <|
 .exit 0) <|
 .seq (.keep [0, 1, 2, 3, 4, 12, 13, 14, 15, 16]) <|
 .seq (.block 1 <| .seq (.seq (.ops [⟨some 80, .move (.tmp 15), false, none⟩,
  ⟨some 81, .move (.tmp 13), false, none⟩,
  ⟨some 82, .binOp .eql 3 (.tmp 80) (.tmp 81) 3, false, none⟩]) <|
 .seq (.keep [0, 1, 2, 3, 4, 12, 13, 14, 15, 16, 82]) <|
 .cond (.tmp 82) (.seq (.ops [⟨some 10, .assign (.const (.int .i64 22)), false, none⟩]) <|
 .seq (.keep [10]) <|
 .ret) <|
 .skip) <|
 .seq (.keep [0, 1, 2, 3, 4, 12, 13, 14, 15, 16]) <|
 .ops [⟨some 83, .move (.tmp 0), false, none⟩,
  ⟨some 84, .move (.tmp 15), false, none⟩,
  ⟨some 85, .call ⟨.value (.func 77), #[(.tmp 83), (.tmp 84)], #[48, 3]⟩, true, none⟩,
  ⟨some 15, .assign (.tmp 85), false, none⟩]) <|
 .seq (.keep [0, 1, 2, 3, 4, 12, 13, 14, 15, 16]) <|
 .ops [⟨some 78, .move (.tmp 16), false, none⟩,
  ⟨some 79, .binOp .add 3 (.tmp 78) (.const (.int .i64 1)) 3, false, none⟩,
  ⟨some 16, .assign (.tmp 79), false, none⟩]) <|
 .keep [0, 1, 2, 3, 4, 12, 13, 14, 15, 16]) <|
 .skip) <|
 .seq (.keep [0, 1, 2, 3, 4, 12, 13, 14]) <|
 .seq (.ops [⟨some 86, .move (.tmp 0), false, none⟩,
  ⟨some 87, .move (.tmp 3), false, none⟩,
  ⟨some 88, .call ⟨.value (.func 71), #[(.tmp 86), (.tmp 87)], #[48, 3]⟩, true, none⟩,
  ⟨some 89, .move (.tmp 4), false, none⟩,
  ⟨some 90, .call ⟨.value (.func 72), #[(.tmp 88), (.tmp 89)], #[87, 9]⟩, true, none⟩,
  ⟨some 17, .assign (.tmp 90), false, none⟩]) <|
 .seq (.keep [0, 1, 2, 3, 4, 12, 13, 14, 17]) <|
 .seq (.seq (.ops [⟨some 91, .move (.tmp 17), false, none⟩,
  ⟨some 92, .binOp .geq 3 (.tmp 91) (.const (.int .i64 0)) 3, false, none⟩]) <|
 .seq (.keep [0, 1, 2, 3, 4, 12, 13, 14, 17, 92]) <|
 .cond (.tmp 92) (.seq (.ops [⟨some 93, .move (.tmp 0), false, none⟩,
  ⟨some 94, .move (.tmp 3), false, none⟩,
  ⟨some 95, .call ⟨.value (.func 71), #[(.tmp 93), (.tmp 94)], #[48, 3]⟩, true, none⟩,
  ⟨some 96, .nilCheck (.tmp 95), false, none⟩,
  ⟨some 97, .fieldAddr 89 (.tmp 96) 4, false, none⟩,
  ⟨some 98, .load 55 (.tmp 97), false, none⟩,
  ⟨some 99, .move (.tmp 17), false, none⟩,
  ⟨some 100, .indexAddr 55 (.tmp 98) (.tmp 99), false, none⟩,
  ⟨some 101, .fieldAddr 59 (.tmp 100) 1, false, none⟩,
  ⟨some 102, .load 3 (.tmp 101), false, none⟩,
  ⟨some 18, .assign (.tmp 102), false, none⟩]) <|
 .seq (.keep [0, 1, 2, 3, 4, 13, 14, 17, 18]) <|
 .seq (.seq (.ops [⟨some 103, .move (.tmp 18), false, none⟩,
  ⟨some 104, .move (.tmp 13), false, none⟩,
  ⟨some 105, .binOp .eql 3 (.tmp 103) (.tmp 104) 3, false, none⟩]) <|
 .seq (.keep [0, 1, 2, 3, 4, 13, 14, 17, 18, 105]) <|
 .cond (.tmp 105) (.seq (.ops [⟨some 10, .assign (.const (.int .i64 0)), false, none⟩]) <|
 .seq (.keep [10]) <|
 .ret) <|
 .skip) <|
 .seq (.keep [0, 1, 2, 3, 4, 13, 14, 17, 18]) <|
 .seq (.ops [⟨some 106, .move (.tmp 0), false, none⟩,
  ⟨some 107, .move (.tmp 18), false, none⟩,
  ⟨some 108, .move (.tmp 14), false, none⟩,
  ⟨some 109, .binOp .eql 3 (.tmp 108) (.const (.int .i64 2)) 3, false, none⟩,
  ⟨some 110, .call ⟨.value (.func 73), #[(.tmp 106), (.tmp 107), (.tmp 109)], #[48, 3, 4]⟩, true, none⟩,
  ⟨some 11, .assign (.tmp 110), false, none⟩]) <|
 .seq (.keep [0, 1, 2, 3, 4, 11, 13, 14, 17]) <|
 .seq (.seq (.ops [⟨some 111, .move (.tmp 11), false, none⟩,
  ⟨some 112, .binOp .neq 26 (.tmp 111) (.const (.int .i64 0)) 26, false, none⟩]) <|
 .seq (.keep [0, 1, 2, 3, 4, 11, 13, 14, 17, 112]) <|
 .cond (.tmp 112) (.seq (.ops [⟨some 113, .move (.tmp 11), false, none⟩,
  ⟨some 10, .assign (.tmp 113), false, none⟩]) <|
 .seq (.keep [10]) <|
 .ret) <|
 .skip) <|
 .seq (.keep [0, 1, 2, 3, 4, 13, 14, 17]) <|
 .seq (.ops [⟨some 114, .move (.tmp 0), false, none⟩,
  ⟨some 115, .move (.tmp 3), false, none⟩,
  ⟨some 116, .move (.tmp 17), false, none⟩,
  ⟨some 117, .call ⟨.value (.func 74), #[(.tmp 114), (.tmp 115), (.tmp 116)], #[48, 3, 3]⟩, true, none⟩]) <|
 .seq (.keep [0, 1, 2, 3, 4, 13, 14]) <|
 .ops [⟨some 118, .move (.tmp 0), false, none⟩,
  ⟨some 119, .move (.tmp 1), false, none⟩,
  ⟨some 120, .call ⟨.value (.func 71), #[(.tmp 118), (.tmp 119)], #[48, 3]⟩, true, none⟩,
  ⟨some 121, .move (.tmp 2), false, none⟩,
  ⟨some 122, .call ⟨.value (.func 72), #[(.tmp 120), (.tmp 121)], #[87, 9]⟩, true, none⟩,
  ⟨some 12, .assign (.tmp 122), false, none⟩]) <|
 .skip) <|
 .seq (.keep [0, 1, 3, 4, 12, 13, 14]) <|
 .seq (.ops [⟨some 123, .move (.tmp 0), false, none⟩,
  ⟨some 124, .move (.tmp 1), false, none⟩,
  ⟨some 125, .call ⟨.value (.func 71), #[(.tmp 123), (.tmp 124)], #[48, 3]⟩, true, none⟩,
  ⟨some 126, .move (.tmp 0), false, none⟩,
  ⟨some 127, .move (.tmp 1), false, none⟩,
  ⟨some 128, .call ⟨.value (.func 71), #[(.tmp 126), (.tmp 127)], #[48, 3]⟩, true, none⟩,
  ⟨some 129, .nilCheck (.tmp 128), false, none⟩,
  ⟨some 130, .fieldAddr 89 (.tmp 129) 4, false, none⟩,
  ⟨some 131, .load 55 (.tmp 130), false, none⟩,
  ⟨some 132, .move (.tmp 12), false, none⟩,
  ⟨some 133, .call ⟨.value (.func 78), #[(.tmp 131), (.tmp 132)], #[55, 3]⟩, true, none⟩,
  ⟨some 134, .nilCheck (.tmp 125), false, none⟩,
  ⟨some 135, .fieldAddr 89 (.tmp 134) 4, false, none⟩,
  ⟨none, .store 55 (.tmp 135) (.tmp 133), true, none⟩]) <|
 .seq (.keep [0, 3, 4, 13, 14]) <|
 .seq (.ops [⟨some 136, .move (.tmp 0), false, none⟩,
  ⟨some 137, .move (.tmp 3), false, none⟩,
  ⟨some 138, .move (.tmp 4), false, none⟩,
  ⟨some 139, .move (.tmp 13), false, none⟩,
  ⟨some 140, .call ⟨.value (.func 70), #[(.tmp 136), (.tmp 137), (.tmp 138), (.tmp 139)], #[48, 3, 9, 3]⟩, true, none⟩]) <|
 .seq (.keep [0, 3, 13, 14]) <|
 .seq (.seq (.ops [⟨some 141, .move (.tmp 14), false, none⟩,
  ⟨some 142, .binOp .eql 3 (.tmp 141) (.const (.int .i64 2)) 3, false, none⟩]) <|
 .seq (.keep [0, 3, 13, 142]) <|
 .cond (.tmp 142) (.ops [⟨some 143, .move (.tmp 0), false, none⟩,
  ⟨some 144, .move (.tmp 13), false, none⟩,
  ⟨some 145, .call ⟨.value (.func 71), #[(.tmp 143), (.tmp 144)], #[48, 3]⟩, true, none⟩,
  ⟨some 146, .move (.tmp 3), false, none⟩,
  ⟨some 147, .nilCheck (.tmp 145), false, none⟩,
  ⟨some 148, .fieldAddr 89 (.tmp 147) 5, false, none⟩,
  ⟨none, .store 3 (.tmp 148) (.tmp 146), true, none⟩]) <|
 .skip) <|
 .seq (.keep []) <|
 .seq (.ops [⟨some 10, .assign (.const (.int .i64 0)), false, none⟩]) <|
 .seq (.keep [10]) <|
 .ret
theorem c45 : Tryd.f45.body.map (fun c => ((compile Tryd.prog kp45 [] kp45 c).map (·.1), fits Tryd.f45.ntmps c)) = some (some s45, true) := by kernel_rfl
theorem r45 : Tryd.f45.results.toList = [.tmp 10] := by kernel_rfl
-- (*marionette/marionetteref15.Tree).Read
abbrev kp46 : List Nat := [8, 9]
def s46 : SC :=
 .seq (.ops [⟨some 8, .assign (.const (.slice none 0 0)), false, none⟩,
  ⟨some 9, .assign (.const (.int .i64 0)), false, none⟩]) <|
 .seq (.keep [0, 1, 2, 3]) <|
 .seq (.ops [⟨some 12, .move (.tmp 0), false, none⟩,
  ⟨some 13, .move (.tmp 1), false, none⟩,
  ⟨some 14, .call ⟨.value (.func 79), #[(.tmp 12), (.tmp 13)], #[48, 3]⟩, true, none⟩,
  ⟨some 10, .assign (.tmp 14), false, none⟩]) <|
 .seq (.keep [0, 1, 2, 3, 10]) <|
 .seq (.seq (.ops [⟨some 15, .move (.tmp 10), false, none⟩,
  ⟨some 16, .binOp .neq 26 (.tmp 15) (.const (.int .i64 0)) 26, false, none⟩]) <|
 .seq (.keep [0, 1, 2, 3, 10, 16]) <|
 .cond (.tmp 16) (.seq (.ops [⟨some 17, .move (.tmp 10), false, none⟩,
  ⟨some 8, .assign (.const (.slice none 0 0)), false, none⟩,
  ⟨some 9, .assign (.tmp 17), false, none⟩]) <|
 .seq (.keep [8, 9]) <|
 .ret) <|
 .skip) <|
 .seq (.keep [0, 1, 2, 3]) <|
 .seq (.seq (.ops [⟨some 18, .move (.tmp 2), false, none⟩,
  ⟨some 19, .binOp .lss 3 (.tmp 18) (.const (.int .i64 0)) 3, false, none⟩,
  ⟨some 20, .move (.tmp 19), false, none⟩,
  ⟨some 21, .move (.tmp 3), false, some (20, false)⟩,
  ⟨some 22, .binOp .lss 3 (.tmp 21) (.const (.int .i64 0)) 3, false, some (20, false)⟩,
  ⟨some 23, .pick (.tmp 20) (.const (.bool true)) (.tmp 22), false, none⟩]) <|
 .seq (.keep [0, 1, 2, 3, 23]) <|
 .cond (.tmp 23) (.seq (.ops [⟨some 8, .assign (.const (.slice none 0 0)), false, none⟩,
  ⟨some 9, .assign (.const (.int .i64 22)), false, none⟩]) <|
 .seq (.keep [8, 9]) <|
 .ret) <|
 .skip) <|
 .seq (.keep [0, 1, 2, 3]) <|
 .seq (.seq (.ops [⟨some 24, .move (.tmp 3), false, none⟩,
  ⟨some 25, .binOp .gtr 3 (.tmp 24) (.const (.int .i64 65536)) 3, false, none⟩]) <|
 .seq (.keep [0, 1, 2, 3, 25]) <|
 .cond (.tmp 25) (.ops [⟨some 3, .assign (.const (.int .i64 65536)), false, none⟩]) <|
 .skip) <|
 .seq (.keep [0, 1, 2, 3]) <|
 .seq (.ops [⟨some 26, .move (.tmp 0), false, none⟩,
  ⟨some 27, .move (.tmp 1), false, none⟩,
  ⟨some 28, .call ⟨.value (.func 71), #[(.tmp 26), (.tmp 27)], #[48, 3]⟩, true, none⟩,
  ⟨some 11, .assign (.tmp 28), false, none⟩]) <|
 .seq (.keep [2, 3, 11]) <|
 .seq (.seq (.ops [⟨some 29, .move (.tmp 11), false, none⟩,
  ⟨some 30, .nilCheck (.tmp 29), false, none⟩,
  ⟨some 31, .fieldAddr 89 (.tmp 30) 1, false, none⟩,
  ⟨some 32, .load 3 (.tmp 31), false, none⟩,
  ⟨some 33, .binOp .eql 3 (.tmp 32) (.const (.int .i64 5)) 3, false, none⟩]) <|
 .seq (.keep [2, 3, 11, 33]) <|
 .cond (.tmp 33) (.seq (.ops [⟨some 34, .move (.tmp 3), false, none⟩,
  ⟨some 35, .makeSlice 23 (.tmp 34) (.tmp 34), true, none⟩,
  ⟨some 8, .assign (.tmp 35), false, none⟩,
  ⟨some 9, .assign (.const (.int .i64 0)), false, none⟩]) <|
 .seq (.keep [8, 9]) <|
 .ret) <|
 .skip) <|
 .seq (.keep [2, 3, 11]) <|
 .seq (.seq (.ops [⟨some 36, .move (.tmp 11), false, none⟩,
  ⟨some 37, .nilCheck (.tmp 36), false, none⟩,
  ⟨some 38, .fieldAddr 89 (.tmp 37) 1, false, none⟩,
  ⟨some 39, .load 3 (.tmp 38), false, none⟩,
  ⟨some 40, .binOp .eql 3 (.tmp 39) (.const (.int .i64 4)) 3, false, none⟩,
  ⟨some 41, .move (.tmp 40), false, none⟩,
  ⟨some 42, .move (.tmp 2), false, some (41, false)⟩,
  ⟨some 43, .move (.tmp 11), false, some (41, false)⟩,
  ⟨some 44, .nilCheck (.tmp 43), false, some (41, false)⟩,
  ⟨some 45, .fieldAddr 89 (.tmp 44) 3, false, some (41, false)⟩,
  ⟨some 46, .load 23 (.tmp 45), false, some (41, false)⟩,
  ⟨some 47, .call ⟨.builtin .len, #[(.tmp 46)], #[23]⟩, false, some (41, false)⟩,
  ⟨some 48, .binOp .geq 3 (.tmp 42) (.tmp 47) 3, false, some (41, false)⟩,
  ⟨some 49, .pick (.tmp 41) (.const (.bool true)) (.tmp 48), false, none⟩]) <|
 .seq (.keep [2, 3, 11, 49]) <|
 .cond (.tmp 49) (.seq (.ops [⟨some 8, .assign (.const (.slice none 0 0)), false, none⟩,
  ⟨some 9, .assign (.const (.int .i64 0)), false, none⟩]) <|
 .seq (.keep [8, 9]) <|
 .ret) <|
 .skip) <|
 .seq (.keep [2, 3, 11]) <|
 .seq (.seq (.ops [⟨some 50, .move (.tmp 3), false, none⟩,
  ⟨some 51, .move (.tmp 11), false, none⟩,
  ⟨some 52, .nilCheck (.tmp 51), false, none⟩,
  ⟨some 53, .fieldAddr 89 (.tmp 52) 3, false, none⟩,
  ⟨some 54, .load 23 (.tmp 53), false, none⟩,
  ⟨some 55, .call ⟨.builtin .len, #[(.tmp 54)], #[23]⟩, false, none⟩,
  ⟨some 56, .move (.tmp 2), false, none⟩,
  ⟨some 57, .binOp .sub 3 (.tmp 55) (.tmp 56) 3, false, none⟩,
  ⟨some 58, .binOp .gtr 3 (.tmp 50) (.tmp 57) 3, false, none⟩]) <|
 .seq (.keep [2, 3, 11, 58]) <|
 .cond (.tmp 58) (.ops [⟨some 59, .move (.tmp 11), false, none⟩,
  ⟨some 60, .nilCheck (.tmp 59), false, none⟩,
  ⟨some 61, .fieldAddr 89 (.tmp 60) 3, false, none⟩,
  ⟨some 62, .load 23 (.tmp 61), false, none⟩,
  ⟨some 63, .call ⟨.builtin .len, #[(.tmp 62)], #[23]⟩, false, none⟩,
  ⟨some 64, .move (.tmp 2), false, none⟩,
  ⟨some 65, .binOp .sub 3 (.tmp 63) (.tmp 64) 3, false, none⟩,
  ⟨some 3, .assign (.tmp 65), false, none⟩]) <|
 .skip) <|
 .seq (.keep [2, 3, 11]) <|
 .seq (.ops [⟨some 66, .buildSlice 23 0 #[], true, none⟩,
  ⟨some 67, .move (.tmp 11), false, none⟩,
  ⟨some 68, .nilCheck (.tmp 67), false, none⟩,
  ⟨some 69, .fieldAddr 89 (.tmp 68) 3, false, none⟩,
  ⟨some 70, .load 23 (.tmp 69), false, none⟩,
  ⟨some 71, .move (.tmp 2), false, none⟩,
  ⟨some 72, .move (.tmp 2), false, none⟩,
  ⟨some 73, .move (.tmp 3), false, none⟩,
  ⟨some 74, .binOp .add 3 (.tmp 72) (.tmp 73) 3, false, none⟩,
  ⟨some 75, .slice 23 (.tmp 70) (some (.tmp 71)) (some (.tmp 74)) none, false, none⟩,
  ⟨some 76, .call ⟨.builtin .append, #[(.tmp 66), (.tmp 75)], #[23, 23]⟩, true, none⟩,
  ⟨some 8, .assign (.tmp 76), false, none⟩,
  ⟨some 9, .assign (.const (.int .i64 0)), false, none⟩]) <|
 .seq (.keep [8, 9]) <|
 .ret
theorem c46 : Tryd.f46.body.map (fun c => ((compile Tryd.prog kp46 [] kp46 c).map (·.1), fits Tryd.f46.ntmps c)) = some (some s46, true) := by kernel_rfl
theorem r46 : Tryd.f46.results.toList = [.tmp 8, .tmp 9] := by kernel_rfl
end Go.SX.G
