/- NodeNumbers: the closed facts of its row. -/
import Derived.Test.YthippanonfbboaaDoorRows
import Derived.Test.YthippanonfbboaaDoorCards
import Derived.Test.YthippanonfbboaaDoorTie
import Derived.JoinedOf
import Derived.SevenTiedAt
import Derived.KernelRfl
set_option linter.unusedVariables false
set_option linter.unusedSimpArgs false
set_option linter.unusedVariables false
namespace Go.Proofs.YthippanonfbboaaDoor.nodeNumbers
open Go
set_option maxRecDepth 100000
set_option maxHeartbeats 40000000
theorem named : Tryd.pinned.checked.prog.funcNamed "marionette/marionettelaw15.NodeNumbers" = some 4 := by kernel_rfl
theorem closed : joinedFacts Tryd.pinned.checked.prog 4 Tryd.f4 Rows.nodeNumbersSpec Rows.nodeNumbersRow = true := by
  simp only [joinedFacts, Bool.and_eq_true]
  repeat' apply And.intro
  all_goals as_aux_lemma => kernel_rfl
theorem inst : Tryd.f4.isInstance Tryd.pinned.checked.prog Rows.nodeNumbersRow.origin Rows.nodeNumbersRow.targs := of_decide_eq_true (by kernel_rfl)
theorem wrapper : Tryd.f4.isWrapper Tryd.pinned.checked.prog Rows.nodeNumbersRow.wrapper Rows.nodeNumbersRow.mainSum := by unfold Func.isWrapper; first | (rw [if_pos (by decide +kernel)]; kernel_rfl) | (rw [if_neg (by decide +kernel)]; exact ⟨rfl, rfl⟩)
theorem main : Tryd.pinned.checked.prog.mainIs = some (true, "eb4dbe71d08a0d3eea9baa6c220e6a5a38041b02b7cecce1fd4d05fd03003fd3".toList) := by kernel_rfl
theorem looks : false = Tryd.pinned.checked.prog.looks [] := by kernel_rfl
theorem goes : false = Rows.nodeNumbersRow.goesBy Tryd.pinned.checked.prog := by kernel_rfl
theorem byText : Rows.nodeNumbersRow.wfByText (OpenSpec.ofChange Rows.nodeNumbersSpec) = true := by kernel_rfl
theorem stand : ([23].all fun u => !Tryd.pinned.checked.prog.wantsStandIn u) = true := by kernel_rfl
end Go.Proofs.YthippanonfbboaaDoor.nodeNumbers
