/- NodeNone: the closed facts of its row. -/
import Derived.Test.YthippanonfbboaaDoorRows
import Derived.Test.YthippanonfbboaaDoorCards
import Derived.Test.YthippanonfbboaaDoorTie
import Derived.JoinedOf
import Derived.SevenTiedAt
import Derived.KernelRfl
set_option linter.unusedVariables false
set_option linter.unusedSimpArgs false
set_option linter.unusedVariables false
namespace Go.Proofs.YthippanonfbboaaDoor.nodeNone
open Go
set_option maxRecDepth 100000
set_option maxHeartbeats 40000000
theorem named : Tryd.pinned.checked.prog.funcNamed "marionette/marionettelaw15.NodeNone" = some 6 := by kernel_rfl
theorem closed : joinedFacts Tryd.pinned.checked.prog 6 Tryd.f6 Rows.nodeNoneSpec Rows.nodeNoneRow = true := by
  simp only [joinedFacts, Bool.and_eq_true]
  repeat' apply And.intro
  all_goals as_aux_lemma => kernel_rfl
theorem inst : Tryd.f6.isInstance Tryd.pinned.checked.prog Rows.nodeNoneRow.origin Rows.nodeNoneRow.targs := of_decide_eq_true (by kernel_rfl)
theorem wrapper : Tryd.f6.isWrapper Tryd.pinned.checked.prog Rows.nodeNoneRow.wrapper Rows.nodeNoneRow.mainSum := by unfold Func.isWrapper; first | (rw [if_pos (by decide +kernel)]; kernel_rfl) | (rw [if_neg (by decide +kernel)]; exact ⟨rfl, rfl⟩)
theorem main : Tryd.pinned.checked.prog.mainIs = some (true, "eb4dbe71d08a0d3eea9baa6c220e6a5a38041b02b7cecce1fd4d05fd03003fd3".toList) := by kernel_rfl
theorem looks : false = Tryd.pinned.checked.prog.looks [] := by kernel_rfl
theorem goes : false = Rows.nodeNoneRow.goesBy Tryd.pinned.checked.prog := by kernel_rfl
theorem byText : Rows.nodeNoneRow.wfByText (OpenSpec.ofChange Rows.nodeNoneSpec) = true := by kernel_rfl
theorem stand : ([52].all fun u => !Tryd.pinned.checked.prog.wantsStandIn u) = true := by kernel_rfl
end Go.Proofs.YthippanonfbboaaDoor.nodeNone
