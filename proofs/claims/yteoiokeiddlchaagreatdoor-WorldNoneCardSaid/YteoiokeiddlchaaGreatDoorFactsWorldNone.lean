/- WorldNone: the closed facts of its row. -/
import Derived.Test.YteoiokeiddlchaaGreatDoorRows
import Derived.Test.YteoiokeiddlchaaGreatDoorCards
import Derived.Test.YteoiokeiddlchaaGreatDoorTie
import Derived.JoinedOf
import Derived.SevenTiedAt
import Derived.KernelRfl
set_option linter.unusedVariables false
set_option linter.unusedSimpArgs false
set_option linter.unusedVariables false
namespace Go.Proofs.YteoiokeiddlchaaGreatDoor.worldNone
open Go
set_option maxRecDepth 100000
set_option maxHeartbeats 40000000
theorem named : Tryz.pinned.checked.prog.funcNamed "marionette/marionettelaw24.WorldNone" = some 3 := by kernel_rfl
theorem closed : joinedFacts Tryz.pinned.checked.prog 3 Tryz.f3 Rows.worldNoneSpec Rows.worldNoneRow = true := by
  simp only [joinedFacts, Bool.and_eq_true]
  repeat' apply And.intro
  all_goals as_aux_lemma => kernel_rfl
theorem inst : Tryz.f3.isInstance Tryz.pinned.checked.prog Rows.worldNoneRow.origin Rows.worldNoneRow.targs := of_decide_eq_true (by kernel_rfl)
theorem wrapper : Tryz.f3.isWrapper Tryz.pinned.checked.prog Rows.worldNoneRow.wrapper Rows.worldNoneRow.mainSum := by unfold Func.isWrapper; first | (rw [if_pos (by decide +kernel)]; kernel_rfl) | (rw [if_neg (by decide +kernel)]; exact ⟨rfl, rfl⟩)
theorem main : Tryz.pinned.checked.prog.mainIs = some (true, "557f356fae6fe1c60a2180f24081cb86d688f62716784bb4ccc8be04494dccce".toList) := by kernel_rfl
theorem looks : true = Tryz.pinned.checked.prog.looks [] := by kernel_rfl
theorem goes : false = Rows.worldNoneRow.goesBy Tryz.pinned.checked.prog := by kernel_rfl
theorem byText : Rows.worldNoneRow.wfByText (OpenSpec.ofChange Rows.worldNoneSpec) = true := by kernel_rfl
theorem stand : ([3, 22].all fun u => !Tryz.pinned.checked.prog.wantsStandIn u) = true := by kernel_rfl
end Go.Proofs.YteoiokeiddlchaaGreatDoor.worldNone
