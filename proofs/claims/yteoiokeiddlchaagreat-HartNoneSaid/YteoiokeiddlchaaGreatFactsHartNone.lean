/- HartNone: the closed facts of its row. -/
import Derived.Test.YteoiokeiddlchaaGreatRows
import Derived.JoinedOf
import Derived.KernelRfl
set_option linter.unusedVariables false
set_option linter.unusedSimpArgs false
set_option linter.unusedVariables false
namespace Go.Proofs.YteoiokeiddlchaaGreat.hartNone
open Go
set_option maxRecDepth 100000
set_option maxHeartbeats 40000000
theorem named : Tryz.pinned.checked.prog.funcNamed "marionette/marionettelaw11.HartNone" = some 3 := by kernel_rfl
theorem closed : joinedFacts Tryz.pinned.checked.prog 3 Tryz.f3 Rows.hartNoneSpec Rows.hartNoneRow = true := by
  simp only [joinedFacts, Bool.and_eq_true]
  repeat' apply And.intro
  all_goals as_aux_lemma => kernel_rfl
theorem inst : Tryz.f3.isInstance Tryz.pinned.checked.prog Rows.hartNoneRow.origin Rows.hartNoneRow.targs := of_decide_eq_true (by kernel_rfl)
theorem wrapper : Tryz.f3.isWrapper Tryz.pinned.checked.prog Rows.hartNoneRow.wrapper Rows.hartNoneRow.mainSum := by unfold Func.isWrapper; first | (rw [if_pos (by decide +kernel)]; kernel_rfl) | (rw [if_neg (by decide +kernel)]; exact ⟨rfl, rfl⟩)
end Go.Proofs.YteoiokeiddlchaaGreat.hartNone
