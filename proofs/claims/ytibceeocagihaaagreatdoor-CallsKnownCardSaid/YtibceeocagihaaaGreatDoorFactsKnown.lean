/- CallsKnown: the closed facts of its row. -/
import Derived.Test.YtibceeocagihaaaGreatDoorRows
import Derived.Test.YtibceeocagihaaaGreatDoorCards
import Derived.Test.YtibceeocagihaaaGreatDoorTie
import Derived.JoinedOf
import Derived.SevenTiedAt
import Derived.KernelRfl
set_option linter.unusedVariables false
set_option linter.unusedSimpArgs false
set_option linter.unusedVariables false
namespace Go.Proofs.YtibceeocagihaaaGreatDoor.callsKnown
open Go
set_option maxRecDepth 100000
set_option maxHeartbeats 40000000
theorem named : Tryz.pinned.checked.prog.funcNamed "marionette/marionettelaw25.CallsKnown" = some 4 := by kernel_rfl
theorem closed : joinedFacts Tryz.pinned.checked.prog 4 Tryz.f4 Rows.callsKnownSpec Rows.callsKnownRow = true := by
  simp only [joinedFacts, Bool.and_eq_true]
  repeat' apply And.intro
  all_goals as_aux_lemma => kernel_rfl
theorem inst : Tryz.f4.isInstance Tryz.pinned.checked.prog Rows.callsKnownRow.origin Rows.callsKnownRow.targs := of_decide_eq_true (by kernel_rfl)
theorem wrapper : Tryz.f4.isWrapper Tryz.pinned.checked.prog Rows.callsKnownRow.wrapper Rows.callsKnownRow.mainSum := by unfold Func.isWrapper; first | (rw [if_pos (by decide +kernel)]; kernel_rfl) | (rw [if_neg (by decide +kernel)]; exact ⟨rfl, rfl⟩)
theorem main : Tryz.pinned.checked.prog.mainIs = some (true, "a254452a95f005cb5f73c316d8e598d2502e5aa9cdb047c6a42eb8c6fc6257de".toList) := by kernel_rfl
theorem looks : true = Tryz.pinned.checked.prog.looks [] := by kernel_rfl
theorem goes : false = Rows.callsKnownRow.goesBy Tryz.pinned.checked.prog := by kernel_rfl
theorem byText : Rows.callsKnownRow.wfByText (OpenSpec.ofChange Rows.callsKnownSpec) = true := by kernel_rfl
theorem stand : ([22].all fun u => !Tryz.pinned.checked.prog.wantsStandIn u) = true := by kernel_rfl
end Go.Proofs.YtibceeocagihaaaGreatDoor.callsKnown
