/- The acts of AtomSteps, as the row hands them over. No condition. -/
import Derived.Test.YtcnalkdgdbhedaaSteps
import Derived.Test.YtcnalkdgdbhedaaSxRows
set_option linter.unusedVariables false
set_option linter.unusedSimpArgs false
namespace Go.SX.G
open Go Go.SX Go.Proofs Go.RowKit Go.ChangeShapes Go.WideShapes
set_option maxRecDepth 100000
set_option maxHeartbeats 1000000
theorem open_aacts {H : Type} {enc : TypeId × Value → H} {W : World} {base : Nat} {v : Value} {d : DataW H} {ps : List MemPlace} (hval : Value.okWide Try.prog W .any base 69 v)
    (h : DataW.Trod enc Try.prog W 0 (fun _ => true) true 69 v d ps) : ∃ cs : List AAct, Vs W.heap v encAA 3 cs ∧ ∀ a ∈ cs, a.addr < 18446744073709551616 ∧ a.x < 18446744073709551616 := by
  refine open_rows3 (k0 := .i64) (k1 := .u64) (k2 := .u64) encAA (fun a => a.addr < 18446744073709551616 ∧ a.x < 18446744073709551616) (fun a b c ha hb hc => ?_) Try.underlying69 Try.underlying71 (by kernel_rfl) ⟨rfl, rfl, rfl⟩ (by kernel_rfl) (by kernel_rfl) (by kernel_rfl) Try.underlying3 Try.underlying22 Try.underlying22 hval h
  obtain ⟨b', rfl, hb'⟩ := nat_of (fun z => wf_u64' (n := z)) hb
  obtain ⟨c', rfl, hc'⟩ := nat_of (fun z => wf_u64' (n := z)) hc
  exact ⟨⟨a, b', c'⟩, rfl, hb', hc'⟩
end Go.SX.G
