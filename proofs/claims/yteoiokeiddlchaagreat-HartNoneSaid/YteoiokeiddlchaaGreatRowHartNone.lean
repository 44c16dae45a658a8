/- HartNone: a nil processor answers what the document says; X[0] is 0, whatever is set. No condition. -/
import Derived.Test.YteoiokeiddlchaaGreatRows
import Derived.Test.YteoiokeiddlchaaGreatHK
import Derived.Test.YteoiokeiddlchaaGreatFactsHartNone
import Derived.Test.YteoiokeiddlchaaGreatSxArgs
import Derived.WalkKit
import Derived.ProofKit
import Derived.OpenShut
import Derived.ShutString
import Derived.ChangeOld
import Derived.Below
import Derived.SizedLaws
import Derived.Carry
set_option linter.unusedVariables false
set_option linter.unusedSimpArgs false
namespace Go.Proofs.YteoiokeiddlchaaGreat.hartNone
open Go.ChangeShapes Go.WideShapes Go.ChangeAt Go.RowKit
open Go.ChangeMaps (open_string shut_string)
set_option linter.unusedVariables false
theorem own : ownKnob Tryz.prog.godebug = none := by kernel_rfl
theorem laidOut : laidOutB Tryz.prog = true := by kernel_rfl
set_option maxRecDepth 100000 in
theorem lifted (os : Os) (started : os.Started) (H : Type) (enc : TypeId × Value → H) :
    ReturnsInHanded {} Tryz.checked os 3 .any (Rows.hartNoneSpec.pre6 enc Tryz.prog Tryz.f3 Rows.hartNoneRow.domain false) (Rows.hartNoneSpec.post enc Tryz.prog Tryz.f3 false true false false) := by
  refine returnsInHanded_of_change_sized (C := Tryz.checked) own started (by kernel_rfl) Tryz.func3
    (ChangeSpec.witness6 (enc := enc) (C := Tryz.checked) false ⟨#[], #[.agg (List.toArray (Value.int .u64 0 :: Value.int .u64 0 :: Value.int .u64 0 :: Value.int .u64 0 :: Value.int .u64 0 :: Value.int .u64 0 :: Value.int .u64 0 :: Value.int .u64 0 :: Value.int .u64 0 :: Value.int .u64 0 :: Value.int .u64 0 :: Value.int .u64 0 :: Value.int .u64 0 :: Value.int .u64 0 :: Value.int .u64 0 :: Value.int .u64 0 :: Value.int .u64 0 :: Value.int .u64 0 :: Value.int .u64 0 :: Value.int .u64 0 :: Value.int .u64 0 :: Value.int .u64 0 :: Value.int .u64 0 :: Value.int .u64 0 :: Value.int .u64 0 :: Value.int .u64 0 :: Value.int .u64 0 :: Value.int .u64 0 :: Value.int .u64 0 :: Value.int .u64 0 :: Value.int .u64 0 :: Value.int .u64 0 :: Value.int .u64 0 :: Value.int .u64 0 :: Value.int .i64 0 :: [])), .int .i64 0], []⟩ 8 (by kernel_rfl) (by kernel_rfl) (by kernel_rfl) (by kernel_rfl)) ?_
  intro W base args ds gs before hval0 hW hcnd hsz0 _
  have hsz : (DataW.weightsEach Tryz.prog (Tryz.f3.params.toList ++ Rows.hartNoneSpec.plain.varTypes Tryz.prog) (ds ++ gs)).all (· ≤ reachBytes) = true := hsz0
  have hval : ∀ (j : Nat) t v, Tryz.f3.params[j]? = some t → args[j]? = some v → Value.okWide Tryz.prog W .any base t v := hval0
  have hW' := hW
  obtain ⟨p, q, hA0, hV, rfl, hfz, hnd⟩ := hW
  have hA : DataW.TrodAll enc Tryz.prog W 0 (fun _ => true) true Tryz.f3.params.toList args.toList ds p := hA0
  rw [Tryz.params3] at hA hval hsz
  obtain ⟨v0, vs0, d0, ds0, p0, q0, hargs, rfl, rfl, h0, r0⟩ := trodAll_cons hA
  obtain ⟨v1, vs1, d1, ds1, p1, q1, rfl, rfl, rfl, h1, r1⟩ := trodAll_cons r0
  obtain ⟨rfl, rfl, rfl⟩ := trodAll_nil r1
  obtain rfl : args = #[v0, v1] := by cases args; simp_all
  obtain ⟨rfl, rfl⟩ := trodVars_none hV
  have k0 := h0
  have lt0 : ∀ x ∈ p0, x.block < W.heap.size := by obtain ⟨m, hm⟩ := k0; exact DataW.trod_lt m _ _ _ hm
  have w0 := Go.SX.G.open_state (hval 0 27 v0 rfl rfl) h0
  have k1 := h1
  have lt1 : ∀ x ∈ p1, x.block < W.heap.size := by obtain ⟨m, hm⟩ := k1; exact DataW.trod_lt m _ _ _ hm
  obtain ⟨a1, e1, _, _, y1⟩ := open_int Tryz.underlying3 (hval 1 3 v1 rfl rfl) h1
  have w1 := Go.SX.wf_i64 y1
  subst e1
  clear hA0 hval0 hsz0 hsz
  refine (Go.SX.law_calls (args := [v0, .int .i64 a1]) Tryz.func3 (by kernel_rfl) (Go.SX.G.hartnone_v w0 a1 w1)).mono fun e W' ⟨he, bel⟩ => ?_
  subst he
  exact ⟨_, rfl, _, _, _, [], _, [], hW', trodAll_mk1 (shut_bool Tryz.underlying4 _), (trodAll_cons_mk (Below.trod laidOut (by kernel_rfl) (of_decide_eq_true (by kernel_rfl)) k0 bel lt0) (trodAll_cons_mk (Below.trod laidOut (by kernel_rfl) (of_decide_eq_true (by kernel_rfl)) k1 bel lt1) trodAll_mk0)), rfl, bel.frame _, fun h => by cases h⟩
theorem over : Rows.hartNoneRow.holds Tryz.pinned (OpenSpec.ofChange Rows.hartNoneSpec) :=
  OpenClaim.holds_of_wide 3 Tryz.f3 rfl rfl rfl rfl rfl rfl rfl ⟨rfl, rfl, rfl, rfl, rfl⟩ rfl rfl rfl rfl rfl named Tryz.func3 closed inst wrapper
    (fun os started H enc _ => lifted os started H enc)
theorem proved : Rows.HartNoneSaid := over
#print axioms proved
end Go.Proofs.YteoiokeiddlchaaGreat.hartNone
namespace Go.Proofs.YteoiokeiddlchaaGreat
/-- The row, under a short name, for the claim. -/
theorem hartNone_holds : Rows.HartNoneSaid := hartNone.proved
end Go.Proofs.YteoiokeiddlchaaGreat
