/- CallsKnown: Known tells which numbers are calls, for any number. No condition. -/
import Derived.Test.YtibceeocagihaaaGreatDoorRows
import Derived.Test.YtibceeocagihaaaGreatDoorCards
import Derived.Test.YtibceeocagihaaaGreatDoorTie
import Derived.Test.YtibceeocagihaaaGreatDoorKnown
import Derived.Test.YtibceeocagihaaaGreatDoorFactsKnown
import Derived.Test.YtibceeocagihaaaGreatDoorSxArgs
import Derived.WalkKit
import Derived.ProofKit
import Derived.OpenShut
import Derived.ShutString
import Derived.ChangeOld
import Derived.Below
import Derived.SizedLaws
import Derived.Carry
import Derived.LaidMore
import Derived.Lay
import Derived.SevenTiedAt
import Derived.Stop.Joined
set_option linter.unusedVariables false
set_option linter.unusedSimpArgs false
namespace Go.Proofs.YtibceeocagihaaaGreatDoor.callsKnown
open Go.ChangeShapes Go.WideShapes Go.ChangeAt Go.RowKit
open Go.ChangeMaps (open_string shut_string)
set_option linter.unusedVariables false
theorem own : ownKnob Tryz.prog.godebug = none := by kernel_rfl
theorem laidOut : laidOutB Tryz.prog = true := by kernel_rfl
set_option maxRecDepth 100000 in
theorem lifted (os : Os) (started : os.Started) (H : Type) (enc : TypeId × Value → H) :
    ReturnsInHanded {} Tryz.checked os 4 .any (fun w args => (Rows.callsKnownSpec.pre enc Tryz.prog Tryz.f4 Rows.callsKnownRow.domain false w args ∧ laidMetH Tryz.prog Rows.callsKnownRow.laid w) ∧ sizedMet enc Tryz.prog Tryz.f4 (OpenSpec.ofChange Rows.callsKnownSpec) false w args) (Rows.callsKnownSpec.post enc Tryz.prog Tryz.f4 false true false false) := by
  refine returnsInHanded_of_change_and (C := Tryz.checked) (X := fun w _ => laidMetH Tryz.prog Rows.callsKnownRow.laid w) (fun _ _ _ hh h => h.of_heap hh) own started (by kernel_rfl) Tryz.func4
    (ChangeSpec.witness_shaped (enc := enc) (C := Tryz.checked) (os := os) (X := fun w _ => laidMetH Tryz.prog Rows.callsKnownRow.laid w) false (World.laidAll Tryz.prog os Rows.callsKnownRow.laid) #[.int .u64 0] 8 (World.laidAll_os _ _ _)
      (World.shaped_of_ZipB (by kernel_rfl) (by kernel_rfl)) (by kernel_rfl) (by kernel_rfl) (by kernel_rfl)
      (by rw [MakeChecks.laidMetH_plain _ _ _ (by kernel_rfl)]; exact laidMet_laidAll _ (by kernel_rfl) (by kernel_rfl))) ?_
  intro W base args ds gs before hval0 hW hcnd _ _ _
  have hval : ∀ (j : Nat) t v, Tryz.f4.params[j]? = some t → args[j]? = some v → Value.okWide Tryz.prog W .any base t v := hval0
  have hW' := hW
  obtain ⟨p, q, hA0, hV, rfl, hfz, hnd⟩ := hW
  have hA : DataW.TrodAll enc Tryz.prog W 0 (fun _ => true) true Tryz.f4.params.toList args.toList ds p := hA0
  rw [Tryz.params4] at hA hval
  obtain ⟨v0, vs0, d0, ds0, p0, q0, hargs, rfl, rfl, h0, r0⟩ := trodAll_cons hA
  obtain ⟨rfl, rfl, rfl⟩ := trodAll_nil r0
  obtain rfl : args = #[v0] := by cases args; simp_all
  obtain ⟨rfl, rfl⟩ := trodVars_none hV
  have k0 := h0
  have lt0 : ∀ x ∈ p0, x.block < W.heap.size := by obtain ⟨m, hm⟩ := k0; exact DataW.trod_lt m _ _ _ hm
  obtain ⟨b0, e0, _, _, y0⟩ := open_int Tryz.underlying22 (hval 0 22 v0 rfl rfl) h0
  obtain ⟨a0, f0, w0⟩ := Go.SX.nat_of (fun z => Go.SX.wf_u64' (n := z)) y0
  subst f0
  subst e0
  clear hA0 hval0
  refine (Go.SX.law_calls (args := [.int .u64 a0]) Tryz.func4 (by kernel_rfl) (Go.SX.G.callsknown_c a0 w0)).mono fun e W' ⟨he, bel⟩ => ?_
  subst he
  exact ⟨_, rfl, _, _, _, [], _, [], hW', trodAll_mk1 (shut_bool Tryz.underlying4 _), (trodAll_cons_mk (Below.trod laidOut (by kernel_rfl) (of_decide_eq_true (by kernel_rfl)) k0 bel lt0) trodAll_mk0), rfl, bel.frame _, fun h => by cases h⟩
theorem over : Rows.callsKnownRow.holds Tryz.pinned (OpenSpec.ofChange Rows.callsKnownSpec) :=
  OpenClaim.holds_of_wide 4 Tryz.f4 rfl rfl rfl rfl rfl rfl rfl ⟨rfl, rfl, rfl, rfl, rfl⟩ rfl rfl rfl rfl rfl named Tryz.func4 closed inst wrapper
    (fun os started H enc _ => lifted os started H enc)
theorem card : Rows.CallsKnownCardSaid :=
  Claim7.holds_tied_plain_at .later [] [.data, .data, .sentinel, .pinned] true (true, "a254452a95f005cb5f73c316d8e598d2502e5aa9cdb047c6a42eb8c6fc6257de") true over (fun _ h => by cases h) byText (fun _ h => by cases h) callsKnown_row_tie rfl ⟨rfl, rfl⟩ main rfl
    (fun f fn hf hfn => by
      obtain rfl : f = 4 := Option.some.inj (named.symm.trans hf) |>.symm
      obtain rfl : fn = Tryz.f4 := (Option.some.inj (Tryz.func4.symm.trans hfn)).symm
      exact ⟨looks, fun j t ht => by
        rw [Tryz.params4] at ht
        have hm : t ∈ [22] := by simpa using Array.mem_of_getElem? ht
        have hs := List.all_eq_true.1 stand t (by simpa using hm)
        rw [Bool.not_eq_true'] at hs
        exact hs⟩)
    goes
#print axioms card
end Go.Proofs.YtibceeocagihaaaGreatDoor.callsKnown
namespace Go.Proofs.YtibceeocagihaaaGreatDoor
/-- The row, under a short name, for the claim. -/
theorem callsKnown_holds : Rows.CallsKnownCardSaid := callsKnown.card
end Go.Proofs.YtibceeocagihaaaGreatDoor
