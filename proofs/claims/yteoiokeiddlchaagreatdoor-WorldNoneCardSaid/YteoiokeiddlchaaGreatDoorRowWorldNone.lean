/- WorldNone: a process that is none answers what the document says. No condition. -/
import Derived.Test.YteoiokeiddlchaaGreatDoorRows
import Derived.Test.YteoiokeiddlchaaGreatDoorCards
import Derived.Test.YteoiokeiddlchaaGreatDoorTie
import Derived.Test.YteoiokeiddlchaaGreatDoorWorld
import Derived.Test.YteoiokeiddlchaaGreatDoorFactsWorldNone
import Derived.Test.YteoiokeiddlchaaGreatDoorSxArgs
import Derived.WalkKit
import Derived.ProofKit
import Derived.OpenShut
import Derived.ShutString
import Derived.ChangeOld
import Derived.Below
import Derived.SizedLaws
import Derived.Carry
import Derived.LaidMore
import Derived.Lay
import Derived.SevenTiedAt
import Derived.Stop.Joined
import Derived.LaidHandle
import Derived.LaidLaws
set_option linter.unusedVariables false
set_option linter.unusedSimpArgs false
namespace Go.Proofs.YteoiokeiddlchaaGreatDoor.worldNone
open Go.ChangeShapes Go.WideShapes Go.ChangeAt Go.RowKit
open Go.ChangeMaps (open_string shut_string)
set_option linter.unusedVariables false
theorem own : ownKnob Tryz.prog.godebug = none := by kernel_rfl
theorem laidOut : laidOutB Tryz.prog = true := by kernel_rfl
/-- a world whose type handle is laid; then the plain data on it. -/
noncomputable def base (os : Os) : World :=
  { World.holding Tryz.prog os ⟨#[], #[], []⟩ with heap := (World.holding Tryz.prog os ⟨#[], #[], []⟩).heap.modify 3 fun
      | .cells _ t frozen => .cells #[.iface 313 (.agg #[.pointer (some ⟨7, 195, none⟩)])] t frozen
      | o => o }
noncomputable def plain : List (String × DataW Unit) := Rows.worldNoneRow.laid.filter fun x => x.2.handleName?.isNone
noncomputable def wit (os : Os) : World := (base os).layVars Tryz.prog plain
theorem wit_os (os : Os) : (wit os).os = os := (World.layVars_os _ _ _).trans rfl
theorem laidMet_on {P : Program} {w0 : World} {laid : List (String × DataW Unit)} (args : Array Value) (hf : w0.layFits P laid [] = true) (hi : w0.layIfaces P laid (w0.layVars P laid) = true) :
    laidMet P laid ((w0.layVars P laid).forCall (fun _ _ => 0) ⟨#[], args, []⟩).memory := by
  have e1 : (laid.filter fun x => (laid.map (·.1)).contains x.1) = laid := List.filter_eq_self.2 fun x hx => List.contains_iff_mem.2 (List.mem_map.2 ⟨x, hx, rfl⟩)
  have e2 : (laid.filter fun x => !(laid.map (·.1)).contains x.1) = [] := List.filter_eq_nil_iff.2 fun x hx => by rw [List.contains_iff_mem.2 (List.mem_map.2 ⟨x, hx, rfl⟩)]; simp
  have h : laidMet P laid (w0.layVars P laid) := laidMet_layVars (w0 := w0) (laid.map (·.1)) [] (by rw [e1]) (by rw [e1]; exact hf) (by rw [e1]; exact hi) (by rw [e2]; exact LaidIn.none)
  exact h.of_heap (by simp [World.memory, World.forCall, Input.heap])
theorem wit_met (os : Os) (args : Array Value) (ha : args = #[.int .i64 0, .int .u64 0]) : laidMetH Tryz.prog Rows.worldNoneRow.laid ((wit os).forCall (fun _ _ => 0) ⟨#[], args, []⟩).memory := by
  subst ha
  exact laidMetH_of_parts (laidMet_on _ (by kernel_rfl) (by kernel_rfl)) (by kernel_rfl)
set_option maxRecDepth 100000 in
theorem lifted (os : Os) (started : os.Started) (H : Type) (enc : TypeId × Value → H) :
    ReturnsInHanded {} Tryz.checked os 3 .any (fun w args => (Rows.worldNoneSpec.pre enc Tryz.prog Tryz.f3 Rows.worldNoneRow.domain false w args ∧ laidMetH Tryz.prog Rows.worldNoneRow.laid w) ∧ sizedMet enc Tryz.prog Tryz.f3 (OpenSpec.ofChange Rows.worldNoneSpec) false w args) (Rows.worldNoneSpec.post enc Tryz.prog Tryz.f3 false true false false) := by
  refine returnsInHanded_of_change_and (C := Tryz.checked) (X := fun w _ => laidMetH Tryz.prog Rows.worldNoneRow.laid w) (fun _ _ _ hh h => h.of_heap hh) own started (by kernel_rfl) Tryz.func3
    (ChangeSpec.witness_shaped (enc := enc) (C := Tryz.checked) (os := os) (X := fun w _ => laidMetH Tryz.prog Rows.worldNoneRow.laid w) false (wit os) #[.int .i64 0, .int .u64 0] 8 (wit_os os)
      (World.shaped_of_ZipB (by kernel_rfl) (by kernel_rfl)) (by kernel_rfl) (by kernel_rfl) (by kernel_rfl)
      (wit_met os _ rfl)) ?_
  intro W base args ds gs before hval0 hW hcnd _ _ _
  have hval : ∀ (j : Nat) t v, Tryz.f3.params[j]? = some t → args[j]? = some v → Value.okWide Tryz.prog W .any base t v := hval0
  have hW' := hW
  obtain ⟨p, q, hA0, hV, rfl, hfz, hnd⟩ := hW
  have hA : DataW.TrodAll enc Tryz.prog W 0 (fun _ => true) true Tryz.f3.params.toList args.toList ds p := hA0
  rw [Tryz.params3] at hA hval
  obtain ⟨v0, vs0, d0, ds0, p0, q0, hargs, rfl, rfl, h0, r0⟩ := trodAll_cons hA
  obtain ⟨v1, vs1, d1, ds1, p1, q1, rfl, rfl, rfl, h1, r1⟩ := trodAll_cons r0
  obtain ⟨rfl, rfl, rfl⟩ := trodAll_nil r1
  obtain rfl : args = #[v0, v1] := by cases args; simp_all
  obtain ⟨rfl, rfl⟩ := trodVars_none hV
  have k0 := h0
  have lt0 : ∀ x ∈ p0, x.block < W.heap.size := by obtain ⟨m, hm⟩ := k0; exact DataW.trod_lt m _ _ _ hm
  obtain ⟨a0, e0, _, _, y0⟩ := open_int Tryz.underlying3 (hval 0 3 v0 rfl rfl) h0
  have w0 := Go.SX.wf_i64 y0
  have k1 := h1
  have lt1 : ∀ x ∈ p1, x.block < W.heap.size := by obtain ⟨m, hm⟩ := k1; exact DataW.trod_lt m _ _ _ hm
  obtain ⟨b1, e1, _, _, y1⟩ := open_int Tryz.underlying22 (hval 1 22 v1 rfl rfl) h1
  obtain ⟨a1, f1, w1⟩ := Go.SX.nat_of (fun z => Go.SX.wf_u64' (n := z)) y1
  subst f1
  subst e0
  subst e1
  clear hA0 hval0
  refine (Go.SX.law_calls (args := [.int .i64 a0, .int .u64 a1]) Tryz.func3 (by kernel_rfl) (Go.SX.G.worldnone_c a0 w0 a1 w1)).mono fun e W' ⟨he, bel⟩ => ?_
  subst he
  exact ⟨_, rfl, _, _, _, [], _, [], hW', trodAll_mk1 (shut_bool Tryz.underlying4 _), (trodAll_cons_mk (Below.trod laidOut (by kernel_rfl) (of_decide_eq_true (by kernel_rfl)) k0 bel lt0) (trodAll_cons_mk (Below.trod laidOut (by kernel_rfl) (of_decide_eq_true (by kernel_rfl)) k1 bel lt1) trodAll_mk0)), rfl, bel.frame _, fun h => by cases h⟩
theorem over : Rows.worldNoneRow.holds Tryz.pinned (OpenSpec.ofChange Rows.worldNoneSpec) :=
  OpenClaim.holds_of_wide 3 Tryz.f3 rfl rfl rfl rfl rfl rfl rfl ⟨rfl, rfl, rfl, rfl, rfl⟩ rfl rfl rfl rfl rfl named Tryz.func3 closed inst wrapper
    (fun os started H enc _ => lifted os started H enc)
theorem card : Rows.WorldNoneCardSaid :=
  Claim7.holds_tied_plain_at .later [] [.data, .data, .handle, .sentinel, .sentinel, .pinned] true (true, "557f356fae6fe1c60a2180f24081cb86d688f62716784bb4ccc8be04494dccce") true over (fun _ h => by cases h) byText (fun _ h => by cases h) worldNone_row_tie rfl ⟨rfl, rfl⟩ main rfl
    (fun f fn hf hfn => by
      obtain rfl : f = 3 := Option.some.inj (named.symm.trans hf) |>.symm
      obtain rfl : fn = Tryz.f3 := (Option.some.inj (Tryz.func3.symm.trans hfn)).symm
      exact ⟨looks, fun j t ht => by
        rw [Tryz.params3] at ht
        have hm : t ∈ [3, 22] := by simpa using Array.mem_of_getElem? ht
        have hs := List.all_eq_true.1 stand t (by simpa using hm)
        rw [Bool.not_eq_true'] at hs
        exact hs⟩)
    goes
#print axioms card
end Go.Proofs.YteoiokeiddlchaaGreatDoor.worldNone
namespace Go.Proofs.YteoiokeiddlchaaGreatDoor
/-- The row, under a short name, for the claim. -/
theorem worldNone_holds : Rows.WorldNoneCardSaid := worldNone.card
end Go.Proofs.YteoiokeiddlchaaGreatDoor
