/- The call of NodeNone, as the row hands it over. No condition. -/
import Derived.Test.YthippanonfbboaaDoorNodeK
import Derived.Test.YthippanonfbboaaDoorSxAct
set_option linter.unusedVariables false
set_option linter.unusedSimpArgs false
namespace Go.SX.G
open Go Go.SX Go.Proofs Go.RowKit Go.ChangeShapes Go.WideShapes
set_option maxRecDepth 100000
set_option maxHeartbeats 1000000
/-- a call, by value. -/
def NAct (h : Heap) (v : Value) : Prop := ∃ (D A B N M : Int) (s u : ByteArray) (isd : Bool) (d : Value) (ds : List Nat), v = .agg #[.int .i64 D, .int .i64 A, .int .i64 B, .int .i64 N, .int .i64 M, .string s, .string u, d, .bool isd] ∧ Vs h d encB 1 ds
theorem open_nact {H : Type} {enc : TypeId × Value → H} {W : World} {base : Nat} {v : Value} {d : DataW H} {ps : List MemPlace} (hval : Value.okWide Tryd.prog W .any base 52 v)
    (h : DataW.Trod enc Tryd.prog W 0 (fun _ => true) true 52 v d ps) : NAct W.heap v := by
  obtain ⟨cs, rfl, hsz, hf⟩ := open_struct Tryd.underlying52 (by kernel_rfl) (by kernel_rfl) (by kernel_rfl) hval h
  obtain ⟨c0, c1, c2, c3, c4, c5, c6, c7, c8, rfl⟩ := array9 hsz
  obtain ⟨_, _, _, t0⟩ := hf 0 _ c0 rfl rfl
  obtain ⟨_, _, _, t1⟩ := hf 1 _ c1 rfl rfl
  obtain ⟨_, _, _, t2⟩ := hf 2 _ c2 rfl rfl
  obtain ⟨_, _, _, t3⟩ := hf 3 _ c3 rfl rfl
  obtain ⟨_, _, _, t4⟩ := hf 4 _ c4 rfl rfl
  obtain ⟨_, _, _, t5⟩ := hf 5 _ c5 rfl rfl
  obtain ⟨_, _, _, t6⟩ := hf 6 _ c6 rfl rfl
  obtain ⟨o7, _, _, t7⟩ := hf 7 _ c7 rfl rfl
  obtain ⟨_, _, _, t8⟩ := hf 8 _ c8 rfl rfl
  obtain ⟨z0, rfl, _⟩ := int_cell Tryd.underlying3 t0
  obtain ⟨z1, rfl, _⟩ := int_cell Tryd.underlying3 t1
  obtain ⟨z2, rfl, _⟩ := int_cell Tryd.underlying3 t2
  obtain ⟨z3, rfl, _⟩ := int_cell Tryd.underlying3 t3
  obtain ⟨z4, rfl, _⟩ := int_cell Tryd.underlying3 t4
  obtain ⟨s5, rfl, _⟩ := string_cell Tryd.underlying9 t5
  obtain ⟨s6, rfl, _⟩ := string_cell Tryd.underlying9 t6
  obtain ⟨b8, rfl⟩ := bool_cell Tryd.underlying4 t8
  obtain ⟨ns, hv, _⟩ := nats_cell _ (fun z => wf_u8 (n := z)) Tryd.underlying23 Tryd.underlying5 (by kernel_rfl) o7 t7
  exact ⟨z0, z1, z2, z3, z4, s5, s6, b8, c7, ns, rfl, hv⟩
theorem nodenone_v {h : Heap} {v : Value} (hv : NAct h v) : Fn Tryd.prog 6 [v] h fun x h' => x = .bool true ∧ ∀ b, b < h.size → h'[b]? = h[b]? := by
  obtain ⟨z0, z1, z2, z3, z4, s5, s6, b8, c7, ns, rfl, hv⟩ := hv
  exact nodenone_c z0 z1 z2 z3 z4 s5 s6 b8 hv
end Go.SX.G
