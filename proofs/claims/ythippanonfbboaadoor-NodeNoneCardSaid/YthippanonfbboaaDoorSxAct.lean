/- A struct of one-cell fields by value, as the row hands it over. No program. -/
import Derived.Test.YthippanonfbboaaDoorSxRows
import Derived.Deep.Fields
set_option linter.unusedVariables false
set_option linter.unusedSimpArgs false
namespace Go.SX
open Go.RowKit Go.ChangeShapes Go.WideShapes Go.Deep
variable {H : Type} {enc : TypeId × Value → H} {P : Program} {W : World}
/-- a slice of numbers, as a cell of its own. -/
theorem vs_of_has {base : Nat} {e : TypeId} {k : IntKind} {a : Option Addr} {len cap : Nat} {t : TypeId} {n : Nat} {y : DataW H × List MemPlace} (ht : P.underlying t = some (.slice e)) (he : P.underlying e = some (.int k)) (hc : P.cellsOf e = 1) (hh : ∀ x, a = some x → W.has P .any base x e cap)
    (hf : DataW.trod enc P W 0 (fun _ => true) true n t [.slice a len cap] = some y) : ∃ zs : List Int, Vs W.heap (.slice a len cap) (encK k) 1 zs ∧ ∀ n ∈ zs, (Lit.int k n).wf = true := by
  rcases open_ints ht he hc hf with ⟨hcs, _⟩ | ⟨x, l, c, zs, hcs, _, hl, hm, hz, _, hcell, hwz⟩
  · simp at hcs
    obtain ⟨rfl, rfl, rfl⟩ := hcs
    exact ⟨[], Vs.nil _, fun n hn => by cases hn⟩
  · simp at hcs
    obtain ⟨rfl, rfl, rfl⟩ := hcs
    simp only [if_true] at hz
    obtain ⟨hs, c0, t0, z0, hb0, _, ho0⟩ := has_block (hh x rfl)
    obtain ⟨b, o, sp⟩ := x
    simp only at hs hb0 ho0
    subst hs
    obtain ⟨c1, t1, z1, hb1, ho1, hL⟩ := cellsAt (a := ⟨b, o, none⟩) (n := len) (f := fun i => .int k (zs.getD i 0)) rfl (fun i hi => hcell i (by omega)) ⟨c0, t0, z0, hb0, ho0⟩
    simp only at hb1 ho1 hL
    have hlen : (zs.take len).length = len := by rw [List.length_take]; omega
    refine ⟨zs.take len, ⟨by rw [flat_len (encK_len k)], .inr ⟨b, o, cap, c1, t1, z1, by rw [hlen], by omega, hb1, by omega, ?_⟩⟩, fun n hn => hwz n (List.mem_of_mem_take hn)⟩
    rw [hlen, Nat.mul_one, hL, encK_flat]
    apply List.ext_getElem
    · simp; omega
    · intro i h1 h2
      simp only [List.length_map, List.length_range] at h1
      simp [List.getElem?_eq_getElem (show i < zs.length by omega)]
/-- a field that is a slice of numbers without a sign. -/
theorem nats_cell {base : Nat} {t e : TypeId} {k : IntKind} {v : Value} {n : Nat} {y : DataW H × List MemPlace} (lim : Nat) (hk : ∀ z, (Lit.int k z).wf = true → 0 ≤ z ∧ z < lim) (ht : P.underlying t = some (.slice e)) (he : P.underlying e = some (.int k)) (hc : P.cellsOf e = 1) (hval : Cell.okWide P W .any base t v)
    (h : DataW.trod enc P W 0 (fun _ => true) true n t [v] = some y) : ∃ ns : List Nat, Vs W.heap v (fun n : Nat => encK k (n : Int)) 1 ns ∧ ∀ n ∈ ns, n < lim := by
  have hv' : Value.okWide P W .any base t v := by simpa [Value.okWide, ht] using hval
  obtain ⟨a, len, cap, rfl⟩ := okWide_slice ht hv'
  exact open_nats lim hk ht he hc hv' (d := y.1) (ps := y.2) ⟨n, by simpa [Value.cells] using h⟩
/-- a struct of one-cell fields: each field's cell, its shape and its reading. -/
theorem open_struct {base : Nat} {t : TypeId} {fs : Array Field} {v : Value} {d : DataW H} {ps : List MemPlace} (ht : P.underlying t = some (.struct fs)) (hone : oneCellFields P fs = true) (hC : P.cellsOf t = fs.size)
    (hct : P.cellTypes P.depth t = some (fs.toList.map (·.type))) (hval : Value.okWide P W .any base t v) (h : DataW.Trod enc P W 0 (fun _ => true) true t v d ps) :
    ∃ cs : Array Value, v = .agg cs ∧ cs.size = fs.size ∧ ∀ (j : Nat) (f : Field) (c : Value), fs[j]? = some f → cs[j]? = some c → Cell.okWide P W .any base f.type c ∧ ∃ n y, DataW.trod enc P W 0 (fun _ => true) true n f.type [c] = some y := by
  simp only [Value.okWide, ht] at hval
  obtain ⟨cs, rfl, hsz, ts, hts, _, hcell⟩ := hval
  rw [hct] at hts
  obtain rfl := Option.some.inj hts
  obtain ⟨fuel, hf⟩ := h
  obtain ⟨xs, n, _, _, _, hxl, hfs⟩ := DataW.trod_struct ht hf
  refine ⟨cs, rfl, hsz.trans hC, fun j f c hj hc => ?_⟩
  obtain ⟨o, k⟩ := hone_of hone j f hj
  have hj' : j < fs.size := (Array.getElem?_eq_some_iff.1 hj).1
  constructor
  · obtain ⟨u, hu, hx⟩ := hcell j c hc
    rw [List.length_map, Array.length_toList, Nat.mod_eq_of_lt hj', List.getElem?_map, Array.getElem?_toList, hj] at hu
    obtain rfl := Option.some.inj hu
    exact hx
  · have := hfs j f hj
    rw [o, k] at this
    have e : List.take 1 (List.drop j (Value.agg cs).cells.toList) = [c] := by
      simp only [Value.cells]
      rw [List.drop_eq_getElem_cons (by have := (Array.getElem?_eq_some_iff.1 hc).1; simpa using this)]
      simp only [List.take_succ_cons, List.take_zero, List.cons.injEq, and_true]
      have := (Array.getElem?_eq_some_iff.1 hc).2
      simpa using this
    rw [e] at this
    exact ⟨_, _, (this.trans (List.getElem?_eq_getElem (by rw [hxl]; simpa using hj')))⟩
theorem array9 {α : Type} {cs : Array α} (h : cs.size = 9) : ∃ c0 c1 c2 c3 c4 c5 c6 c7 c8, cs = #[c0, c1, c2, c3, c4, c5, c6, c7, c8] := by
  obtain ⟨l⟩ := cs
  match l, h with
  | [c0, c1, c2, c3, c4, c5, c6, c7, c8], _ => exact ⟨c0, c1, c2, c3, c4, c5, c6, c7, c8, rfl⟩
theorem int_cell {t : TypeId} {k : IntKind} {c : Value} {n : Nat} {y : DataW H × List MemPlace} (ht : P.underlying t = some (.int k)) (h : DataW.trod enc P W 0 (fun _ => true) true n t [c] = some y) : ∃ z, c = .int k z ∧ (Lit.int k z).wf = true := by
  obtain ⟨z, e, _, w⟩ := DataW.trod_int ht h
  simp at e
  exact ⟨z, e, w⟩
theorem bool_cell {t : TypeId} {c : Value} {n : Nat} {y : DataW H × List MemPlace} (ht : P.underlying t = some .bool) (h : DataW.trod enc P W 0 (fun _ => true) true n t [c] = some y) : ∃ b, c = .bool b := by
  obtain ⟨b, e, _⟩ := DataW.trod_bool ht h
  simp at e
  exact ⟨b, e⟩
theorem string_cell {t : TypeId} {c : Value} {n : Nat} {y : DataW H × List MemPlace} (ht : P.underlying t = some .string) (h : DataW.trod enc P W 0 (fun _ => true) true n t [c] = some y) : ∃ s : ByteArray, c = .string s ∧ s.size ≤ maxLen := by
  obtain ⟨s, e, _, w⟩ := DataW.trod_string ht h
  simp at e
  exact ⟨s, e, w⟩
end Go.SX
