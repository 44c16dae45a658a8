/- Slices of structs, as the row hands them over. No program. -/
import Derived.Test.YteoiokeiddlchaaGreatSxArgs
import Derived.ChangeSame
import Derived.DataReads
set_option linter.unusedVariables false
set_option linter.unusedSimpArgs false
namespace Go.SX
open Go.RowKit Go.ChangeShapes Go.WideShapes
variable {H : Type} {enc : TypeId × Value → H} {P : Program} {W : World}
theorem flatten_get {α : Type} {N : Nat} : ∀ (css : List (List α)) (i j : Nat), (∀ cs ∈ css, cs.length = N) → j < N → css.flatten[i * N + j]? = (css[i]?).bind fun cs => cs[j]?
  | [], i, j, _, _ => by simp
  | cs :: css, 0, j, h, hj => by
    have := h cs (List.mem_cons_self ..)
    simp only [List.flatten_cons, Nat.zero_mul, Nat.zero_add, List.getElem?_cons_zero, Option.bind_some]
    rw [List.getElem?_append_left (by omega)]
  | cs :: css, i + 1, j, h, hj => by
    have h0 := h cs (List.mem_cons_self ..)
    have ih := flatten_get css i j (fun c hc => h c (List.mem_cons_of_mem _ hc)) hj
    simp only [List.flatten_cons, List.getElem?_cons_succ]
    rw [List.getElem?_append_right (by rw [h0, Nat.add_mul]; omega), ← ih, h0]
    congr 1
    rw [Nat.add_mul]; omega
theorem flatten_len {α : Type} {N : Nat} : ∀ (css : List (List α)), (∀ cs ∈ css, cs.length = N) → css.flatten.length = css.length * N
  | [], _ => by simp
  | cs :: css, h => by
    rw [List.flatten_cons, List.length_append, h cs (List.mem_cons_self ..), flatten_len css fun c hc => h c (List.mem_cons_of_mem _ hc), List.length_cons, Nat.add_mul]; omega
theorem open_rows {base N : Nat} {t e : TypeId} {v : Value} {d : DataW H} {ps : List MemPlace} (ht : P.underlying t = some (.slice e)) (hc : P.cellsOf e = N) (hN : 0 < N) (hval : Value.okWide P W .any base t v)
    (h : DataW.Trod enc P W 0 (fun _ => true) true t v d ps) : ∃ css : List (List Value), Vw W.heap v N css.length css.flatten ∧ ∀ cs ∈ css, cs.length = N ∧ ∃ n y, DataW.trod enc P W 0 (fun _ => true) true n e cs = some y := by
  obtain ⟨a, len, cap, rfl⟩ := okWide_slice ht hval
  obtain ⟨fuel, hf⟩ := h
  rcases DataW.trod_slice ht hf with ⟨hcs, _⟩ | ⟨x, l, c, elems, rest, n, _, hcs, _, _, hl, hm, hlen, hel, _, _⟩
  · simp [Value.cells] at hcs
    obtain ⟨rfl, rfl, rfl⟩ := hcs
    exact ⟨[], Vw.nil _ _, fun cs hcs => by cases hcs⟩
  · simp [Value.cells] at hcs
    obtain ⟨rfl, rfl, rfl⟩ := hcs
    have hh : W.has P .any base x e cap := by
      simp only [Value.okWide, ht, Cell.okWide, Cell.ok] at hval
      exact hval.2.2
    obtain ⟨hs, c0, t0, z0, hb0, _, ho0⟩ := has_block hh
    have each : ∀ i, i < len → ∃ cs, W.cells? 0 (x.add (i * N)) N = some cs ∧ ∃ y, DataW.trod enc P W 0 (fun _ => true) true n e cs = some y := by
      intro i hi
      have := hel i hi
      rw [List.getElem?_eq_getElem (by omega), Option.bind_eq_some_iff, hc] at this
      obtain ⟨cs, h1, h2⟩ := this
      exact ⟨cs, h1, _, h2⟩
    obtain ⟨css, ecss⟩ : ∃ css : List (List Value), css = (List.range len).map fun i => (W.cells? 0 (x.add (i * N)) N).getD [] := ⟨_, rfl⟩
    have hcl : css.length = len := by rw [ecss]; simp
    have hcss : ∀ i (hi : i < css.length), W.cells? 0 (x.add (i * N)) N = some css[i] ∧ ∃ y, DataW.trod enc P W 0 (fun _ => true) true n e css[i] = some y := by
      intro i hi
      obtain ⟨cs, h1, y, h2⟩ := each i (by omega)
      have e1 : css[i] = cs := by simp [ecss, h1]
      rw [e1]
      exact ⟨h1, y, h2⟩
    have hlen2 : ∀ cs ∈ css, cs.length = N := by
      intro cs hcs
      obtain ⟨i, hi, rfl⟩ := List.mem_iff_getElem.1 hcs
      exact (World.cells?_some (hcss i hi).1).2.1
    have hfl := flatten_len css hlen2
    refine ⟨css, ?_, fun cs hcs => ⟨hlen2 cs hcs, ?_⟩⟩
    · obtain ⟨b, o, sp⟩ := x
      simp only at hs hb0 ho0
      subst hs
      have hcell : ∀ q, q < len * N → W.cell? (Addr.add ⟨b, o, none⟩ q) = some (css.flatten.getD q .nilIface) := by
        intro q hq
        have hi : q / N < len := Nat.div_lt_of_lt_mul (by rw [Nat.mul_comm]; exact hq)
        have hj : q % N < N := Nat.mod_lt _ hN
        have hd : q / N * N + q % N = q := by rw [Nat.mul_comm]; exact Nat.div_add_mod q N
        obtain ⟨h1, _⟩ := hcss (q / N) (by omega)
        have h2 := (World.cells?_some h1).2.2 (q % N) hj
        have h3 := flatten_get css (q / N) (q % N) hlen2 hj
        rw [hd, List.getElem?_eq_getElem (by omega : q / N < css.length), Option.bind_some] at h3
        rw [Addr_add_none, Addr_add_none] at h2
        rw [Nat.add_assoc, hd] at h2
        rw [Addr_add_none, List.getD_eq_getElem?_getD, h3, h2]
        have : q % N < css[q / N].length := by rw [hlen2 _ (List.getElem_mem _)]; exact hj
        rw [List.getElem?_eq_getElem this]; rfl
      obtain ⟨c1, t1, z1, hb1, ho1, hL⟩ := cellsAt (a := ⟨b, o, none⟩) (n := len * N) rfl hcell ⟨c0, t0, z0, hb0, ho0⟩
      simp only at hb1 ho1 hL
      refine ⟨hfl, .inr ⟨b, o, cap, c1, t1, z1, by rw [hcl], by omega, hb1, by rw [hcl]; exact ho1, ?_⟩⟩
      rw [hcl, hL]
      apply List.ext_getElem
      · simp [hfl, hcl]
      · intro i h1 h2
        simp [List.getElem?_eq_getElem h2]
    · obtain ⟨i, hi, rfl⟩ := List.mem_iff_getElem.1 hcs
      obtain ⟨_, y, hy⟩ := hcss i hi
      exact ⟨n, y, hy⟩
/-- rows that are things, as things. -/
theorem rows_things {α : Type} {f : α → List Value} {Q : α → Prop} : ∀ {css : List (List Value)}, (∀ cs ∈ css, ∃ a, cs = f a ∧ Q a) → ∃ xs : List α, css = xs.map f ∧ ∀ a ∈ xs, Q a
  | [], _ => ⟨[], rfl, fun a h => by cases h⟩
  | cs :: css, h => by
    obtain ⟨a, e, q⟩ := h cs (List.mem_cons_self ..)
    obtain ⟨xs, e2, q2⟩ := rows_things (f := f) (Q := Q) fun c hc => h c (List.mem_cons_of_mem _ hc)
    refine ⟨a :: xs, by rw [List.map_cons, e, e2], fun b hb => ?_⟩
    rcases List.mem_cons.1 hb with rfl | hb
    · exact q
    · exact q2 b hb
theorem flat_flatten {α : Type} (f : α → List Value) (xs : List α) : (xs.map f).flatten = flat f xs := by
  induction xs with
  | nil => rfl
  | cons x xs ih => rw [List.map_cons, List.flatten_cons, ih, flat_cons]
/-- three numbers a row. -/
theorem open_rows3 {α : Type} {base : Nat} {t e : TypeId} {f0 f1 f2 : Field} {k0 k1 k2 : IntKind} {v : Value} {d : DataW H} {ps : List MemPlace} (f : α → List Value) (Q : α → Prop) (hf : ∀ a b c : Int, (Lit.int k0 a).wf = true → (Lit.int k1 b).wf = true → (Lit.int k2 c).wf = true → ∃ x, [Value.int k0 a, .int k1 b, .int k2 c] = f x ∧ Q x)
    (ht : P.underlying t = some (.slice e)) (he : P.underlying e = some (.struct #[f0, f1, f2])) (hc : P.cellsOf e = 3) (ho : f0.offset = 0 ∧ f1.offset = 1 ∧ f2.offset = 2) (hc0 : P.cellsOf f0.type = 1) (hc1 : P.cellsOf f1.type = 1) (hc2 : P.cellsOf f2.type = 1)
    (h0 : P.underlying f0.type = some (.int k0)) (h1 : P.underlying f1.type = some (.int k1)) (h2 : P.underlying f2.type = some (.int k2)) (hval : Value.okWide P W .any base t v)
    (h : DataW.Trod enc P W 0 (fun _ => true) true t v d ps) : ∃ xs : List α, Vs W.heap v f 3 xs ∧ ∀ x ∈ xs, Q x := by
  obtain ⟨css, hv, hcs⟩ := open_rows ht hc (by omega) hval h
  obtain ⟨xs, e1, hq⟩ := rows_things (f := f) (Q := Q) (css := css) fun cs hm => by
    obtain ⟨hl, n, y, hy⟩ := hcs cs hm
    obtain ⟨ys, m, _, _, _, hyl, hfs⟩ := DataW.trod_struct he hy
    obtain ⟨a, b, c, rfl⟩ : ∃ a b c, cs = [a, b, c] := by
      match cs, hl with
      | [a, b, c], _ => exact ⟨a, b, c, rfl⟩
    match ys, hyl with
    | [y0, y1, y2], _ =>
      have g0 := hfs 0 f0 rfl
      have g1 := hfs 1 f1 rfl
      have g2 := hfs 2 f2 rfl
      rw [ho.1, hc0] at g0
      rw [ho.2.1, hc1] at g1
      rw [ho.2.2, hc2] at g2
      obtain ⟨z0, e0, _, w0⟩ := DataW.trod_int h0 g0
      obtain ⟨z1, e1, _, w1⟩ := DataW.trod_int h1 g1
      obtain ⟨z2, e2, _, w2⟩ := DataW.trod_int h2 g2
      simp at e0 e1 e2
      rw [e0, e1, e2]
      exact hf z0 z1 z2 w0 w1 w2
  refine ⟨xs, ?_, hq⟩
  have hl : css.length = xs.length := by rw [e1]; simp
  unfold Vs
  rw [← flat_flatten, ← e1, ← hl]
  exact hv
end Go.SX
