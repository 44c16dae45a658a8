/- Blocks and structs given cell by cell, by a function. No program. -/
import Derived.Test.YteoiokeiddlchaaGreatSxRows
import Derived.Test.YteoiokeiddlchaaGreatSxExt
set_option linter.unusedVariables false
set_option linter.unusedSimpArgs false
namespace Go.SX
variable {P : Program}
def fnL (n : Nat) (f : Nat → Value) : List Value := (List.range n).map f
theorem fnL_len (n : Nat) (f : Nat → Value) : (fnL n f).length = n := by simp [fnL]
theorem fnL_get (n : Nat) (f : Nat → Value) (i : Nat) (hi : i < n) : (fnL n f)[i]? = some (f i) := by simp [fnL, List.getElem?_map, List.getElem?_range hi]
theorem fnL_congr {n : Nat} {f g : Nat → Value} (h : ∀ i, i < n → f i = g i) : fnL n f = fnL n g := by
  apply List.map_congr_left
  intro i hi
  exact h i (List.mem_range.1 hi)
theorem fnL_cell {n i e : Nat} {f : Nat → Value} {z : Nat × Nat} (hi : i < n) : cellO i (some (.cells (fnL n f).toArray e z)) = some (f i) := by
  show (fnL n f).toArray[i]? = _
  rw [List.getElem?_toArray, fnL_get _ _ _ hi]
theorem fnL_cells {n o k e : Nat} {f : Nat → Value} {z : Nat × Nat} (h : o + k ≤ n) : cellsO o k (some (.cells (fnL n f).toArray e z)) = some (fnL k fun i => f (o + i)) := by
  have : cellsO o k (some (.cells (fnL n f).toArray e z)) = some (((fnL n f).drop o).take k) := by
    simp [cellsO, fnL_len, h]
  rw [this]
  congr 1
  apply List.ext_getElem?
  intro i
  rw [List.getElem?_take, List.getElem?_drop]
  by_cases hi : i < k
  · rw [if_pos hi, fnL_get _ _ _ (by omega), fnL_get _ _ _ hi]
  · rw [if_neg hi, List.getElem?_eq_none (by rw [fnL_len]; omega)]
/-- cells written, one or more. -/
theorem fnL_wr {h : Heap} {b o n k e : Nat} {f g : Nat → Value} (hb : h[b]? = some (.cells (fnL n f).toArray e (0, 0))) (ho : o + k ≤ n) (hg : (fnL k g).all one = true) :
    ∃ h', wrO h b o (fnL k g) h[b]? = some h' ∧ h'[b]? = some (.cells (fnL n fun i => if o ≤ i ∧ i < o + k then g (i - o) else f i).toArray e (0, 0)) ∧ h'.size = h.size ∧ ∀ c, c ≠ b → h'[c]? = h[c]? := by
  have lb := getElem?_lt hb
  rw [hb, h_wrO, if_pos ⟨by rw [fnL_len]; simp [fnL_len]; omega, hg⟩]
  refine ⟨_, rfl, ?_, by simp, fun c hc => by rw [Array.getElem?_setIfInBounds, if_neg (Ne.symm hc)]⟩
  rw [Array.getElem?_setIfInBounds, if_pos rfl, if_pos lb, List.toList_toArray, setL_eq _ _ _ (by rw [fnL_len, fnL_len]; exact ho)]
  congr 3
  apply List.ext_getElem?
  intro i
  rw [fnL_len]
  have l1 : ((fnL n f).take o).length = o := by rw [List.length_take, fnL_len]; omega
  have l2 : ((fnL n f).take o ++ fnL k g).length = o + k := by rw [List.length_append, l1, fnL_len]
  by_cases h1 : i < o
  · rw [List.getElem?_append_left (by omega), List.getElem?_append_left (by omega), List.getElem?_take, if_pos h1, fnL_get _ _ _ (by omega), fnL_get _ _ _ (by omega), if_neg (by omega)]
  · by_cases h2 : i < o + k
    · rw [List.getElem?_append_left (by omega), List.getElem?_append_right (by omega), l1, fnL_get _ _ _ (by omega), fnL_get _ _ _ (by omega), if_pos (by omega)]
    · rw [List.getElem?_append_right (by omega), l2, List.getElem?_drop, show o + k + (i - (o + k)) = i by omega]
      by_cases h3 : i < n
      · rw [fnL_get _ _ _ h3, fnL_get _ _ _ h3, if_neg (by omega)]
      · rw [List.getElem?_eq_none (by rw [fnL_len]; omega), List.getElem?_eq_none (by rw [fnL_len]; omega)]
theorem fnL_one {h : Heap} {b o n e : Nat} {f : Nat → Value} {v : Value} (hb : h[b]? = some (.cells (fnL n f).toArray e (0, 0))) (ho : o < n) (hv : [v].all one = true) :
    ∃ h', wrO h b o [v] h[b]? = some h' ∧ h'[b]? = some (.cells (fnL n fun i => if i = o then v else f i).toArray e (0, 0)) ∧ h'.size = h.size ∧ ∀ c, c ≠ b → h'[c]? = h[c]? := by
  obtain ⟨h', w, c, z, o'⟩ := fnL_wr (o := o) (n := n) (f := f) (k := 1) (g := fun _ => v) hb (by omega) hv
  refine ⟨h', w, ?_, z, o'⟩
  rw [c]
  congr 3
  apply fnL_congr
  intro i hi
  by_cases e : i = o
  · rw [if_pos (by omega), if_pos e]
  · rw [if_neg (by omega), if_neg e]
theorem setL_single : ∀ (L : List Value) (o : Nat) (v : Value), setL L o [v] = L.set o v
  | [], o, v => by cases o <;> rfl
  | x :: L, 0, v => by cases L <;> rfl
  | x :: L, o + 1, v => by
    have := setL_single L o v
    simp [setL, this]
theorem fnL_set (n o : Nat) (f : Nat → Value) (v : Value) : setL (fnL n f) o [v] = fnL n (fun i => if i = o then v else f i) := by
  rw [setL_single]
  apply List.ext_getElem?
  intro i
  rw [List.getElem?_set]
  by_cases hi : i < n
  · rw [fnL_get _ _ _ hi, fnL_get _ _ _ hi, fnL_len]
    by_cases e : o = i
    · rw [if_pos e, if_pos (by omega), if_pos e.symm]
    · rw [if_neg e, if_neg (Ne.symm e)]
  · rw [List.getElem?_eq_none (l := fnL n f) (by rw [fnL_len]; omega), List.getElem?_eq_none (l := fnL n fun i => if i = o then v else f i) (by rw [fnL_len]; omega)]
    split
    · rw [fnL_len, if_neg (by omega)]
    · rfl
/-- a whole block overwritten. -/
theorem setL_whole (L vs : List Value) (h : L.length = vs.length) : setL L 0 vs = vs := by
  rw [setL_eq _ _ _ (by omega), List.take_zero, List.nil_append, List.drop_eq_nil_of_le (by omega), List.append_nil]
theorem setL_35 (a0 a1 a2 a3 a4 a5 a6 a7 a8 a9 a10 a11 a12 a13 a14 a15 a16 a17 a18 a19 a20 a21 a22 a23 a24 a25 a26 a27 a28 a29 a30 a31 a32 a33 a34 : Value) (g : Nat → Value) : setL (a0 :: a1 :: a2 :: a3 :: a4 :: a5 :: a6 :: a7 :: a8 :: a9 :: a10 :: a11 :: a12 :: a13 :: a14 :: a15 :: a16 :: a17 :: a18 :: a19 :: a20 :: a21 :: a22 :: a23 :: a24 :: a25 :: a26 :: a27 :: a28 :: a29 :: a30 :: a31 :: a32 :: a33 :: a34 :: []) 0 (fnL 35 g) = fnL 35 g := setL_whole _ _ (by rw [fnL_len]; rfl)
theorem fnL_take (n : Nat) (g : Nat → Value) : List.take n (fnL n g) = fnL n g := List.take_of_length_le (by rw [fnL_len]; omega)
end Go.SX
