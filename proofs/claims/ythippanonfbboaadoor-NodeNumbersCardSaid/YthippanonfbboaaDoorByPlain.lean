/- Bytes put and cut: plain laws. No program. -/
import Derived.Test.YthippanonfbboaaDoorSxGrow
set_option linter.unusedVariables false
set_option linter.unusedSimpArgs false
namespace Go.SX
/-- bytes up to a place, noughts where there were none. -/
def cutD (D : List Nat) (k : Nat) : List Nat := (D ++ List.replicate (k - D.length) 0).take k
theorem cutD_len (D : List Nat) (k : Nat) : (cutD D k).length = k := by simp [cutD]; omega
theorem cutD_get (D : List Nat) (k i : Nat) (hi : i < k) : (cutD D k)[i]? = some (if i < D.length then D.getD i 0 else 0) := by
  unfold cutD
  rw [List.getElem?_take, if_pos hi]
  by_cases h : i < D.length
  · rw [List.getElem?_append_left h, if_pos h, List.getD_eq_getElem?_getD, List.getElem?_eq_getElem h]; rfl
  · rw [List.getElem?_append_right (by omega), if_neg h, List.getElem?_replicate, if_pos (by omega)]
theorem cut2_get (D : List Nat) (k i : Nat) (hk : k < 6000) (hi : i < 6000) : (cutD (cutD D k) 6000)[i]? = some (if i < k ∧ i < D.length then D.getD i 0 else 0) := by
  rw [cutD_get _ _ _ hi, cutD_len]
  by_cases h : i < k
  · rw [if_pos h, List.getD_eq_getElem?_getD, cutD_get _ _ _ h]
    by_cases h2 : i < D.length <;> simp [h, h2]
  · simp [h]
/-- some of the bytes put. -/
def putJ (E : List Nat) (k : Nat) (bs : List Nat) (j : Nat) : List Nat := E.take k ++ bs.take j ++ E.drop (k + j)
theorem putJ_zero (E : List Nat) (k : Nat) (bs : List Nat) : putJ E k bs 0 = E := by simp [putJ]
theorem putJ_len (E : List Nat) (k : Nat) (bs : List Nat) (j : Nat) (hj : j ≤ bs.length) (h : k + bs.length ≤ E.length) : (putJ E k bs j).length = E.length := by
  simp [putJ]; omega
theorem putJ_set (E : List Nat) (k : Nat) (bs : List Nat) (j : Nat) (hj : j < bs.length) (h : k + bs.length ≤ E.length) : (putJ E k bs j).set (k + j) bs[j] = putJ E k bs (j + 1) := by
  apply List.ext_getElem?
  intro i
  have l1 : (E.take k).length = k := by rw [List.length_take]; omega
  have l2 : (bs.take j).length = j := by rw [List.length_take]; omega
  have l3 : (bs.take (j + 1)).length = j + 1 := by rw [List.length_take]; omega
  rw [List.getElem?_set]
  unfold putJ
  by_cases e : k + j = i
  · subst e
    rw [if_pos rfl, if_pos (by simp; omega), List.getElem?_append_left (by simp only [List.length_append, l1, l3]; omega), List.getElem?_append_right (by omega), l1, List.getElem?_take, if_pos (by omega), Nat.add_sub_cancel_left, List.getElem?_eq_getElem hj]
  · rw [if_neg e]
    by_cases h1 : i < k
    · rw [List.append_assoc, List.append_assoc, List.getElem?_append_left (by omega), List.getElem?_append_left (by omega)]
    · by_cases h2 : i < k + j
      · rw [List.getElem?_append_left (by simp only [List.length_append, l1, l2]; omega), List.getElem?_append_right (by omega), List.getElem?_append_left (by simp only [List.length_append, l1, l3]; omega), List.getElem?_append_right (by omega), List.getElem?_take, List.getElem?_take, l1, if_pos (by omega), if_pos (by omega)]
      · rw [List.getElem?_append_right (by simp only [List.length_append, l1, l2]; omega), List.getElem?_append_right (by simp only [List.length_append, l1, l3]; omega), List.getElem?_drop, List.getElem?_drop]
        simp only [List.length_append, l1, l2, l3]
        congr 1
        omega
/-- all of them. -/
theorem putJ_all (D : List Nat) (k : Nat) (bs : List Nat) : putJ (D ++ List.replicate (if bs = [] then 0 else k + bs.length - D.length) 0) k bs bs.length = putD D k bs := by
  by_cases hb : bs = []
  · subst hb
    simp [putJ, putD]
  · rw [if_neg hb, ← putD_eq hb]
    simp [putJ]
end Go.SX
