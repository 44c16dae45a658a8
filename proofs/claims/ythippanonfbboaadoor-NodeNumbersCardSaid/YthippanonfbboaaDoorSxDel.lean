/- Slices of one's own: an element taken out of the middle. No program. -/
import Derived.Test.YthippanonfbboaaDoorSxGrow
set_option linter.unusedVariables false
set_option linter.unusedSimpArgs false
namespace Go.SX
open Go.RowKit
variable {P : Program}
/-- the first elements, the room behind them kept. -/
theorem Sl.take {h : Heap} {lo e size m i b cap : Nat} {L : List Value} (s : Sl h lo (.slice (some ⟨b, 0, none⟩) m cap) e size m L) (hi : i ≤ m) : Sl h lo (.slice (some ⟨b, 0, none⟩) i cap) e size i (L.take (i * size)) := by
  rcases s.2 with ⟨q, _⟩ | ⟨b', cap', q, hc, hlb, rest, hB, hr⟩
  · cases q
  · cases q
    have hkm : i * size ≤ m * size := Nat.mul_le_mul_right _ hi
    refine ⟨by rw [List.length_take, s.1, Nat.min_eq_left hkm], .inr ⟨b, cap, rfl, by omega, hlb, L.drop (i * size) ++ rest, ?_, ?_⟩⟩
    · rw [← List.append_assoc, List.take_append_drop]; exact hB
    · rw [List.length_take, List.length_append, List.length_drop, s.1]
      rw [s.1] at hr
      omega
/-- append, where there is room. -/
theorem app_room {h : Heap} {t e size by_ m n lo b cap : Nat} {z x : Value} {L new : List Value} {K : Value → Heap → Prop} (T : ElT P t e size by_ z) (s : Sl h lo (.slice (some ⟨b, 0, none⟩) m cap) e size m L) (hx : lenOfV x = some n)
    (hs : srcCells h (n * size) x = some new) (hl : new.length = n * size) (ho : new.all one = true) (hstr : strOK size x = true) (hroom : m + n ≤ cap)
    (hk : ∀ h', Sl h' lo (.slice (some ⟨b, 0, none⟩) (m + n) cap) e size (m + n) (L ++ new) → h'.size = h.size → (∀ c, c ≠ b → h'[c]? = h[c]?) → K (.slice (some ⟨b, 0, none⟩) (m + n) cap) h') : @appK P h t t (.slice (some ⟨b, 0, none⟩) m cap) x ⟨K⟩ := by
  obtain ⟨hL, hv⟩ := s
  have hLn : (L ++ new).length = (m + n) * size := by rw [List.length_append, hL, hl, Nat.add_mul]
  rcases hv with ⟨q, _⟩ | ⟨b', cap', q, hc, hlb, rest, hB, hr⟩
  · cases q
  cases q
  cases hd : P.underlying t with
  | none => have := T.nt; rw [hd] at this; simp at this
  | some d =>
  have hi : isIntD d = false := by have := T.nt; rw [hd] at this; simpa using this
  have hbs := getElem?_lt hB
  unfold appK appendW
  rw [T.sl, hd]
  simp only [obind, T.sl, hi, hx, hs, hstr, Bool.false_eq_true, if_false, true_and, AppW, wrS, wr, T.bt, T.ze]
  simp only [srcCells, cells?, hB, obind]
  refine ⟨fun h0 => ?_, fun h0 => absurd hroom (by omega)⟩
  have hroom2 : new.length ≤ rest.length := by
    have : (m + n) * size ≤ cap * size := Nat.mul_le_mul_right _ h0
    rw [Nat.add_mul] at this; omega
  have hif : 0 + m * size + new.length ≤ (L ++ rest).toArray.size ∧ (0 ≤ 0 ∨ 0 ≤ 0 + m * size ∨ 0 + m * size + new.length ≤ 0) ∧ new.all one = true := by
    refine ⟨by simp [hL]; omega, .inl (Nat.le_refl _), ho⟩
  rw [if_pos hif]
  simp only
  refine hk _ ⟨hLn, .inr ⟨b, cap, rfl, h0, hlb, rest.drop new.length, ?_, ?_⟩⟩ (by simp) (fun c hc => by rw [Array.getElem?_setIfInBounds, if_neg (Ne.symm hc)])
  · rw [Array.getElem?_setIfInBounds, if_pos rfl, if_pos hbs]
    simp only [Nat.zero_add, List.toList_toArray]
    rw [← hL, setL_app _ _ _ hroom2]
  · rw [List.length_append, List.length_drop]; omega
/-- clear, behind the elements in use. -/
theorem clear_room {h : Heap} {t e size by_ m n lo b o c' cap : Nat} {z : Value} {L : List Value} {K : Value → Heap → Prop} (T : ElT P t e size by_ z) (s : Sl h lo (.slice (some ⟨b, 0, none⟩) m cap) e size m L) (hm : m ≤ o) (hc : o + n ≤ cap) (hz : (zeros z n).all one = true)
    (hk : ∀ h', Sl h' lo (.slice (some ⟨b, 0, none⟩) m cap) e size m L → h'.size = h.size → (∀ c, c ≠ b → h'[c]? = h[c]?) → K (.tuple #[]) h') : @clearK P h t (.slice (some ⟨b, o * size, none⟩) n c') ⟨K⟩ := by
  obtain ⟨hL, hv⟩ := s
  rcases hv with ⟨q, _⟩ | ⟨b', cap', q, hcc, hlb, rest, hB, hr⟩
  · cases q
  cases q
  have hbs := getElem?_lt hB
  have hzl := zeros_len T.zs n
  have h1 : (o + n) * size ≤ cap * size := Nat.mul_le_mul_right _ hc
  have h2 : m * size ≤ o * size := Nat.mul_le_mul_right _ hm
  rw [Nat.add_mul] at h1
  unfold clearK clearW
  refine ⟨?_, ?_⟩
  · cases hd : P.underlying t with
    | none => have := T.nt; rw [hd] at this; simp at this
    | some d => rfl
  simp only [T.sl, T.ze, obind, wr, hB]
  have hif : o * size + (zeros z n).length ≤ (L ++ rest).toArray.size ∧ (0 ≤ 0 ∨ 0 ≤ o * size ∨ o * size + (zeros z n).length ≤ 0) ∧ (zeros z n).all one = true := by
    refine ⟨by simp [hzl]; omega, .inl (Nat.le_refl _), hz⟩
  rw [if_pos hif]
  have e1 : setL (L ++ rest) (o * size) (zeros z n) = L ++ setL rest (o * size - m * size) (zeros z n) := by
    have := setL_right L rest (o * size - m * size) (zeros z n)
    rw [hL, show m * size + (o * size - m * size) = o * size by omega] at this
    exact this
  refine hk _ ⟨hL, .inr ⟨b, cap, rfl, hcc, hlb, setL rest (o * size - m * size) (zeros z n), ?_, by rw [setL_len]; exact hr⟩⟩ (by simp) (fun c hc => by rw [Array.getElem?_setIfInBounds, if_neg (Ne.symm hc)])
  rw [Array.getElem?_setIfInBounds, if_pos rfl, if_pos hbs, ← e1]
end Go.SX
