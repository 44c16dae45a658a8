/- A heap below one mapping: plain laws. No program. -/
import Derived.Test.YtcnalkdgdbhedaaMemSp
set_option linter.unusedVariables false
set_option linter.unusedSimpArgs false
namespace Go.SX
/-- the regions: the heap from 8192 to 'e', a mapping at 'at'. -/
def heapL (e w : Nat) : List Reg := if e = 8192 then [⟨w, w + 4096, 3⟩] else if e = w then [⟨8192, w + 4096, 3⟩] else [⟨8192, e, 3⟩, ⟨w, w + 4096, 3⟩]
theorem heapL_first (w : Nat) : joL (wiL [] ⟨w, w + 4096, 3⟩) = heapL 8192 w := by
  simp [heapL, wiL, woL, joL, jo1, insAt]
theorem heapL_1 (w : Nat) : heapL 8192 w = [⟨w, w + 4096, 3⟩] := by simp [heapL]
theorem heapL_2 {w : Nat} (h : w ≠ 8192) : heapL w w = [⟨8192, w + 4096, 3⟩] := by simp [heapL, h]
theorem heapL_3 {e w : Nat} (h1 : e ≠ 8192) (h2 : e ≠ w) : heapL e w = [⟨8192, e, 3⟩, ⟨w, w + 4096, 3⟩] := by simp [heapL, h1, h2]
theorem heapL_len (e w : Nat) : (heapL e w).length ≤ 2 := by
  by_cases h1 : e = 8192
  · subst h1; rw [heapL_1]; simp
  · by_cases h2 : e = w
    · subst h2; rw [heapL_2 h1]; simp
    · rw [heapL_3 h1 h2]; simp
theorem joL_1 (a : Reg) : joL [a] = [a] := rfl
theorem joL_2 (a b : Reg) (h : ¬ (a.e = b.s ∧ a.p = b.p)) : joL [a, b] = [a, b] := by
  simp only [joL, List.foldl_cons, List.foldl_nil, jo1, List.getLast?_nil, List.nil_append, List.getLast?_singleton]; rw [if_neg h]; rfl
theorem joL_2j (a b : Reg) (h : a.e = b.s ∧ a.p = b.p) : joL [a, b] = [⟨a.s, b.e, a.p⟩] := by
  simp only [joL, List.foldl_cons, List.foldl_nil, jo1, List.getLast?_nil, List.nil_append, List.getLast?_singleton]; rw [if_pos h]; rfl
theorem joL_3 (a b c : Reg) (h : a.e = b.s ∧ a.p = b.p) (h2 : ¬ (b.e = c.s ∧ a.p = c.p)) : joL [a, b, c] = [⟨a.s, b.e, a.p⟩, c] := by
  have := joL_snoc [a, b] c
  rw [joL_2j a b h] at this
  rw [show [a, b, c] = [a, b] ++ [c] from rfl, this]
  simp only [jo1, List.getLast?_singleton]; rw [if_neg h2]; rfl
theorem joL_3j (a b c : Reg) (h : a.e = b.s ∧ a.p = b.p) (h2 : b.e = c.s ∧ a.p = c.p) : joL [a, b, c] = [⟨a.s, c.e, a.p⟩] := by
  have := joL_snoc [a, b] c
  rw [joL_2j a b h] at this
  rw [show [a, b, c] = [a, b] ++ [c] from rfl, this]
  simp only [jo1, List.getLast?_singleton]; rw [if_pos h2]; rfl
theorem ins_0 {q r : Reg} (rs : List Reg) (h : r.s < q.s) : insAt (q :: rs) r = 0 := by simp [insAt, List.findIdx_cons, h]
theorem ins_1 {q q2 r : Reg} (rs : List Reg) (h : ¬ r.s < q.s) (h2 : r.s < q2.s) : insAt (q :: q2 :: rs) r = 1 := by simp [insAt, List.findIdx_cons, h, h2]
theorem woL_c (s e : Nat) (q : Reg) (rs : List Reg) : woL s e (q :: rs) = wo1 s e q ++ woL s e rs := rfl
theorem wo_out {s e : Nat} {q : Reg} (h : q.e ≤ s ∨ e ≤ q.s) : wo1 s e q = [q] := if_pos h
theorem wo_all {s e : Nat} {q : Reg} (h : ¬ (q.e ≤ s ∨ e ≤ q.s)) (h1 : ¬ q.s < s) (h2 : ¬ e < q.e) : wo1 s e q = [] := by unfold wo1; rw [if_neg h, if_neg h1, if_neg h2]; rfl
theorem wo_left {s e : Nat} {q : Reg} (h : ¬ (q.e ≤ s ∨ e ≤ q.s)) (h1 : q.s < s) (h2 : ¬ e < q.e) : wo1 s e q = [⟨q.s, s, q.p⟩] := by unfold wo1; rw [if_neg h, if_pos h1, if_neg h2]; rfl
theorem wo_right {s e : Nat} {q : Reg} (h : ¬ (q.e ≤ s ∨ e ≤ q.s)) (h1 : ¬ q.s < s) (h2 : e < q.e) : wo1 s e q = [⟨e, q.e, q.p⟩] := by unfold wo1; rw [if_neg h, if_neg h1, if_pos h2]; rfl
theorem wo_two {s e : Nat} {q : Reg} (h : ¬ (q.e ≤ s ∨ e ≤ q.s)) (h1 : q.s < s) (h2 : e < q.e) : wo1 s e q = [⟨q.s, s, q.p⟩, ⟨e, q.e, q.p⟩] := by unfold wo1; rw [if_neg h, if_pos h1, if_pos h2]; rfl
theorem woL_apart {s e : Nat} : ∀ {rs : List Reg}, (∀ q ∈ rs, q.e ≤ s ∨ e ≤ q.s) → woL s e rs = rs
  | [], _ => rfl
  | q :: rs, h => by
    have h1 := woL_apart (s := s) (e := e) fun x hx => h x (List.mem_cons_of_mem q hx)
    have h2 := h q (List.mem_cons_self ..)
    simp only [woL, List.flatMap_cons] at *
    rw [h1, wo1, if_pos h2]; rfl
theorem heapL_grow {e m w : Nat} (h1 : 8192 ≤ e) (h2 : e < m) (h3 : m ≤ w) : joL (wiL (heapL e w) ⟨e, m, 3⟩) = heapL m w := by
  have hap : woL e m (heapL e w) = heapL e w := by
    apply woL_apart
    intro q hq
    unfold heapL at hq
    split at hq
    · simp at hq; subst hq; right; exact h3
    · split at hq
      · omega
      · simp at hq
        rcases hq with rfl | rfl
        · left; exact Nat.le_refl _
        · right; exact h3
  unfold wiL
  simp only [hap]
  by_cases c1 : e = 8192
  · subst c1
    rw [heapL_1, ins_0 [] (show 8192 < w by omega)]
    show joL [⟨8192, m, 3⟩, ⟨w, w + 4096, 3⟩] = _
    by_cases c2 : m = w
    · subst c2
      rw [joL_2j ⟨8192, m, 3⟩ ⟨m, m + 4096, 3⟩ ⟨rfl, rfl⟩, heapL_2 (by omega)]
    · rw [joL_2 _ _ (fun q => c2 q.1), heapL_3 (by omega) c2]
  · rw [heapL_3 c1 (by omega), ins_1 [] (show ¬ e < 8192 by omega) (show e < w by omega)]
    show joL [⟨8192, e, 3⟩, ⟨e, m, 3⟩, ⟨w, w + 4096, 3⟩] = _
    by_cases c2 : m = w
    · subst c2
      rw [joL_3j ⟨8192, e, 3⟩ ⟨e, m, 3⟩ ⟨m, m + 4096, 3⟩ ⟨rfl, rfl⟩ ⟨rfl, rfl⟩, heapL_2 (by omega)]
    · rw [joL_3 ⟨8192, e, 3⟩ ⟨e, m, 3⟩ ⟨w, w + 4096, 3⟩ ⟨rfl, rfl⟩ (fun q => c2 q.1), heapL_3 (by omega) c2]
theorem heapL_cut {e m w : Nat} (h1 : 8192 ≤ m) (h2 : m < e) (h3 : e ≤ w) : joL (woL m e (heapL e w)) = heapL m w := by
  have c1 : ¬ e = 8192 := by omega
  have n0 : woL m e [] = [] := rfl
  by_cases c2 : e = w
  · subst c2
    rw [heapL_2 c1, woL_c, n0]
    by_cases c3 : m = 8192
    · subst c3
      rw [wo_right (by simp only; omega) (by simp only; omega) (by simp only; omega), heapL_1]; rfl
    · rw [wo_two (by simp only; omega) (by simp only; omega) (by simp only; omega), heapL_3 c3 (by omega)]
      exact joL_2 _ _ (fun q => by have := q.1; simp only at this; omega)
  · rw [heapL_3 c1 c2, woL_c, woL_c, n0, wo_out (q := ⟨w, w + 4096, 3⟩) (by simp only; omega)]
    by_cases c3 : m = 8192
    · subst c3
      rw [wo_all (by simp only; omega) (by simp only; omega) (by simp only; omega), heapL_1]; rfl
    · rw [wo_left (by simp only; omega) (by simp only; omega) (by simp only; omega), heapL_3 c3 (by omega)]
      exact joL_2 _ _ (fun q => by have := q.1; simp only at this; omega)
theorem pagesL_1 (a : Reg) : pagesL [a] = (a.e - a.s) / 4096 := by simp [pagesL]
theorem pagesL_2 (a b : Reg) : pagesL [a, b] = (a.e - a.s) / 4096 + (b.e - b.s) / 4096 := by simp [pagesL]
theorem heapL_pages {e w : Nat} (h1 : 8192 ≤ e) (h3 : e ≤ w) (h4 : w ≤ 126976) : pagesL (heapL e w) ≤ 40 := by
  have k : ∀ a b n : Nat, b ≤ a + n * 4096 → (b - a) / 4096 ≤ n := fun a b n h => by
    apply Nat.div_le_of_le_mul; rw [Nat.mul_comm]; omega
  by_cases c1 : e = 8192
  · subst c1
    rw [heapL_1, pagesL_1]
    exact k _ _ _ (by simp only; omega)
  · by_cases c2 : e = w
    · subst c2
      rw [heapL_2 c1, pagesL_1]
      exact k _ _ _ (by simp only; omega)
    · rw [heapL_3 c1 c2, pagesL_2]
      have h5 : (e - 8192) / 4096 ≤ 39 := k _ _ _ (by omega)
      have h6 : (w + 4096 - w) / 4096 ≤ 1 := k _ _ _ (by omega)
      exact Nat.add_le_add h5 h6
theorem heapL_free {e m w : Nat} (h1 : 8192 ≤ e) (h2 : e < m) (h3 : e ≤ w) : ((heapL e w).any fun q => decide (q.s < m ∧ e < q.e)) = decide (w < m) := by
  by_cases c1 : e = 8192
  · subst c1
    rw [heapL_1]
    simp only [List.any_cons, List.any_nil, Bool.or_false]
    exact decide_eq_decide.2 (by omega)
  · by_cases c2 : e = w
    · subst c2
      rw [heapL_2 c1]
      simp only [List.any_cons, List.any_nil, Bool.or_false]
      exact decide_eq_decide.2 (by omega)
    · rw [heapL_3 c1 c2]
      simp only [List.any_cons, List.any_nil, Bool.or_false]
      rw [decide_eq_false (show ¬ (8192 < m ∧ e < e) by omega), Bool.false_or]
      exact decide_eq_decide.2 (by omega)
theorem heapL_mem {e w y : Nat} (h1 : 8192 ≤ e) (h3 : e ≤ w) : (∃ r ∈ heapL e w, r.s ≤ y ∧ y < r.e) ↔ (8192 ≤ y ∧ y < e ∨ w ≤ y ∧ y < w + 4096) := by
  by_cases c1 : e = 8192
  · subst c1
    rw [heapL_1]
    simp; omega
  · by_cases c2 : e = w
    · subst c2
      rw [heapL_2 c1]
      simp; omega
    · rw [heapL_3 c1 c2]
      simp
theorem heapL_p {e w : Nat} : ∀ r ∈ heapL e w, r.p = 3 := by
  intro r hr
  unfold heapL at hr
  split at hr
  · simp at hr; rw [hr]
  · split at hr
    · simp at hr; rw [hr]
    · simp at hr; rcases hr with q | q <;> rw [q]
theorem heapL_at {e w y : Nat} (hw : wfR (heapL e w)) (h1 : 8192 ≤ e) (h3 : e ≤ w) : (8192 ≤ y ∧ y < e ∨ w ≤ y ∧ y < w + 4096 → ∃ r, atL (heapL e w) y = some r ∧ r.p = 3) ∧ (¬ (8192 ≤ y ∧ y < e ∨ w ≤ y ∧ y < w + 4096) → atL (heapL e w) y = none) := by
  refine ⟨fun h => ?_, fun h => ?_⟩
  · obtain ⟨r, hr, h4, h5⟩ := (heapL_mem h1 h3).2 h
    exact ⟨r, atL_uniq hw hr h4 h5, heapL_p r hr⟩
  · cases hq : atL (heapL e w) y with
    | none => rfl
    | some r =>
      have := atL_mem hq
      exact (h ((heapL_mem h1 h3).1 ⟨r, this⟩)).elim
end Go.SX
