/- Files with numbers: plain laws of lists. No program. -/
import Derived.Test.YthippanonfbboaaDoorSxDel
set_option linter.unusedVariables false
set_option linter.unusedSimpArgs false
namespace Go.SX
/-- a file: its name's number, its own number, its block, when it was put into the map, its bytes. -/
structure NF where
  k : Nat
  no : Nat
  blk : Nat
  born : Nat
  dv : Value
  x : Nat
def Apart (L : List NF) : Prop := L.Pairwise fun a b => a.no ≠ b.no ∧ a.blk ≠ b.blk ∧ a.k ≠ b.k
theorem pig : ∀ (l m : List Nat), l.Nodup → (∀ x ∈ l, x ∈ m) → l.length ≤ m.length
  | [], m, _, _ => Nat.zero_le _
  | x :: l, m, hn, hm => by
    rw [List.nodup_cons] at hn
    have hx := hm x (List.mem_cons_self ..)
    have h1 := pig l (m.erase x) hn.2 fun y hy => by
      have hne : y ≠ x := fun e => hn.1 (e ▸ hy)
      exact (List.mem_erase_of_ne hne).2 (hm y (List.mem_cons_of_mem _ hy))
    have h2 := List.length_erase_of_mem hx
    have h3 := List.length_pos_of_mem hx
    simp only [List.length_cons]
    omega
theorem Apart.inj {L : List NF} (h : Apart L) {a b : NF} (ha : a ∈ L) (hb : b ∈ L) (e : a.no = b.no ∨ a.blk = b.blk ∨ a.k = b.k) : a = b := by
  induction L with
  | nil => cases ha
  | cons c L ih =>
    have h1 := List.pairwise_cons.1 h
    rcases List.mem_cons.1 ha with rfl | ha' <;> rcases List.mem_cons.1 hb with rfl | hb'
    · rfl
    · have := h1.1 b hb'
      rcases e with e | e | e
      · exact absurd e this.1
      · exact absurd e this.2.1
      · exact absurd e this.2.2
    · have := h1.1 a ha'
      rcases e with e | e | e
      · exact absurd e.symm this.1
      · exact absurd e.symm this.2.1
      · exact absurd e.symm this.2.2
    · exact ih h1.2 ha' hb'
theorem Apart.len {L : List NF} (h : Apart L) (hk : ∀ l ∈ L, l.k < 20) : L.length ≤ 20 := by
  have h1 : (L.map (·.k)).Nodup := by
    rw [List.nodup_iff_pairwise_ne, List.pairwise_map]
    exact h.imp fun hab => hab.2.2
  have := pig (L.map (·.k)) (List.range 20) h1 fun x hx => by
    obtain ⟨l, hl, rfl⟩ := List.mem_map.1 hx
    exact List.mem_range.2 (hk l hl)
  simpa using this
theorem Apart.len_lt {L : List NF} (h : Apart L) (hk : ∀ l ∈ L, l.k < 20) {k : Nat} (hk0 : k < 20) (hf : ∀ l ∈ L, l.k ≠ k) : L.length < 20 := by
  have h1 : (k :: L.map (·.k)).Nodup := by
    rw [List.nodup_cons]
    refine ⟨fun hm => ?_, ?_⟩
    · obtain ⟨l, hl, e⟩ := List.mem_map.1 hm
      exact hf l hl e
    · rw [List.nodup_iff_pairwise_ne, List.pairwise_map]
      exact h.imp fun hab => hab.2.2
  have := pig (k :: L.map (·.k)) (List.range 20) h1 fun x hx => by
    rcases List.mem_cons.1 hx with rfl | hx
    · exact List.mem_range.2 hk0
    · obtain ⟨l, hl, rfl⟩ := List.mem_map.1 hx
      exact List.mem_range.2 (hk l hl)
  simp at this
  omega
/-- the least number that is free. -/
theorem least (L : List NF) : ∃ n, 2 ≤ n ∧ n ≤ L.length + 2 ∧ (∀ l ∈ L, l.no ≠ n) ∧ ∀ m, 2 ≤ m → m < n → ∃ l ∈ L, l.no = m := by
  have step : ∀ d n, 2 ≤ n → (∀ m, 2 ≤ m → m < n → ∃ l ∈ L, l.no = m) → L.length + 2 - n ≤ d → n ≤ L.length + 2 → ∃ n, 2 ≤ n ∧ n ≤ L.length + 2 ∧ (∀ l ∈ L, l.no ≠ n) ∧ ∀ m, 2 ≤ m → m < n → ∃ l ∈ L, l.no = m := by
    intro d
    induction d with
    | zero =>
      intro n h2 hm hd hn
      refine ⟨n, h2, hn, fun l hl e => ?_, hm⟩
      have h1 := pig (List.range' 2 (n - 1)) (L.map (·.no)) List.nodup_range' fun x hx => by
        rw [List.mem_range'_1] at hx
        by_cases q : x < n
        · obtain ⟨l', hl', e'⟩ := hm x hx.1 q
          exact List.mem_map.2 ⟨l', hl', e'⟩
        · exact List.mem_map.2 ⟨l, hl, by omega⟩
      simp at h1
      omega
    | succ d ih =>
      intro n h2 hm hd hn
      by_cases q : ∃ l ∈ L, l.no = n
      · by_cases qn : n + 1 ≤ L.length + 2
        · refine ih (n + 1) (by omega) (fun m h1 h3 => ?_) (by omega) qn
          by_cases e : m = n
          · rw [e]; exact q
          · exact hm m h1 (by omega)
        · exfalso
          have h1 := pig (List.range' 2 (n - 1)) (L.map (·.no)) List.nodup_range' fun x hx => by
            rw [List.mem_range'_1] at hx
            by_cases q2 : x < n
            · obtain ⟨l', hl', e'⟩ := hm x hx.1 q2
              exact List.mem_map.2 ⟨l', hl', e'⟩
            · obtain ⟨l', hl', e'⟩ := q
              exact List.mem_map.2 ⟨l', hl', by omega⟩
          simp at h1
          omega
      · exact ⟨n, h2, hn, fun l hl e => q ⟨l, hl, e⟩, hm⟩
  exact step (L.length + 2) 2 (Nat.le_refl _) (fun m h1 h2 => by omega) (by omega) (by omega)
theorem mem_erase {L : List NF} (h : Apart L) {i : Nat} (hi : i < L.length) (x : NF) : x ∈ L.eraseIdx i ↔ x ∈ L ∧ x.k ≠ L[i].k := by
  induction L generalizing i with
  | nil => simp at hi
  | cons c L ih =>
    have h1 := List.pairwise_cons.1 h
    cases i with
    | zero =>
      simp only [List.eraseIdx_cons_zero, List.getElem_cons_zero, List.mem_cons]
      constructor
      · intro hx; exact ⟨.inr hx, fun e => (h1.1 x hx).2.2 e.symm⟩
      · rintro ⟨rfl | hx, hk⟩
        · exact absurd rfl hk
        · exact hx
    | succ i =>
      have hi' : i < L.length := by simpa using hi
      simp only [List.eraseIdx_cons_succ, List.getElem_cons_succ, List.mem_cons, ih h1.2 hi']
      constructor
      · rintro (rfl | ⟨hx, hk⟩)
        · exact ⟨.inl rfl, (h1.1 _ (List.getElem_mem hi')).2.2⟩
        · exact ⟨.inr hx, hk⟩
      · rintro ⟨rfl | hx, hk⟩
        · exact .inl rfl
        · exact .inr ⟨hx, hk⟩
theorem Apart.erase {L : List NF} (h : Apart L) (i : Nat) : Apart (L.eraseIdx i) := h.sublist (List.eraseIdx_sublist L i)
theorem Apart.push {L : List NF} (h : Apart L) (l : NF) (hl : ∀ a ∈ L, a.no ≠ l.no ∧ a.blk ≠ l.blk ∧ a.k ≠ l.k) : Apart (L ++ [l]) := by
  unfold Apart
  rw [List.pairwise_append]
  exact ⟨h, List.pairwise_singleton _ _, fun a ha b hb => by rw [List.mem_singleton] at hb; subst hb; exact hl a ha⟩
/-- the number that a name has; 0: none. -/
def noOf (L : List NF) (k : Nat) : Nat := match L.find? (fun l => l.k == k) with | some l => l.no | none => 0
theorem noOf_mem {L : List NF} (h : Apart L) {l : NF} (hl : l ∈ L) : noOf L l.k = l.no := by
  unfold noOf
  cases e : L.find? (fun x => x.k == l.k) with
  | none => exact absurd (List.find?_eq_none.1 e l hl) (by simp)
  | some a =>
    have h1 := List.mem_of_find?_eq_some e
    have h2 := List.find?_some e
    have h3 : a.k = l.k := by simpa using h2
    rw [h.inj h1 hl (.inr (.inr h3))]
theorem noOf_none {L : List NF} {k : Nat} (hl : ∀ l ∈ L, l.k ≠ k) : noOf L k = 0 := by
  unfold noOf
  have : L.find? (fun x => x.k == k) = none := by rw [List.find?_eq_none]; intro l h; simpa using hl l h
  rw [this]
theorem noOf_zero {L : List NF} (h : Apart L) (h2 : ∀ l ∈ L, 2 ≤ l.no) {k : Nat} (e : noOf L k = 0) : ∀ l ∈ L, l.k ≠ k := fun l hl q => by
  have := noOf_mem h hl
  have := h2 l hl
  rw [q] at *
  omega
theorem noOf_pos {L : List NF} {k : Nat} (e : noOf L k ≠ 0) : ∃ l ∈ L, l.k = k ∧ l.no = noOf L k := by
  unfold noOf at e ⊢
  cases f : L.find? (fun x => x.k == k) with
  | none => rw [f] at e; exact absurd rfl e
  | some a => exact ⟨a, List.mem_of_find?_eq_some f, by simpa using List.find?_some f, rfl⟩
def atL20 (L : List NF) : List Nat := (List.range 20).map (noOf L)
def usedL (L : List NF) : List Nat := (List.range 40).map fun n => if n = 1 ∨ ∃ l ∈ L, l.no = n then 1 else 0
theorem at_push {L : List NF} (l : NF) (h : Apart (L ++ [l])) (h2 : ∀ a ∈ L, 2 ≤ a.no) : (atL20 L).set l.k l.no = atL20 (L ++ [l]) := by
  have hm : l ∈ L ++ [l] := by simp
  have hA : Apart L := (List.pairwise_append.1 h).1
  apply List.ext_getElem
  · simp [atL20]
  · intro i h1 h3
    simp only [atL20, List.getElem_set, List.getElem_map, List.getElem_range]
    by_cases e : l.k = i
    · rw [if_pos e, ← e, noOf_mem h hm]
    · rw [if_neg e]
      by_cases q : noOf L i = 0
      · rw [q]
        have hz := noOf_zero hA h2 q
        symm
        apply noOf_none
        intro a ha
        rcases List.mem_append.1 ha with ha | ha
        · exact hz a ha
        · rw [List.mem_singleton] at ha; rw [ha]; exact e
      · obtain ⟨a, ha, hk, hno⟩ := noOf_pos q
        rw [← hno, ← hk, noOf_mem h (List.mem_append_left _ ha)]
theorem at_erase {L : List NF} (h : Apart L) (h2 : ∀ a ∈ L, 2 ≤ a.no) {j : Nat} (hj : j < L.length) : (atL20 L).set L[j].k 0 = atL20 (L.eraseIdx j) := by
  have hE := h.erase j
  have hmem := mem_erase h hj
  apply List.ext_getElem
  · simp [atL20]
  · intro i h1 h3
    simp only [atL20, List.getElem_set, List.getElem_map, List.getElem_range]
    by_cases e : L[j].k = i
    · rw [if_pos e]
      symm
      exact noOf_none fun a ha => fun q => ((hmem a).1 ha).2 (q.trans e.symm)
    · rw [if_neg e]
      by_cases q : noOf L i = 0
      · rw [q]
        have hz := noOf_zero h h2 q
        symm
        exact noOf_none fun a ha => hz a ((hmem a).1 ha).1
      · obtain ⟨a, ha, hk, hno⟩ := noOf_pos q
        rw [← hno, ← hk, noOf_mem hE ((hmem a).2 ⟨ha, fun q => e (q.symm.trans hk)⟩)]
theorem used_push {L : List NF} (l : NF) : (usedL L).set l.no 1 = usedL (L ++ [l]) := by
  apply List.ext_getElem
  · simp [usedL]
  · intro i h1 h3
    simp only [usedL, List.getElem_set, List.getElem_map, List.getElem_range]
    by_cases e : l.no = i
    · rw [if_pos e, if_pos (.inr ⟨l, by simp, e⟩)]
    · rw [if_neg e]
      congr 1
      apply propext
      constructor
      · rintro (q | ⟨a, ha, q⟩)
        · exact .inl q
        · exact .inr ⟨a, List.mem_append_left _ ha, q⟩
      · rintro (q | ⟨a, ha, q⟩)
        · exact .inl q
        · rcases List.mem_append.1 ha with ha | ha
          · exact .inr ⟨a, ha, q⟩
          · rw [List.mem_singleton] at ha; rw [ha] at q; exact absurd q e
theorem used_erase {L : List NF} (h : Apart L) (h2 : ∀ a ∈ L, 2 ≤ a.no) {j : Nat} (hj : j < L.length) : (usedL L).set L[j].no 0 = usedL (L.eraseIdx j) := by
  have hmem := mem_erase h hj
  have hj2 := h2 _ (List.getElem_mem hj)
  apply List.ext_getElem
  · simp [usedL]
  · intro i h1 h3
    simp only [usedL, List.getElem_set, List.getElem_map, List.getElem_range]
    by_cases e : L[j].no = i
    · rw [if_pos e, if_neg]
      rintro (q | ⟨a, ha, q⟩)
      · omega
      · have ha' := (hmem a).1 ha
        have := h.inj ha'.1 (List.getElem_mem hj) (.inl (q.trans e.symm))
        exact ha'.2 (by rw [this])
    · rw [if_neg e]
      congr 1
      apply propext
      constructor
      · rintro (q | ⟨a, ha, q⟩)
        · exact .inl q
        · refine .inr ⟨a, (hmem a).2 ⟨ha, fun qk => ?_⟩, q⟩
          have := h.inj ha (List.getElem_mem hj) (.inr (.inr qk))
          exact e (by rw [← this]; exact q)
      · rintro (q | ⟨a, ha, q⟩)
        · exact .inl q
        · exact .inr ⟨a, ((hmem a).1 ha).1, q⟩
theorem used_get {L : List NF} {n : Nat} (hn : n < 40) : (usedL L)[n]? = some (if n = 1 ∨ ∃ l ∈ L, l.no = n then 1 else 0) := by
  simp [usedL, List.getElem?_map, List.getElem?_range hn]
theorem at_get {L : List NF} {k : Nat} (hk : k < 20) : (atL20 L)[k]? = some (noOf L k) := by
  simp [atL20, List.getElem?_map, List.getElem?_range hk]
end Go.SX
