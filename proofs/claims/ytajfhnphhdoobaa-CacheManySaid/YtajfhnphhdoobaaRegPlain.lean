/- Lists of regions: what is mapped where; plain laws. No program. -/
import Derived.Test.YtajfhnphhdoobaaMemPlain
set_option linter.unusedVariables false
set_option linter.unusedSimpArgs false
namespace Go.SX
def protAt (rs : List Reg) (a : Nat) : Option Nat := (atL rs a).map (·.p)
/-- is a place in a list's region of permission 'p'? -/
def Cov (rs : List Reg) (a p : Nat) : Prop := ∃ r ∈ rs, r.s ≤ a ∧ a < r.e ∧ r.p = p
theorem protAt_iff {rs : List Reg} (w : wfR rs) (a p : Nat) : protAt rs a = some p ↔ Cov rs a p := by
  unfold protAt Cov
  constructor
  · intro h
    cases hr : atL rs a with
    | none => rw [hr] at h; cases h
    | some r =>
      rw [hr] at h
      have := atL_mem hr
      exact ⟨r, this.1, this.2.1, this.2.2, by simpa using h⟩
  · rintro ⟨r, h1, h2, h3, h4⟩
    rw [atL_uniq w h1 h2 h3, ← h4]; rfl
theorem protAt_ext {rs rs' : List Reg} (w : wfR rs) (w' : wfR rs') (a : Nat) (h : ∀ p, Cov rs a p ↔ Cov rs' a p) : protAt rs a = protAt rs' a := by
  apply Option.ext
  intro p
  rw [protAt_iff w, protAt_iff w', h]
theorem protAt_none {rs : List Reg} {a : Nat} : protAt rs a = none ↔ ∀ p, ¬ Cov rs a p := by
  unfold protAt Cov atL
  constructor
  · intro h p ⟨r, h1, h2, h3, _⟩
    have : rs.find? (inR a) = none := by simpa using h
    rw [List.find?_eq_none] at this
    exact this r h1 (by simp [inR, h2, h3])
  · intro h
    have : rs.find? (inR a) = none := by
      rw [List.find?_eq_none]
      intro r hr hi
      simp [inR] at hi
      exact h r.p ⟨r, hr, hi.1, hi.2, rfl⟩
    rw [this]; rfl
theorem wfR.nil : wfR [] := ⟨List.Pairwise.nil, fun _ h => by cases h⟩
theorem wo1_mem {s e : Nat} {r x : Reg} (h : x ∈ wo1 s e r) : r.s ≤ x.s ∧ x.e ≤ r.e ∧ x.p = r.p ∧ (r.s < r.e → s < e → x.s < x.e ∧ (x.e ≤ s ∨ e ≤ x.s)) ∧ (r.s % 4096 = 0 ∧ r.e % 4096 = 0 → s % 4096 = 0 → e % 4096 = 0 → x.s % 4096 = 0 ∧ x.e % 4096 = 0) := by
  unfold wo1 at h
  split at h
  · simp at h; subst h; grind
  · rename_i q
    rcases List.mem_append.1 h with h | h
    · split at h
      · simp at h; subst h; refine ⟨Nat.le_refl _, by show s ≤ r.e; omega, rfl, fun _ _ => ⟨by assumption, .inl (Nat.le_refl _)⟩, fun a b c => ⟨a.1, b⟩⟩
      · cases h
    · split at h
      · simp at h; subst h; refine ⟨by show r.s ≤ e; omega, Nat.le_refl _, rfl, fun _ _ => ⟨by assumption, .inr (Nat.le_refl _)⟩, fun a b c => ⟨c, a.2⟩⟩
      · cases h
theorem wo1_pair {s e : Nat} (hse : s < e) (r : Reg) : (wo1 s e r).Pairwise fun a b => a.e ≤ b.s := by
  unfold wo1
  split
  · simp
  · split <;> split <;> simp <;> omega
theorem woL_wf {s e : Nat} {rs : List Reg} (w : wfR rs) (h1 : s % 4096 = 0) (h2 : e % 4096 = 0) (h3 : s < e) : wfR (woL s e rs) ∧ ∀ x ∈ woL s e rs, x.e ≤ s ∨ e ≤ x.s := by
  have hm : ∀ x ∈ woL s e rs, ∃ r ∈ rs, x ∈ wo1 s e r := fun x hx => by simpa [woL] using hx
  refine ⟨⟨?_, fun x hx => ?_⟩, fun x hx => ?_⟩
  · unfold woL
    rw [List.pairwise_flatMap]
    refine ⟨fun r _ => wo1_pair h3 r, w.ord.imp fun {a b} hab x hx y hy => ?_⟩
    have := wo1_mem hx; have := wo1_mem hy; omega
  · obtain ⟨r, hr, hx⟩ := hm x hx
    have h4 := w.each r hr
    have h5 := wo1_mem hx
    have h6 := h5.2.2.2.1 h4.2.2.1 h3
    have h7 := h5.2.2.2.2 ⟨h4.1, h4.2.1⟩ h1 h2
    exact ⟨h7.1, h7.2, h6.1, by omega, by rw [h5.2.2.1]; exact h4.2.2.2.2⟩
  · obtain ⟨r, hr, hx⟩ := hm x hx
    exact ((wo1_mem hx).2.2.2.1 (w.each r hr).2.2.1 h3).2
theorem wo1_cov {s e a : Nat} (h3 : s < e) {r : Reg} (hr : r.s ≤ a ∧ a < r.e) (ha : ¬ (s ≤ a ∧ a < e)) : ∃ x ∈ wo1 s e r, x.s ≤ a ∧ a < x.e := by
  unfold wo1
  split
  · exact ⟨r, by simp, hr⟩
  · rcases Nat.lt_or_ge a s with q | q
    · exact ⟨⟨r.s, s, r.p⟩, by rw [if_pos (by omega)]; simp, by show r.s ≤ a ∧ a < s; omega⟩
    · exact ⟨⟨e, r.e, r.p⟩, by rw [if_pos (show e < r.e by omega)]; simp, by show e ≤ a ∧ a < r.e; omega⟩
theorem woL_cov {s e : Nat} {rs : List Reg} (w : wfR rs) (h1 : s % 4096 = 0) (h2 : e % 4096 = 0) (h3 : s < e) (a p : Nat) : Cov (woL s e rs) a p ↔ Cov rs a p ∧ ¬ (s ≤ a ∧ a < e) := by
  constructor
  · rintro ⟨x, hx, h4, h5, h6⟩
    obtain ⟨r, hr, hx'⟩ : ∃ r ∈ rs, x ∈ wo1 s e r := by simpa [woL] using hx
    have h7 := wo1_mem hx'
    have := (woL_wf w h1 h2 h3).2 x hx
    exact ⟨⟨r, hr, by omega, by omega, by rw [← h7.2.2.1]; exact h6⟩, by omega⟩
  · rintro ⟨⟨r, hr, h4, h5, h6⟩, hn⟩
    obtain ⟨x, hx, h7⟩ := wo1_cov h3 ⟨h4, h5⟩ hn
    exact ⟨x, by simp only [woL, List.mem_flatMap]; exact ⟨r, hr, hx⟩, h7.1, h7.2, by rw [(wo1_mem hx).2.2.1]; exact h6⟩
theorem wiL_wf {rs : List Reg} (r : Reg) (w : wfR rs) (h1 : r.s % 4096 = 0) (h2 : r.e % 4096 = 0) (h3 : r.s < r.e) (h4 : r.e ≤ 274877906944) (h5 : r.p ≤ 7) : wfR (wiL rs r) := by
  obtain ⟨w1, w2⟩ := woL_wf w h1 h2 h3
  obtain ⟨xs, hxs⟩ : ∃ xs, xs = woL r.s r.e rs := ⟨_, rfl⟩
  rw [← hxs] at w1 w2
  obtain ⟨k, hk⟩ : ∃ k, k = insAt xs r := ⟨_, rfl⟩
  have hlt : ∀ x ∈ xs.take k, x.e ≤ r.s := by
    intro x hx
    obtain ⟨i, hi, rfl⟩ := List.mem_iff_getElem.1 hx
    rw [List.length_take] at hi
    have hi2 : i < xs.findIdx fun x => decide (r.s < x.s) := by rw [hk] at hi; unfold insAt at hi; omega
    have h6 := List.not_of_lt_findIdx hi2
    rw [List.getElem_take]
    have h7 := w2 xs[i] (List.getElem_mem _)
    simp at h6
    omega
  have hge : ∀ x ∈ xs.drop k, r.e ≤ x.s := by
    intro x hx
    obtain ⟨i, hi, rfl⟩ := List.mem_iff_getElem.1 hx
    rw [List.length_drop] at hi
    rw [List.getElem_drop]
    have h7 := w2 xs[k + i] (List.getElem_mem _)
    have hk2 : k < xs.length := by omega
    have h8 : r.s < xs[k].s := by
      have := List.findIdx_getElem (p := fun x => decide (r.s < x.s)) (xs := xs) (w := by rw [hk] at hk2; exact hk2)
      simp only [insAt] at hk
      subst hk
      exact of_decide_eq_true this
    rcases Nat.eq_zero_or_pos i with q | q
    · subst q; simp only [Nat.add_zero] at h7 ⊢; have := w1.each xs[k] (List.getElem_mem _); omega
    · have h9 := List.pairwise_iff_getElem.1 w1.ord k (k + i) hk2 (by omega) (by omega)
      have := w1.each xs[k] (List.getElem_mem _)
      have := w2 xs[k] (List.getElem_mem _); omega
  have hwi : wiL rs r = xs.take k ++ [r] ++ xs.drop k := by unfold wiL; rw [hk, hxs]
  rw [hwi]
  refine ⟨?_, fun x hx => ?_⟩
  · rw [List.append_assoc, List.pairwise_append]
    refine ⟨w1.ord.sublist (List.take_sublist _ _), ?_, fun a ha b hb => ?_⟩
    · rw [List.pairwise_append]
      exact ⟨List.pairwise_singleton _ _, w1.ord.sublist (List.drop_sublist _ _), fun a ha b hb => by simp at ha; subst ha; exact hge b hb⟩
    · have h6 := hlt a ha
      rcases List.mem_append.1 hb with q | q
      · simp at q; subst q; exact h6
      · have := hge b q; omega
  · simp only [List.mem_append, List.mem_singleton] at hx
    rcases hx with (hx | hx) | hx
    · exact w1.each x (List.mem_of_mem_take hx)
    · subst hx; exact ⟨h1, h2, h3, h4, h5⟩
    · exact w1.each x (List.mem_of_mem_drop hx)
theorem wiL_mem {rs : List Reg} {r x : Reg} : x ∈ wiL rs r ↔ x = r ∨ x ∈ woL r.s r.e rs := by
  unfold wiL
  have := List.take_append_drop (insAt (woL r.s r.e rs) r) (woL r.s r.e rs)
  constructor
  · intro h
    simp only [List.mem_append, List.mem_singleton] at h
    rcases h with (h | h) | h
    · exact .inr (List.mem_of_mem_take h)
    · exact .inl h
    · exact .inr (List.mem_of_mem_drop h)
  · intro h
    simp only [List.mem_append, List.mem_singleton]
    rcases h with h | h
    · exact .inl (.inr h)
    · rw [← this] at h
      rcases List.mem_append.1 h with h | h
      · exact .inl (.inl h)
      · exact .inr h
theorem wiL_cov {rs : List Reg} (r : Reg) (w : wfR rs) (h1 : r.s % 4096 = 0) (h2 : r.e % 4096 = 0) (h3 : r.s < r.e) (a p : Nat) : Cov (wiL rs r) a p ↔ if r.s ≤ a ∧ a < r.e then p = r.p else Cov rs a p := by
  have hw := woL_cov w h1 h2 h3 a p
  constructor
  · rintro ⟨x, hx, h4, h5, h6⟩
    rcases wiL_mem.1 hx with q | q
    · subst q; rw [if_pos ⟨h4, h5⟩]; exact h6.symm
    · have := hw.1 ⟨x, q, h4, h5, h6⟩
      rw [if_neg this.2]; exact this.1
  · intro h
    split at h
    · rename_i q; exact ⟨r, wiL_mem.2 (.inl rfl), q.1, q.2, h.symm⟩
    · rename_i q
      obtain ⟨x, hx, h4⟩ := hw.2 ⟨h, q⟩
      exact ⟨x, wiL_mem.2 (.inr hx), h4⟩
theorem jo_fold : ∀ (rs out : List Reg), wfR (out ++ rs) → wfR (rs.foldl jo1 out) ∧ (∀ a p, Cov (rs.foldl jo1 out) a p ↔ Cov (out ++ rs) a p) ∧ pagesL (rs.foldl jo1 out) = pagesL (out ++ rs)
  | [], out, w => by simpa using w
  | r :: rs, out, w => by
    rw [List.foldl_cons]
    have key : wfR (jo1 out r ++ rs) ∧ (∀ a p, Cov (jo1 out r ++ rs) a p ↔ Cov (out ++ r :: rs) a p) ∧ pagesL (jo1 out r ++ rs) = pagesL (out ++ r :: rs) := by
      rcases List.eq_nil_or_concat out with hn | ⟨o, q, hn⟩
      · subst hn; exact ⟨w, fun _ _ => Iff.rfl, rfl⟩
      · rw [List.concat_eq_append] at hn
        subst hn
        by_cases hj : q.e = r.s ∧ q.p = r.p
        · have e1 : jo1 (o ++ [q]) r = o ++ [⟨q.s, r.e, q.p⟩] := by simp [jo1, hj.1, hj.2]
          rw [e1]
          have wo := List.pairwise_append.1 w.ord
          have hqe := w.each q (by simp)
          have hre := w.each r (by simp)
          refine ⟨⟨?_, fun x hx => ?_⟩, fun a p => ?_, ?_⟩
          · have wo2 := List.pairwise_cons.1 wo.2.1
            have wo1 := List.pairwise_append.1 wo.1
            refine List.pairwise_append.2 ⟨List.pairwise_append.2 ⟨wo1.1, List.pairwise_singleton _ _, fun x hx y hy => ?_⟩, wo2.2, fun x hx y hy => ?_⟩
            · simp at hy; subst hy; exact wo1.2.2 x hx q (by simp)
            · rcases List.mem_append.1 hx with z | z
              · exact wo.2.2 x (by simp [z]) y (by simp [hy])
              · simp at z; subst z; exact wo2.1 y hy
          · simp only [List.mem_append, List.mem_singleton] at hx
            rcases hx with (hx | hx) | hx
            · exact w.each x (by simp [hx])
            · subst hx; exact ⟨hqe.1, hre.2.1, by show q.s < r.e; omega, hre.2.2.2.1, hqe.2.2.2.2⟩
            · exact w.each x (by simp [hx])
          · constructor
            · rintro ⟨x, hx, h4, h5, h6⟩
              simp only [List.mem_append, List.mem_singleton] at hx
              rcases hx with (hx | hx) | hx
              · exact ⟨x, by simp [hx], h4, h5, h6⟩
              · subst hx
                simp only at h4 h5 h6
                rcases Nat.lt_or_ge a q.e with z | z
                · exact ⟨q, by simp, h4, z, h6⟩
                · exact ⟨r, by simp, by omega, h5, by rw [← hj.2]; exact h6⟩
              · exact ⟨x, by simp [hx], h4, h5, h6⟩
            · rintro ⟨x, hx, h4, h5, h6⟩
              simp only [List.mem_append, List.mem_cons, List.not_mem_nil, or_false] at hx
              rcases hx with (hx | hx) | (hx | hx)
              · exact ⟨x, by simp [hx], h4, h5, h6⟩
              · subst hx; exact ⟨⟨x.s, r.e, x.p⟩, by simp, h4, by show a < r.e; omega, h6⟩
              · subst hx; exact ⟨⟨q.s, x.e, q.p⟩, by simp, by show q.s ≤ a; omega, h5, by rw [← h6, ← hj.2]⟩
              · exact ⟨x, by simp [hx], h4, h5, h6⟩
          · simp only [pagesL, List.map_append, List.sum_append, List.map_cons, List.map_nil, List.sum_cons, List.sum_nil]
            omega
        · have e1 : jo1 (o ++ [q]) r = o ++ [q] ++ [r] := by simp [jo1]; intro h1 h2; exact absurd ⟨h1, h2⟩ hj
          rw [e1, List.append_assoc (o ++ [q])]
          exact ⟨w, fun _ _ => Iff.rfl, rfl⟩
    obtain ⟨k1, k2, k3⟩ := key
    obtain ⟨f1, f2, f3⟩ := jo_fold rs (jo1 out r) k1
    exact ⟨f1, fun a p => (f2 a p).trans (k2 a p), f3.trans k3⟩
theorem joL_wf {rs : List Reg} (w : wfR rs) : wfR (joL rs) := (jo_fold rs [] w).1
theorem joL_cov {rs : List Reg} (w : wfR rs) (a p : Nat) : Cov (joL rs) a p ↔ Cov rs a p := (jo_fold rs [] w).2.1 a p
theorem joL_pages {rs : List Reg} (w : wfR rs) : pagesL (joL rs) = pagesL rs := (jo_fold rs [] w).2.2
theorem spanB_iff {s e : Nat} : spanB s e = true ↔ s % 4096 = 0 ∧ e % 4096 = 0 ∧ s < e ∧ e ≤ 274877906944 := by simp [spanB]
/-- what is mapped where, behind a Map. -/
theorem mapped_at {rs : List Reg} (r : Reg) (w : wfR rs) (hs : spanB r.s r.e = true) (h5 : r.p ≤ 7) : wfR (joL (wiL rs r)) ∧ ∀ a, protAt (joL (wiL rs r)) a = if r.s ≤ a ∧ a < r.e then some r.p else protAt rs a := by
  obtain ⟨h1, h2, h3, h4⟩ := spanB_iff.1 hs
  have w1 := wiL_wf r w h1 h2 h3 h4 h5
  have w2 := joL_wf w1
  refine ⟨w2, fun a => ?_⟩
  apply Option.ext
  intro p
  rw [protAt_iff w2, joL_cov w1, wiL_cov r w h1 h2 h3]
  split
  · simp [eq_comm]
  · rw [protAt_iff w]
theorem unmapped_at {rs : List Reg} {s e : Nat} (w : wfR rs) (hs : spanB s e = true) : wfR (joL (woL s e rs)) ∧ ∀ a, protAt (joL (woL s e rs)) a = if s ≤ a ∧ a < e then none else protAt rs a := by
  obtain ⟨h1, h2, h3, h4⟩ := spanB_iff.1 hs
  have w1 := (woL_wf w h1 h2 h3).1
  have w2 := joL_wf w1
  refine ⟨w2, fun a => ?_⟩
  apply Option.ext
  intro p
  rw [protAt_iff w2, joL_cov w1, woL_cov w h1 h2 h3]
  split
  · rename_i q; simp [q]
  · rename_i q; rw [protAt_iff w]; simp [q]
end Go.SX
