/- Pages one behind the other, each with its own rights: plain laws. No program. -/
import Derived.Test.YtcnalkdgdbhedaaHeapPlain
import Derived.Test.YtcnalkdgdbhedaaRoomPlain
set_option linter.unusedVariables false
set_option linter.unusedSimpArgs false
namespace Go.SX
set_option maxRecDepth 100000
theorem woL_gone {s c : Nat} : ∀ {rs : List Reg}, (∀ q ∈ rs, s ≤ q.s ∧ q.e ≤ c ∧ q.s < q.e) → s < c → woL s c rs = []
  | [], _, _ => rfl
  | q :: rs, h, hs => by
    have h1 := woL_gone (s := s) (c := c) (fun x hx => h x (List.mem_cons_of_mem q hx)) hs
    have h2 := h q (List.mem_cons_self ..)
    rw [woL_c, h1, wo_all (by omega) (by omega) (by omega)]; rfl
theorem Chain.pos : ∀ (xs : List Reg) (a c : Nat), Chain a xs c → ∀ r ∈ xs, r.s < r.e
  | [], a, c, h, r, hr => by cases hr
  | x :: xs, a, c, h, r, hr => by
    rcases List.mem_cons.1 hr with rfl | q
    · exact h.1 ▸ h.2.1
    · exact Chain.pos xs _ _ h.2.2 r q
theorem Chain.cut {s c : Nat} : ∀ (rs : List Reg) (a : Nat), Chain a rs c → a ≤ s → s < c → Chain a (woL s c rs) s
  | [], a, h, h1, h2 => by simp only [Chain] at h; omega
  | r :: rs, a, h, h1, h2 => by
    have h3 := h.1; have h4 := h.2.1
    have h5 := Chain.le rs _ _ h.2.2
    rw [woL_c]
    by_cases q : r.e ≤ s
    · rw [wo_out (.inl q)]
      exact ⟨h3, h4, Chain.cut rs _ h.2.2 q h2⟩
    · have hg : woL s c rs = [] := woL_gone (fun x hx => by
        have := Chain.ge rs _ _ h.2.2 x hx
        have := Chain.pos rs _ _ h.2.2 x hx
        omega) h2
      rw [hg]
      by_cases q2 : a < s
      · rw [wo_left (by omega) (by omega) (by omega)]
        exact ⟨h3, by show r.s < s; omega, rfl⟩
      · rw [wo_all (by omega) (by omega) (by omega)]
        show a = s
        omega
theorem ins_end {r : Reg} : ∀ {rs : List Reg}, (∀ q ∈ rs, ¬ r.s < q.s) → insAt rs r = rs.length := by
  intro rs h
  unfold insAt
  rw [List.findIdx_eq_length]
  intro x hx
  exact decide_eq_false (h x hx)
theorem Chain.put {a s c p : Nat} {rs : List Reg} (h : Chain a (woL s c rs) s) (hs : s < c) : Chain a (joL (wiL rs ⟨s, c, p⟩)) c := by
  have hi : insAt (woL s c rs) ⟨s, c, p⟩ = (woL s c rs).length := ins_end fun q hq => by
    have := Chain.ge _ _ _ h q hq
    have := Chain.pos _ _ _ h q hq
    show ¬ s < q.s; omega
  have e : wiL rs ⟨s, c, p⟩ = woL s c rs ++ [⟨s, c, p⟩] := by
    show (woL s c rs).take (insAt (woL s c rs) ⟨s, c, p⟩) ++ [⟨s, c, p⟩] ++ (woL s c rs).drop (insAt (woL s c rs) ⟨s, c, p⟩) = _
    rw [hi, List.take_length, List.drop_length, List.append_nil]
  rw [e]
  refine Chain.jo _ [] _ _ ?_
  rw [List.nil_append, Chain.app]
  exact ⟨s, h, rfl, hs, rfl⟩
theorem Chain.add {a s c p : Nat} {rs : List Reg} (h : Chain a rs s) (hs : s < c) : Chain a (joL (wiL rs ⟨s, c, p⟩)) c := by
  refine Chain.put ?_ hs
  rw [woL_apart fun q hq => .inl (Chain.ge _ _ _ h q hq).2]
  exact h
theorem Chain.again {a s c p : Nat} {rs : List Reg} (h : Chain a rs c) (h1 : a ≤ s) (hs : s < c) : Chain a (joL (wiL rs ⟨s, c, p⟩)) c := Chain.put (Chain.cut rs a h h1 hs) hs
theorem Chain.len : ∀ (rs : List Reg) (a c : Nat), Chain a rs c → (∀ r ∈ rs, r.s % 4096 = 0 ∧ r.e % 4096 = 0) → rs.length * 4096 + a ≤ c
  | [], a, c, h, _ => by simp only [Chain] at h; simp; omega
  | r :: rs, a, c, h, hw => by
    have h1 := Chain.len rs _ _ h.2.2 fun x hx => hw x (List.mem_cons_of_mem _ hx)
    have h2 := hw r (List.mem_cons_self ..)
    have h4 := h.1; have h5 := h.2.1
    simp only [List.length_cons]; omega
/-- what a place's page may. -/
def keepP (ps : List Nat) (m y : Nat) : Option Nat := if 4096 ≤ y ∧ y < (m + 1) * 4096 then some (ps.getD (y / 4096 - 1) 0 % 8) else none
structure KeepR (rs : List Reg) (ps : List Nat) (m : Nat) : Prop where
  wf : wfR rs
  ch : Chain 4096 rs ((m + 1) * 4096)
  pr : ∀ y, protAt rs y = keepP ps m y
theorem wf_al {rs : List Reg} (w : wfR rs) : ∀ r ∈ rs, r.s % 4096 = 0 ∧ r.e % 4096 = 0 := fun r hr => ⟨(w.each r hr).1, (w.each r hr).2.1⟩
theorem chain_small {rs : List Reg} {m : Nat} (w : wfR rs) (h : Chain 4096 rs ((m + 1) * 4096)) (hm : m ≤ 6) : rs.length ≤ 6 ∧ pagesL rs ≤ 20 := by
  have h1 := Chain.len rs _ _ h (wf_al w)
  have h2 := Chain.pages rs _ _ h (wf_al w)
  omega
theorem keep_map {rs : List Reg} {ps : List Nat} {m : Nat} (k : KeepR rs ps m) (hm : m < 6) :
    ∃ rs1, rs1 = joL (wiL rs ⟨(m + 1) * 4096, (m + 2) * 4096, 7⟩) ∧ wfR rs1 ∧ Chain 4096 rs1 ((m + 2) * 4096) ∧ (∀ y, protAt rs1 y = if (m + 1) * 4096 ≤ y ∧ y < (m + 2) * 4096 then some 7 else keepP ps m y) := by
  have hs : spanB ((m + 1) * 4096) ((m + 2) * 4096) = true := spanB_iff.2 (by omega)
  obtain ⟨w1, w2⟩ := mapped_at ⟨(m + 1) * 4096, (m + 2) * 4096, 7⟩ k.wf hs (by show 7 ≤ 7; omega)
  refine ⟨_, rfl, w1, Chain.add k.ch (by omega), fun y => ?_⟩
  rw [w2, k.pr]
theorem keep_prot {rs1 : List Reg} {ps : List Nat} {m N N2 : Nat} (eN : N = (m + 1) * 4096) (eN2 : N2 = (m + 2) * 4096) (hm : m < 6) (hl : m < ps.length) (w : wfR rs1) (h : Chain 4096 rs1 N2) (hp : ∀ y, protAt rs1 y = if N ≤ y ∧ y < N2 then some 7 else keepP ps m y) :
    KeepR (joL (wiL rs1 ⟨N, N2, ps[m] % 8⟩)) ps (m + 1) := by
  have hs : spanB N N2 = true := spanB_iff.2 (by omega)
  obtain ⟨w1, w2⟩ := mapped_at ⟨N, N2, ps[m] % 8⟩ w hs (by show ps[m] % 8 ≤ 7; omega)
  have e3 : (m + 1 + 1) * 4096 = N2 := by omega
  have hd : ps.getD m 0 = ps[m] := by rw [List.getD_eq_getElem?_getD, List.getElem?_eq_getElem hl]; rfl
  refine ⟨w1, by rw [e3]; exact Chain.again h (by omega) (by omega), fun y => ?_⟩
  have hy := hp y
  have hq : N ≤ y ∧ y < N2 → y / 4096 - 1 = m := by omega
  unfold keepP at hy ⊢
  rw [w2 y, hy, e3, ← eN]
  clear hp w2 hy w1 h w hs
  have hN : 4096 ≤ N := by omega
  have hN2 : N ≤ N2 := by omega
  clear eN eN2 e3
  by_cases q : N ≤ y ∧ y < N2
  · have q1 : 4096 ≤ y ∧ y < N2 := by omega
    simp only [q, q1, and_self, if_true, hq q, hd]
  · simp only [q, if_false]
    by_cases q2 : 4096 ≤ y ∧ y < N
    · have q1 : 4096 ≤ y ∧ y < N2 := by omega
      simp only [q2, q1, and_self, if_true]
    · have q1 : ¬ (4096 ≤ y ∧ y < N2) := by omega
      simp only [q2, q1, if_false]
theorem okAt_iff {rs : List Reg} {p y : Nat} : okAt rs p y ↔ ∃ q, protAt rs y = some q ∧ q &&& p = p := by
  unfold okAt protAt
  cases atL rs y with
  | none => simp
  | some r => simp
theorem bit_of_u8 : ∀ x : Fin 256, (bitI .and .u8 ((x.val : Nat) : Int) 1 = ((x.val &&& 1 : Nat) : Int)) ∧ (bitI .and .u8 ((x.val : Nat) : Int) 2 = ((x.val &&& 2 : Nat) : Int)) ∧ ((x.val % 8 &&& 1 = 1) ↔ x.val &&& 1 ≠ 0) ∧ ((x.val % 8 &&& 2 = 2) ↔ x.val &&& 2 ≠ 0) := by decide +kernel
end Go.SX
