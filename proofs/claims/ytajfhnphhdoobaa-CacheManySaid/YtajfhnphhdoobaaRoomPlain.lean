/- Mappings one below the other: plain laws. No program. -/
import Derived.Test.YtajfhnphhdoobaaMemSp
set_option linter.unusedVariables false
set_option linter.unusedSimpArgs false
namespace Go.SX
/-- regions one behind the other, from 'a' to 'c'. -/
def Chain : Nat → List Reg → Nat → Prop
  | a, [], c => a = c
  | a, r :: rs, c => r.s = a ∧ r.s < r.e ∧ Chain r.e rs c
theorem Chain.app : ∀ (xs ys : List Reg) (a c : Nat), Chain a (xs ++ ys) c ↔ ∃ b, Chain a xs b ∧ Chain b ys c
  | [], ys, a, c => ⟨fun h => ⟨a, rfl, h⟩, fun ⟨b, h1, h2⟩ => by simp only [Chain] at h1; subst h1; exact h2⟩
  | x :: xs, ys, a, c => by
    simp only [List.cons_append, Chain]
    rw [Chain.app xs ys x.e c]
    constructor
    · rintro ⟨h1, h2, b, h3, h4⟩; exact ⟨b, ⟨h1, h2, h3⟩, h4⟩
    · rintro ⟨b, ⟨h1, h2, h3⟩, h4⟩; exact ⟨h1, h2, b, h3, h4⟩
theorem Chain.le : ∀ (xs : List Reg) (a c : Nat), Chain a xs c → a ≤ c
  | [], a, c, h => Nat.le_of_eq h
  | x :: xs, a, c, h => by have := Chain.le xs _ _ h.2.2; have := h.1; have := h.2.1; omega
theorem Chain.ge : ∀ (xs : List Reg) (a c : Nat), Chain a xs c → ∀ r ∈ xs, a ≤ r.s ∧ r.e ≤ c
  | [], a, c, h, r, hr => by cases hr
  | x :: xs, a, c, h, r, hr => by
    have h1 := h.1; have h2 := h.2.1; have h3 := Chain.le xs _ _ h.2.2
    rcases List.mem_cons.1 hr with rfl | q
    · omega
    · have := Chain.ge xs _ _ h.2.2 r q; omega
theorem Chain.jo : ∀ (rs out : List Reg) (a c : Nat), Chain a (out ++ rs) c → Chain a (rs.foldl jo1 out) c
  | [], out, a, c, h => by simpa using h
  | r :: rs, out, a, c, h => by
    rw [List.foldl_cons]
    apply Chain.jo rs
    rcases List.eq_nil_or_concat out with hn | ⟨o, q, hn⟩
    · subst hn; exact h
    · rw [List.concat_eq_append] at hn
      subst hn
      by_cases hj : q.e = r.s ∧ q.p = r.p
      · have e1 : jo1 (o ++ [q]) r = o ++ [⟨q.s, r.e, q.p⟩] := by simp [jo1, hj.1, hj.2]
        rw [e1]
        rw [Chain.app] at h ⊢
        obtain ⟨b, h1, h2⟩ := h
        rw [Chain.app] at h1
        obtain ⟨b2, h3, h4⟩ := h1
        simp only [Chain] at h2 h4
        refine ⟨r.e, ?_, h2.2.2⟩
        rw [Chain.app]
        exact ⟨b2, h3, h4.1, by show q.s < r.e; omega, rfl⟩
      · have e1 : jo1 (o ++ [q]) r = o ++ [q] ++ [r] := by simp [jo1]; intro h1 h2; exact absurd ⟨h1, h2⟩ hj
        rw [e1, List.append_assoc (o ++ [q])]
        exact h
theorem Chain.room {low n : Nat} (hn : 1 ≤ n) (hl : 4096 + n ≤ low) : ∀ (ys : List Reg) (top : Nat), Chain low ys.reverse top → roomL ys top n = some (low - n)
  | [], top, h => by
    simp only [List.reverse_nil, Chain] at h
    subst h
    simp only [roomL]
    rw [if_pos (by omega)]
  | r :: ys, top, h => by
    rw [List.reverse_cons, Chain.app] at h
    obtain ⟨b, h1, h2⟩ := h
    simp only [Chain] at h2
    simp only [roomL]
    rw [if_neg (by omega), show min top r.s = r.s by omega]
    rw [← h2.1] at h1
    exact Chain.room hn hl ys r.s h1
set_option maxRecDepth 100000
theorem Chain.pages : ∀ (rs : List Reg) (a c : Nat), Chain a rs c → (∀ r ∈ rs, r.s % 4096 = 0 ∧ r.e % 4096 = 0) → pagesL rs * 4096 = c - a
  | [], a, c, h, _ => by simp only [Chain] at h; subst h; simp [pagesL]
  | r :: rs, a, c, h, hw => by
    have h1 := Chain.pages rs _ _ h.2.2 fun x hx => hw x (List.mem_cons_of_mem _ hx)
    have h2 := hw r (List.mem_cons_self ..)
    have h3 := Chain.le rs _ _ h.2.2
    have h4 := h.1; have h5 := h.2.1
    simp only [pagesL, List.map_cons, List.sum_cons] at h1 ⊢
    omega
theorem woL_self {s e : Nat} {rs : List Reg} (h : ∀ r ∈ rs, r.e ≤ s ∨ e ≤ r.s) : woL s e rs = rs := by
  unfold woL
  induction rs with
  | nil => rfl
  | cons r rs ih =>
    rw [List.flatMap_cons, ih fun x hx => h x (List.mem_cons_of_mem _ hx)]
    have : wo1 s e r = [r] := if_pos (h r (List.mem_cons_self ..))
    rw [this]; rfl
theorem Chain.with {low top b p : Nat} {rs : List Reg} (h : Chain low rs top) (hb : b < low) : wiL rs ⟨b, low, p⟩ = ⟨b, low, p⟩ :: rs ∧ Chain b (⟨b, low, p⟩ :: rs) top := by
  have hg := Chain.ge rs low top h
  have h1 : woL b low rs = rs := woL_self fun r hr => .inr (hg r hr).1
  refine ⟨?_, rfl, hb, h⟩
  unfold wiL
  rw [h1]
  have h2 : insAt rs ⟨b, low, p⟩ = 0 := by
    unfold insAt
    cases rs with
    | nil => rfl
    | cons r rs =>
      have := (hg r (List.mem_cons_self ..)).1
      rw [List.findIdx_cons]
      have hd : decide ((⟨b, low, p⟩ : Reg).s < r.s) = true := decide_eq_true (by show b < r.s; omega)
      rw [hd]; rfl
  rw [h2]; rfl
/-- one mapping more below. -/
theorem rooms_step {rs : List Reg} {low n p i : Nat} (w : wfR rs) (h : Chain low rs 274877833216) (hlow : 200000000000 ≤ low) (ha : low % 4096 = 0) (hl : rs.length ≤ i) (n0 : n ≠ 0) (n1 : n < 65536) (hp : p ≤ 7) :
    whereO rs 0 n = some (low - upN n) ∧ spanO (low - upN n) n = some (low - upN n + upN n) ∧ low - upN n + upN n = low ∧ Chain (low - upN n) (joL (wiL rs ⟨low - upN n, low, p⟩)) 274877833216 ∧
    (joL (wiL rs ⟨low - upN n, low, p⟩)).length ≤ i + 1 ∧ pagesL (joL (wiL rs ⟨low - upN n, low, p⟩)) = pagesL rs + upN n / 4096 ∧ (low - upN n) % 4096 = 0 := by
  have hu : upN n % 4096 = 0 ∧ 4096 ≤ upN n ∧ upN n ≤ 65536 := by unfold upN; omega
  have hle := Chain.le _ _ _ h
  have hw : whereO rs 0 n = roomO rs n := by
    unfold whereO
    split
    · rw [if_neg (by simp)]
    · rfl
  have hr : roomO rs n = some (low - upN n) := by
    unfold roomO
    rw [upP_upN n0]
    exact Chain.room (by omega) (by omega) rs.reverse _ (by rw [List.reverse_reverse]; exact h)
  obtain ⟨h1, h2⟩ := Chain.with (b := low - upN n) (p := p) h (by omega)
  rw [h1]
  have hww : wfR (⟨low - upN n, low, p⟩ :: rs) := by
    rw [← h1]
    exact wiL_wf _ w (by show (low - upN n) % 4096 = 0; omega) ha (by show low - upN n < low; omega) (by show low ≤ _; omega) hp
  refine ⟨by rw [hw, hr], ?_, by omega, Chain.jo _ [] _ _ h2, ?_, ?_, by omega⟩
  · unfold spanO
    rw [if_pos (by omega)]
  · have := joL_len (⟨low - upN n, low, p⟩ :: rs)
    simp only [List.length_cons] at this; omega
  · rw [joL_pages hww]
    simp only [pagesL, List.map_cons, List.sum_cons]
    omega
end Go.SX
