/- Lists of regions: what is left without a span, what joins, what a list with one more is; plain laws. No program. Lists of regions: what is mapped where; plain laws. No program. Stores of pages: what they are made of; plain laws of bytes. No program. Spaces: what they are made of; plain laws. No program. Mappings one below the other: plain laws. No program. A heap below one mapping: plain laws. No program. Pages one behind the other, each with its own rights: plain laws. No program. Pages one behind the other, each with its own rights, laid at once: plain laws. No program. -/
import Derived.Test.YtajfhnphhdoobaaGreatSxP
set_option linter.unusedVariables false
set_option linter.unusedSimpArgs false
namespace Go.SX
structure Reg where
  s : Nat
  e : Nat
  p : Nat
deriving DecidableEq
def encR (r : Reg) : List Value := [.int .u64 r.s, .int .u64 r.e, .int .i64 r.p]
theorem encR_len (r : Reg) : (encR r).length = 3 := rfl
theorem encR_one (r : Reg) : (encR r).all one = true := rfl
def wo1 (s e : Nat) (r : Reg) : List Reg := if r.e ≤ s ∨ e ≤ r.s then [r] else (if r.s < s then [⟨r.s, s, r.p⟩] else []) ++ (if e < r.e then [⟨e, r.e, r.p⟩] else [])
def woL (s e : Nat) (rs : List Reg) : List Reg := rs.flatMap (wo1 s e)
def jo1 (out : List Reg) (r : Reg) : List Reg :=
  match out.getLast? with
  | some q => if q.e = r.s ∧ q.p = r.p then out.dropLast ++ [⟨q.s, r.e, q.p⟩] else out ++ [r]
  | none => out ++ [r]
def joL (rs : List Reg) : List Reg := rs.foldl jo1 []
def insAt (rs : List Reg) (r : Reg) : Nat := rs.findIdx fun x => decide (r.s < x.s)
def wiL (rs : List Reg) (r : Reg) : List Reg := (woL r.s r.e rs).take (insAt (woL r.s r.e rs) r) ++ [r] ++ (woL r.s r.e rs).drop (insAt (woL r.s r.e rs) r)
theorem woL_snoc (s e : Nat) (rs : List Reg) (r : Reg) : woL s e (rs ++ [r]) = woL s e rs ++ wo1 s e r := by simp [woL]
theorem take_snoc {α : Type} (xs : List α) (i : Nat) (h : i < xs.length) : xs.take (i + 1) = xs.take i ++ [xs[i]] := by rw [List.take_succ_eq_append_getElem h]
theorem wo1_len (s e : Nat) (r : Reg) : (wo1 s e r).length ≤ 2 := by unfold wo1; repeat' split <;> simp
theorem woL_len (s e : Nat) (rs : List Reg) : (woL s e rs).length ≤ 2 * rs.length := by
  induction rs with
  | nil => simp [woL]
  | cons r rs ih => have := wo1_len s e r; simp only [woL, List.flatMap_cons, List.length_append, List.length_cons] at *; omega
theorem joL_snoc (rs : List Reg) (r : Reg) : joL (rs ++ [r]) = jo1 (joL rs) r := by simp [joL]
theorem jo1_len (out : List Reg) (r : Reg) : (jo1 out r).length ≤ out.length + 1 := by
  unfold jo1; split
  · split
    · simp only [List.length_append, List.length_dropLast, List.length_cons, List.length_nil]; omega
    · simp
  · simp
theorem joL_len (rs : List Reg) : (joL rs).length ≤ rs.length := by
  suffices h : ∀ (rs out : List Reg), (rs.foldl jo1 out).length ≤ out.length + rs.length by simpa [joL] using h rs []
  intro rs
  induction rs with
  | nil => simp
  | cons r rs ih => intro out; have := ih (jo1 out r); have := jo1_len out r; simp only [List.foldl_cons, List.length_cons]; omega
/-- the place of the first that is so; -1: there is none. -/
def idxOf (p : Reg → Bool) (rs : List Reg) : Int := if rs.findIdx p < rs.length then (rs.findIdx p : Int) else -1
theorem idxOf_hit {p : Reg → Bool} {rs : List Reg} {i : Nat} (hi : i < rs.length) (h : p rs[i] = true) (hb : ∀ j (hj : j < i), p (rs[j]'(by omega)) = false) : idxOf p rs = i := by
  have e : rs.findIdx p = i := (List.findIdx_eq hi).2 ⟨h, fun j hj => by simpa using hb j hj⟩
  unfold idxOf; rw [e, if_pos hi]
theorem idxOf_none {p : Reg → Bool} {rs : List Reg} (hb : ∀ j (hj : j < rs.length), p rs[j] = false) : idxOf p rs = -1 := by
  have e : rs.findIdx p = rs.length := List.findIdx_eq_length.2 fun x hx => by
    obtain ⟨j, hj, rfl⟩ := List.getElem_of_mem hx; exact hb j hj
  unfold idxOf; rw [e, if_neg (by omega)]
theorem idxOf_get {p : Reg → Bool} {rs : List Reg} {i : Nat} (h : idxOf p rs = i) : ∃ hi : i < rs.length, rs.find? p = some rs[i] := by
  unfold idxOf at h
  split at h
  · rename_i hl
    have e : rs.findIdx p = i := by omega
    subst e
    exact ⟨hl, by rw [List.find?_eq_getElem?_findIdx, List.getElem?_eq_getElem hl]⟩
  · omega
theorem idxOf_neg {p : Reg → Bool} {rs : List Reg} (h : idxOf p rs < 0) : rs.find? p = none := by
  unfold idxOf at h
  split at h
  · omega
  · rename_i hl
    rw [List.find?_eq_getElem?_findIdx, List.getElem?_eq_none (by omega)]
def spanB (s e : Nat) : Bool := decide (s % 4096 = 0 ∧ e % 4096 = 0 ∧ s < e ∧ e ≤ 274877906944)
def pagesL (rs : List Reg) : Nat := (rs.map fun r => (r.e - r.s) / 4096).sum
def inR (a : Nat) (r : Reg) : Bool := decide (r.s ≤ a ∧ a < r.e)
def atL (rs : List Reg) (a : Nat) : Option Reg := rs.find? (inR a)
structure wfR (rs : List Reg) : Prop where
  ord : rs.Pairwise fun a b => a.e ≤ b.s
  each : ∀ r ∈ rs, r.s % 4096 = 0 ∧ r.e % 4096 = 0 ∧ r.s < r.e ∧ r.e ≤ 274877906944 ∧ r.p ≤ 7
theorem atL_mem {rs : List Reg} {a : Nat} {r : Reg} (h : atL rs a = some r) : r ∈ rs ∧ r.s ≤ a ∧ a < r.e := by
  unfold atL at h
  have h1 := List.find?_some h
  have h2 := List.mem_of_find?_eq_some h
  simp [inR] at h1
  exact ⟨h2, h1⟩
theorem atL_uniq {rs : List Reg} (w : wfR rs) {a : Nat} {r : Reg} (hr : r ∈ rs) (h1 : r.s ≤ a) (h2 : a < r.e) : atL rs a = some r := by
  obtain ⟨w1, w2⟩ := w
  unfold atL
  induction rs with
  | nil => cases hr
  | cons x xs ih =>
    rw [List.find?_cons]
    have hx := List.pairwise_cons.1 w1
    rcases List.mem_cons.1 hr with rfl | hm
    · have : inR a r = true := by simp [inR, h1, h2]
      rw [this]
    · have := hx.1 r hm
      have hn : inR a x = false := by simp [inR]; omega
      rw [hn]
      exact ih hm hx.2 fun r hr => w2 r (List.mem_cons_of_mem _ hr)
def okAt (rs : List Reg) (prot a : Nat) : Prop := ∃ r, atL rs a = some r ∧ r.p &&& prot = prot
theorem bitI_and_i64 (a b : Nat) (ha : a < 9223372036854775808) (hb : b < 9223372036854775808) : bitI .and .i64 (a : Int) (b : Int) = ((a &&& b : Nat) : Int) := by
  have h1 : BitVec.ofInt 64 (a : Int) = BitVec.ofNat 64 a := by simp
  have h2 : BitVec.ofInt 64 (b : Int) = BitVec.ofNat 64 b := by simp
  show IntKind.i64.wrap ((((BitVec.ofInt 64 (a : Int)) &&& (BitVec.ofInt 64 (b : Int))).toNat : Nat) : Int) = _
  rw [h1, h2]
  have h3 : (BitVec.ofNat 64 a &&& BitVec.ofNat 64 b).toNat = a &&& b := by
    simp [BitVec.toNat_and, Nat.mod_eq_of_lt (show a < 18446744073709551616 by omega), Nat.mod_eq_of_lt (show b < 18446744073709551616 by omega)]
  rw [h3]
  have h4 : a &&& b ≤ a := Nat.and_le_left
  exact wr_i64 _ (by omega) (by omega)
def atV : Option Reg → Value
  | some r => .tuple #[.agg #[.int .u64 r.s, .int .u64 r.e, .int .i64 r.p], .bool true]
  | none => .tuple #[.agg #[.int .u64 0, .int .u64 0, .int .i64 0], .bool false]
def placeV : Option Nat → Value
  | some a => .tuple #[.int .u64 a, .bool true]
  | none => .tuple #[.int .u64 0, .bool false]
theorem idxOf_ins (p : Reg → Bool) (rs : List Reg) : (idxOf p rs < 0 ∧ rs.findIdx p = rs.length) ∨ (¬ idxOf p rs < 0 ∧ idxOf p rs = (rs.findIdx p : Nat) ∧ rs.findIdx p < rs.length) := by
  have h1 := List.findIdx_le_length (p := p) (xs := rs)
  unfold idxOf
  split <;> omega
/-- the greatest place where there is some; the regions from the last to the first. -/
def roomL : List Reg → Nat → Nat → Option Nat
  | [], e, n => if 4096 ≤ e ∧ n ≤ e - 4096 then some (e - n) else none
  | r :: rs, e, n => if r.e ≤ e ∧ n ≤ e - r.e then some (e - n) else roomL rs (min e r.s) n
def upP (n : Nat) : Nat := max ((n + 4095) / 4096) 1 * 4096
theorem min_int (a b : Nat) : (if (b : Int) < a then (b : Int) else a) = ((min a b : Nat) : Int) := by split <;> omega
theorem max_int (a b : Nat) : (if (a : Int) < b then (b : Int) else a) = ((max a b : Nat) : Int) := by split <;> omega
end Go.SX
namespace Go.SX
def protAt (rs : List Reg) (a : Nat) : Option Nat := (atL rs a).map (·.p)
/-- is a place in a list's region of permission 'p'? -/
def Cov (rs : List Reg) (a p : Nat) : Prop := ∃ r ∈ rs, r.s ≤ a ∧ a < r.e ∧ r.p = p
theorem protAt_iff {rs : List Reg} (w : wfR rs) (a p : Nat) : protAt rs a = some p ↔ Cov rs a p := by
  unfold protAt Cov
  constructor
  · intro h
    cases hr : atL rs a with
    | none => rw [hr] at h; cases h
    | some r =>
      rw [hr] at h
      have := atL_mem hr
      exact ⟨r, this.1, this.2.1, this.2.2, by simpa using h⟩
  · rintro ⟨r, h1, h2, h3, h4⟩
    rw [atL_uniq w h1 h2 h3, ← h4]; rfl
theorem wfR.nil : wfR [] := ⟨List.Pairwise.nil, fun _ h => by cases h⟩
theorem wo1_mem {s e : Nat} {r x : Reg} (h : x ∈ wo1 s e r) : r.s ≤ x.s ∧ x.e ≤ r.e ∧ x.p = r.p ∧ (r.s < r.e → s < e → x.s < x.e ∧ (x.e ≤ s ∨ e ≤ x.s)) ∧ (r.s % 4096 = 0 ∧ r.e % 4096 = 0 → s % 4096 = 0 → e % 4096 = 0 → x.s % 4096 = 0 ∧ x.e % 4096 = 0) := by
  unfold wo1 at h
  split at h
  · simp at h; subst h; grind
  · rename_i q
    rcases List.mem_append.1 h with h | h
    · split at h
      · simp at h; subst h; refine ⟨Nat.le_refl _, by show s ≤ r.e; omega, rfl, fun _ _ => ⟨by assumption, .inl (Nat.le_refl _)⟩, fun a b c => ⟨a.1, b⟩⟩
      · cases h
    · split at h
      · simp at h; subst h; refine ⟨by show r.s ≤ e; omega, Nat.le_refl _, rfl, fun _ _ => ⟨by assumption, .inr (Nat.le_refl _)⟩, fun a b c => ⟨c, a.2⟩⟩
      · cases h
theorem wo1_pair {s e : Nat} (hse : s < e) (r : Reg) : (wo1 s e r).Pairwise fun a b => a.e ≤ b.s := by
  unfold wo1
  split
  · simp
  · split <;> split <;> simp <;> omega
theorem woL_wf {s e : Nat} {rs : List Reg} (w : wfR rs) (h1 : s % 4096 = 0) (h2 : e % 4096 = 0) (h3 : s < e) : wfR (woL s e rs) ∧ ∀ x ∈ woL s e rs, x.e ≤ s ∨ e ≤ x.s := by
  have hm : ∀ x ∈ woL s e rs, ∃ r ∈ rs, x ∈ wo1 s e r := fun x hx => by simpa [woL] using hx
  refine ⟨⟨?_, fun x hx => ?_⟩, fun x hx => ?_⟩
  · unfold woL
    rw [List.pairwise_flatMap]
    refine ⟨fun r _ => wo1_pair h3 r, w.ord.imp fun {a b} hab x hx y hy => ?_⟩
    have := wo1_mem hx; have := wo1_mem hy; omega
  · obtain ⟨r, hr, hx⟩ := hm x hx
    have h4 := w.each r hr
    have h5 := wo1_mem hx
    have h6 := h5.2.2.2.1 h4.2.2.1 h3
    have h7 := h5.2.2.2.2 ⟨h4.1, h4.2.1⟩ h1 h2
    exact ⟨h7.1, h7.2, h6.1, by omega, by rw [h5.2.2.1]; exact h4.2.2.2.2⟩
  · obtain ⟨r, hr, hx⟩ := hm x hx
    exact ((wo1_mem hx).2.2.2.1 (w.each r hr).2.2.1 h3).2
theorem wo1_cov {s e a : Nat} (h3 : s < e) {r : Reg} (hr : r.s ≤ a ∧ a < r.e) (ha : ¬ (s ≤ a ∧ a < e)) : ∃ x ∈ wo1 s e r, x.s ≤ a ∧ a < x.e := by
  unfold wo1
  split
  · exact ⟨r, by simp, hr⟩
  · rcases Nat.lt_or_ge a s with q | q
    · exact ⟨⟨r.s, s, r.p⟩, by rw [if_pos (by omega)]; simp, by show r.s ≤ a ∧ a < s; omega⟩
    · exact ⟨⟨e, r.e, r.p⟩, by rw [if_pos (show e < r.e by omega)]; simp, by show e ≤ a ∧ a < r.e; omega⟩
theorem woL_cov {s e : Nat} {rs : List Reg} (w : wfR rs) (h1 : s % 4096 = 0) (h2 : e % 4096 = 0) (h3 : s < e) (a p : Nat) : Cov (woL s e rs) a p ↔ Cov rs a p ∧ ¬ (s ≤ a ∧ a < e) := by
  constructor
  · rintro ⟨x, hx, h4, h5, h6⟩
    obtain ⟨r, hr, hx'⟩ : ∃ r ∈ rs, x ∈ wo1 s e r := by simpa [woL] using hx
    have h7 := wo1_mem hx'
    have := (woL_wf w h1 h2 h3).2 x hx
    exact ⟨⟨r, hr, by omega, by omega, by rw [← h7.2.2.1]; exact h6⟩, by omega⟩
  · rintro ⟨⟨r, hr, h4, h5, h6⟩, hn⟩
    obtain ⟨x, hx, h7⟩ := wo1_cov h3 ⟨h4, h5⟩ hn
    exact ⟨x, by simp only [woL, List.mem_flatMap]; exact ⟨r, hr, hx⟩, h7.1, h7.2, by rw [(wo1_mem hx).2.2.1]; exact h6⟩
theorem wiL_wf {rs : List Reg} (r : Reg) (w : wfR rs) (h1 : r.s % 4096 = 0) (h2 : r.e % 4096 = 0) (h3 : r.s < r.e) (h4 : r.e ≤ 274877906944) (h5 : r.p ≤ 7) : wfR (wiL rs r) := by
  obtain ⟨w1, w2⟩ := woL_wf w h1 h2 h3
  obtain ⟨xs, hxs⟩ : ∃ xs, xs = woL r.s r.e rs := ⟨_, rfl⟩
  rw [← hxs] at w1 w2
  obtain ⟨k, hk⟩ : ∃ k, k = insAt xs r := ⟨_, rfl⟩
  have hlt : ∀ x ∈ xs.take k, x.e ≤ r.s := by
    intro x hx
    obtain ⟨i, hi, rfl⟩ := List.mem_iff_getElem.1 hx
    rw [List.length_take] at hi
    have hi2 : i < xs.findIdx fun x => decide (r.s < x.s) := by rw [hk] at hi; unfold insAt at hi; omega
    have h6 := List.not_of_lt_findIdx hi2
    rw [List.getElem_take]
    have h7 := w2 xs[i] (List.getElem_mem _)
    simp at h6
    omega
  have hge : ∀ x ∈ xs.drop k, r.e ≤ x.s := by
    intro x hx
    obtain ⟨i, hi, rfl⟩ := List.mem_iff_getElem.1 hx
    rw [List.length_drop] at hi
    rw [List.getElem_drop]
    have h7 := w2 xs[k + i] (List.getElem_mem _)
    have hk2 : k < xs.length := by omega
    have h8 : r.s < xs[k].s := by
      have := List.findIdx_getElem (p := fun x => decide (r.s < x.s)) (xs := xs) (w := by rw [hk] at hk2; exact hk2)
      simp only [insAt] at hk
      subst hk
      exact of_decide_eq_true this
    rcases Nat.eq_zero_or_pos i with q | q
    · subst q; simp only [Nat.add_zero] at h7 ⊢; have := w1.each xs[k] (List.getElem_mem _); omega
    · have h9 := List.pairwise_iff_getElem.1 w1.ord k (k + i) hk2 (by omega) (by omega)
      have := w1.each xs[k] (List.getElem_mem _)
      have := w2 xs[k] (List.getElem_mem _); omega
  have hwi : wiL rs r = xs.take k ++ [r] ++ xs.drop k := by unfold wiL; rw [hk, hxs]
  rw [hwi]
  refine ⟨?_, fun x hx => ?_⟩
  · rw [List.append_assoc, List.pairwise_append]
    refine ⟨w1.ord.sublist (List.take_sublist _ _), ?_, fun a ha b hb => ?_⟩
    · rw [List.pairwise_append]
      exact ⟨List.pairwise_singleton _ _, w1.ord.sublist (List.drop_sublist _ _), fun a ha b hb => by simp at ha; subst ha; exact hge b hb⟩
    · have h6 := hlt a ha
      rcases List.mem_append.1 hb with q | q
      · simp at q; subst q; exact h6
      · have := hge b q; omega
  · simp only [List.mem_append, List.mem_singleton] at hx
    rcases hx with (hx | hx) | hx
    · exact w1.each x (List.mem_of_mem_take hx)
    · subst hx; exact ⟨h1, h2, h3, h4, h5⟩
    · exact w1.each x (List.mem_of_mem_drop hx)
theorem wiL_mem {rs : List Reg} {r x : Reg} : x ∈ wiL rs r ↔ x = r ∨ x ∈ woL r.s r.e rs := by
  unfold wiL
  have := List.take_append_drop (insAt (woL r.s r.e rs) r) (woL r.s r.e rs)
  constructor
  · intro h
    simp only [List.mem_append, List.mem_singleton] at h
    rcases h with (h | h) | h
    · exact .inr (List.mem_of_mem_take h)
    · exact .inl h
    · exact .inr (List.mem_of_mem_drop h)
  · intro h
    simp only [List.mem_append, List.mem_singleton]
    rcases h with h | h
    · exact .inl (.inr h)
    · rw [← this] at h
      rcases List.mem_append.1 h with h | h
      · exact .inl (.inl h)
      · exact .inr h
theorem wiL_cov {rs : List Reg} (r : Reg) (w : wfR rs) (h1 : r.s % 4096 = 0) (h2 : r.e % 4096 = 0) (h3 : r.s < r.e) (a p : Nat) : Cov (wiL rs r) a p ↔ if r.s ≤ a ∧ a < r.e then p = r.p else Cov rs a p := by
  have hw := woL_cov w h1 h2 h3 a p
  constructor
  · rintro ⟨x, hx, h4, h5, h6⟩
    rcases wiL_mem.1 hx with q | q
    · subst q; rw [if_pos ⟨h4, h5⟩]; exact h6.symm
    · have := hw.1 ⟨x, q, h4, h5, h6⟩
      rw [if_neg this.2]; exact this.1
  · intro h
    split at h
    · rename_i q; exact ⟨r, wiL_mem.2 (.inl rfl), q.1, q.2, h.symm⟩
    · rename_i q
      obtain ⟨x, hx, h4⟩ := hw.2 ⟨h, q⟩
      exact ⟨x, wiL_mem.2 (.inr hx), h4⟩
theorem jo_fold : ∀ (rs out : List Reg), wfR (out ++ rs) → wfR (rs.foldl jo1 out) ∧ (∀ a p, Cov (rs.foldl jo1 out) a p ↔ Cov (out ++ rs) a p) ∧ pagesL (rs.foldl jo1 out) = pagesL (out ++ rs)
  | [], out, w => by simpa using w
  | r :: rs, out, w => by
    rw [List.foldl_cons]
    have key : wfR (jo1 out r ++ rs) ∧ (∀ a p, Cov (jo1 out r ++ rs) a p ↔ Cov (out ++ r :: rs) a p) ∧ pagesL (jo1 out r ++ rs) = pagesL (out ++ r :: rs) := by
      rcases List.eq_nil_or_concat out with hn | ⟨o, q, hn⟩
      · subst hn; exact ⟨w, fun _ _ => Iff.rfl, rfl⟩
      · rw [List.concat_eq_append] at hn
        subst hn
        by_cases hj : q.e = r.s ∧ q.p = r.p
        · have e1 : jo1 (o ++ [q]) r = o ++ [⟨q.s, r.e, q.p⟩] := by simp [jo1, hj.1, hj.2]
          rw [e1]
          have wo := List.pairwise_append.1 w.ord
          have hqe := w.each q (by simp)
          have hre := w.each r (by simp)
          refine ⟨⟨?_, fun x hx => ?_⟩, fun a p => ?_, ?_⟩
          · have wo2 := List.pairwise_cons.1 wo.2.1
            have wo1 := List.pairwise_append.1 wo.1
            refine List.pairwise_append.2 ⟨List.pairwise_append.2 ⟨wo1.1, List.pairwise_singleton _ _, fun x hx y hy => ?_⟩, wo2.2, fun x hx y hy => ?_⟩
            · simp at hy; subst hy; exact wo1.2.2 x hx q (by simp)
            · rcases List.mem_append.1 hx with z | z
              · exact wo.2.2 x (by simp [z]) y (by simp [hy])
              · simp at z; subst z; exact wo2.1 y hy
          · simp only [List.mem_append, List.mem_singleton] at hx
            rcases hx with (hx | hx) | hx
            · exact w.each x (by simp [hx])
            · subst hx; exact ⟨hqe.1, hre.2.1, by show q.s < r.e; omega, hre.2.2.2.1, hqe.2.2.2.2⟩
            · exact w.each x (by simp [hx])
          · constructor
            · rintro ⟨x, hx, h4, h5, h6⟩
              simp only [List.mem_append, List.mem_singleton] at hx
              rcases hx with (hx | hx) | hx
              · exact ⟨x, by simp [hx], h4, h5, h6⟩
              · subst hx
                simp only at h4 h5 h6
                rcases Nat.lt_or_ge a q.e with z | z
                · exact ⟨q, by simp, h4, z, h6⟩
                · exact ⟨r, by simp, by omega, h5, by rw [← hj.2]; exact h6⟩
              · exact ⟨x, by simp [hx], h4, h5, h6⟩
            · rintro ⟨x, hx, h4, h5, h6⟩
              simp only [List.mem_append, List.mem_cons, List.not_mem_nil, or_false] at hx
              rcases hx with (hx | hx) | (hx | hx)
              · exact ⟨x, by simp [hx], h4, h5, h6⟩
              · subst hx; exact ⟨⟨x.s, r.e, x.p⟩, by simp, h4, by show a < r.e; omega, h6⟩
              · subst hx; exact ⟨⟨q.s, x.e, q.p⟩, by simp, by show q.s ≤ a; omega, h5, by rw [← h6, ← hj.2]⟩
              · exact ⟨x, by simp [hx], h4, h5, h6⟩
          · simp only [pagesL, List.map_append, List.sum_append, List.map_cons, List.map_nil, List.sum_cons, List.sum_nil]
            omega
        · have e1 : jo1 (o ++ [q]) r = o ++ [q] ++ [r] := by simp [jo1]; intro h1 h2; exact absurd ⟨h1, h2⟩ hj
          rw [e1, List.append_assoc (o ++ [q])]
          exact ⟨w, fun _ _ => Iff.rfl, rfl⟩
    obtain ⟨k1, k2, k3⟩ := key
    obtain ⟨f1, f2, f3⟩ := jo_fold rs (jo1 out r) k1
    exact ⟨f1, fun a p => (f2 a p).trans (k2 a p), f3.trans k3⟩
theorem joL_wf {rs : List Reg} (w : wfR rs) : wfR (joL rs) := (jo_fold rs [] w).1
theorem joL_cov {rs : List Reg} (w : wfR rs) (a p : Nat) : Cov (joL rs) a p ↔ Cov rs a p := (jo_fold rs [] w).2.1 a p
theorem spanB_iff {s e : Nat} : spanB s e = true ↔ s % 4096 = 0 ∧ e % 4096 = 0 ∧ s < e ∧ e ≤ 274877906944 := by simp [spanB]
/-- what is mapped where, behind a Map. -/
theorem mapped_at {rs : List Reg} (r : Reg) (w : wfR rs) (hs : spanB r.s r.e = true) (h5 : r.p ≤ 7) : wfR (joL (wiL rs r)) ∧ ∀ a, protAt (joL (wiL rs r)) a = if r.s ≤ a ∧ a < r.e then some r.p else protAt rs a := by
  obtain ⟨h1, h2, h3, h4⟩ := spanB_iff.1 hs
  have w1 := wiL_wf r w h1 h2 h3 h4 h5
  have w2 := joL_wf w1
  refine ⟨w2, fun a => ?_⟩
  apply Option.ext
  intro p
  rw [protAt_iff w2, joL_cov w1, wiL_cov r w h1 h2 h3]
  split
  · simp [eq_comm]
  · rw [protAt_iff w]
end Go.SX
namespace Go.SX
open Go.RowKit
variable {P : Program}
def encB (x : Nat) : List Value := [.int .u8 (x : Int)]
theorem encB_len (x : Nat) : (encB x).length = 1 := rfl
theorem encB_one (x : Nat) : (encB x).all one = true := rfl
theorem encB_flat (xs : List Nat) : flat encB xs = xs.map fun x : Nat => Value.int .u8 (x : Int) := by
  induction xs with
  | nil => rfl
  | cons x xs ih => rw [flat_cons, ih]; rfl
theorem encB_rep (n x : Nat) : flat encB (List.replicate n x) = List.replicate n (.int .u8 (x : Int)) := by rw [encB_flat, List.map_replicate]
structure Leaf where
  no : Nat
  blk : Nat
  born : Nat
  dat : List Nat
deriving DecidableEq
structure Stp where
  no : Nat
  val : Nat
  born : Nat
structure StoreD where
  lm : Nat
  sm : Nat
  es : List Leaf
  c1 : Nat
  ss : List Stp
  c2 : Nat
  clock : Nat
  all : Nat
abbrev leafE (es : List Leaf) : Array MapEntry := entA .u64 (fun l : Leaf => (l.no : Int)) (fun l => .pointer (some ⟨l.blk, 0, none⟩)) (fun l => l.born) es
abbrev stpE (ss : List Stp) : Array MapEntry := entA .u64 (fun l : Stp => (l.no : Int)) (fun l => .int .u64 (l.val : Int)) (fun l => l.born) ss
def byteAt (es : List Leaf) (a : Nat) : Nat := match es.find? (fun l => l.no == a / 4096) with | some l => l.dat.getD (a % 4096) 0 | none => 0
def stampAt (ss : List Stp) (n : Nat) : Nat := match ss.find? (fun s => s.no == n) with | some s => s.val | none => 0
theorem mks_one {h : Heap} {t e by_ n : Nat} {z : Value} {k k' : IntKind} {K : Value → Heap → Prop} (hs : slE P t = some (e, 1)) (hb : byP P e = some by_) (hz : zeroP P e = some z) (hc : z.cells = #[z]) (hn : by_ * n ≤ 281474976710656) (hn2 : n < 9223372036854775808)
    (hk : K (.slice (some ⟨h.size, 0, none⟩) n n) (h.push (.cells (List.replicate n z).toArray e (0, 0)))) : @mksK P h t (.int k n) (.int k' n) ⟨K⟩ := by
  unfold mksK makeSliceW
  simp only [hs, obind, hb, hz, Int.toNat_natCast, Nat.mul_one]
  have h3 : ((by_ : Int) * n ≤ 281474976710656) := by
    have : ((by_ * n : Nat) : Int) ≤ 281474976710656 := by omega
    rwa [Int.natCast_mul] at this
  refine ⟨⟨by omega, by omega, h3, by omega⟩, ?_⟩
  have h4 : (if n = 0 then [] else mkCells z n) = List.replicate n z := by
    rw [mk_one z hc]
    split
    · rename_i q; subst q; rfl
    · rfl
  rw [h4]; exact hk
/-- the leaf of a page. -/
theorem byteAt_none {es : List Leaf} {a : Nat} (h : ∀ l ∈ es, (l.no : Int) ≠ ((a / 4096 : Nat) : Int)) : byteAt es a = 0 := by
  unfold byteAt
  have : es.find? (fun l => l.no == a / 4096) = none := by
    rw [List.find?_eq_none]
    intro l hl
    have := h l hl
    simp; omega
  rw [this]
theorem byteAt_some {es : List Leaf} {a j : Nat} (hj : j < es.length) (e : es[j].no = a / 4096) (hb : ∀ i (hi : i < j), (es[i]'(by omega)).no ≠ a / 4096) : byteAt es a = es[j].dat.getD (a % 4096) 0 := by
  unfold byteAt
  have : es.find? (fun l => l.no == a / 4096) = some es[j] := by
    rw [List.find?_eq_some_iff_getElem]
    refine ⟨by simp [e], j, hj, rfl, fun i hi => by simpa using hb i hi⟩
  rw [this]
def getL (es : List Leaf) (addr n c : Nat) : List Nat := (List.range n).map fun i => if i < c then byteAt es (addr + i) else 0
theorem getL_len (es : List Leaf) (addr n c : Nat) : (getL es addr n c).length = n := by simp [getL]
theorem getL_zero (es : List Leaf) (addr n : Nat) : getL es addr n 0 = List.replicate n 0 := by
  apply List.ext_getElem
  · simp [getL]
  · intro i h1 h2; simp [getL]
/-- a piece more, out of a leaf. -/
theorem getL_more {es : List Leaf} {addr n c k j : Nat} (hk : c + k ≤ n) (hj : j < es.length) (hat : (addr + c) % 4096 + k ≤ 4096) (e : es[j].no = (addr + c) / 4096) (hb : ∀ i (hi : i < j), (es[i]'(by omega)).no ≠ (addr + c) / 4096) (hd : es[j].dat.length = 4096) :
    setL (flat encB (getL es addr n c)) c (flat encB ((es[j].dat.drop ((addr + c) % 4096)).take k)) = flat encB (getL es addr n (c + k)) := by
  rw [setL_eq _ _ _ (by simp only [encB_flat, List.length_map, getL_len, List.length_take, List.length_drop]; omega)]
  simp only [encB_flat]
  apply List.ext_getElem?
  intro i
  have hlk : ((es[j].dat.drop ((addr + c) % 4096)).take k).length = k := by rw [List.length_take, List.length_drop]; omega
  simp only [List.length_map, hlk]
  rcases Nat.lt_or_ge i c with h1 | h1
  · rw [List.append_assoc, List.getElem?_append_left (by simp [getL_len]; omega)]
    have h2 : i < c + k := by omega
    have h3 : i < n := by omega
    simp [getL, List.getElem?_take, h1, h2, List.getElem?_range h3]
  · rcases Nat.lt_or_ge i (c + k) with h2 | h2
    · rw [List.getElem?_append_left (by simp only [List.length_append, List.length_take, List.length_map, getL_len, hlk]; omega), List.getElem?_append_right (by simp [getL_len]; omega)]
      simp only [List.length_take, List.length_map, getL_len]
      rw [Nat.min_eq_left (by omega)]
      have hin : i < n := by omega
      have e1 : (addr + i) / 4096 = (addr + c) / 4096 := by omega
      have e2 : (addr + i) % 4096 = (addr + c) % 4096 + (i - c) := by omega
      have hB := byteAt_some (a := addr + i) hj (by rw [e1]; exact e) (fun x hx => by rw [e1]; exact hb x hx)
      simp only [getL, List.getElem?_map, List.getElem?_range hin, Option.map_some, h2, if_true, hB, List.getElem?_take, show i - c < k by omega, List.getElem?_drop, e2]
      rw [List.getElem?_eq_getElem (by omega)]
      simp [show (addr + c) % 4096 + (i - c) < es[j].dat.length by omega]
    · rw [List.getElem?_append_right (by simp only [List.length_append, List.length_take, List.length_map, getL_len, hlk]; omega)]
      simp only [List.length_append, List.length_take, List.length_map, getL_len, hlk, List.getElem?_drop]
      rw [Nat.min_eq_left (by omega), show c + k + (i - (c + k)) = i by omega]
      simp only [getL, List.getElem?_map]
      rcases Nat.lt_or_ge i n with h3 | h3
      · simp [List.getElem?_range h3, show ¬ i < c + k by omega, show ¬ i < c by omega]
      · simp [List.getElem?_eq_none, h3]
theorem getL_skip {es : List Leaf} {addr n c k : Nat} (hat : (addr + c) % 4096 + k ≤ 4096) (hb : ∀ l ∈ es, (l.no : Int) ≠ (((addr + c) / 4096 : Nat) : Int)) : getL es addr n c = getL es addr n (c + k) := by
  apply List.ext_getElem
  · simp [getL]
  · intro i h1 h2
    simp only [getL, List.getElem_map, List.getElem_range]
    by_cases h3 : i < c
    · simp [h3, show i < c + k by omega]
    · by_cases h4 : i < c + k
      · have e1 : (addr + i) / 4096 = (addr + c) / 4096 := by omega
        rw [byteAt_none (a := addr + i) (by rw [e1]; exact hb)]
        simp
      · simp [h3, h4]
theorem getL_far {es : List Leaf} {addr n c : Nat} (hb : ∀ l ∈ es, l.no < 67108864) (h : 274877906944 ≤ addr + c) : getL es addr n c = getL es addr n n := by
  apply List.ext_getElem
  · simp [getL]
  · intro i h1 h2
    have hi : i < n := by simpa [getL] using h1
    simp only [getL, List.getElem_map, List.getElem_range, hi, if_true]
    by_cases h3 : i < c
    · simp [h3]
    · rw [byteAt_none (a := addr + i) (fun l hl => by have := hb l hl; omega)]
      simp
theorem stampAt_hit {ss : List Stp} {n j : Nat} (hj : j < ss.length) (e : ss[j].no = n) (hb : ∀ i (hi : i < j), (ss[i]'(by omega)).no ≠ n) : stampAt ss n = ss[j].val := by
  unfold stampAt
  have : ss.find? (fun s => s.no == n) = some ss[j] := by
    rw [List.find?_eq_some_iff_getElem]
    exact ⟨by simp [e], j, hj, rfl, fun i hi => by simpa using hb i hi⟩
  rw [this]
theorem stampAt_miss {ss : List Stp} {n : Nat} (h : ∀ s ∈ ss, s.no ≠ n) : stampAt ss n = 0 := by
  unfold stampAt
  have : ss.find? (fun s => s.no == n) = none := by rw [List.find?_eq_none]; intro s hs; simpa using h s hs
  rw [this]
theorem stampAt_push {ss : List Stp} {n v b : Nat} (h : ∀ s ∈ ss, s.no ≠ n) (m : Nat) : stampAt (ss ++ [⟨n, v, b⟩]) m = if m = n then v else stampAt ss m := by
  by_cases e : m = n
  · subst e
    rw [if_pos rfl]
    unfold stampAt
    have : ss.find? (fun s => s.no == m) = none := by rw [List.find?_eq_none]; intro s hs; simpa using h s hs
    simp [List.find?_append, this]
  · rw [if_neg e]
    unfold stampAt
    have hne : (n == m) = false := by simpa using fun q : n = m => e q.symm
    simp [List.find?_append, hne]
theorem stampAt_set {ss : List Stp} {n v b j : Nat} (hj : j < ss.length) (e : ss[j].no = n) (hp : ss.Pairwise fun a b => a.no ≠ b.no) (m : Nat) : stampAt (ss.set j ⟨n, v, b⟩) m = if m = n then v else stampAt ss m := by
  induction ss generalizing j with
  | nil => simp at hj
  | cons s ss ih =>
    have hp' := List.pairwise_cons.1 hp
    cases j with
    | zero =>
      simp at e
      simp only [List.set_cons_zero, stampAt, List.find?_cons]
      by_cases q : m = n
      · subst q; simp
      · have h1 : (n == m) = false := by simpa using fun h : n = m => q h.symm
        have h2 : (s.no == m) = false := by rw [e]; exact h1
        simp [q, h1, h2]
    | succ j =>
      have hj' : j < ss.length := by simpa using hj
      have := ih hj' (by simpa using e) hp'.2
      simp only [List.set_cons_succ, stampAt, List.find?_cons] at this ⊢
      cases h1 : s.no == m with
      | true =>
        have h2 : s.no = m := by simpa using h1
        have h3 : m ≠ n := fun q => by
          have := hp'.1 ss[j] (List.getElem_mem hj')
          simp at e; omega
        simp [h3]
      | false => exact this
theorem pairwise_set {α β : Type} (f : α → β) {xs : List α} {j : Nat} (hj : j < xs.length) (x : α) (e : f x = f xs[j]) (h : xs.Pairwise fun a b => f a ≠ f b) : (xs.set j x).Pairwise fun a b => f a ≠ f b := by
  have h1 : (xs.map f).Pairwise (· ≠ ·) := List.pairwise_map.2 h
  have h2 : (xs.set j x).map f = xs.map f := by
    apply List.ext_getElem
    · simp
    · intro i h1 h2
      simp only [List.getElem_map, List.getElem_set]
      split
      · rename_i q; subst q; exact e
      · rfl
  have h3 : ((xs.set j x).map f).Pairwise (· ≠ ·) := by rw [h2]; exact h1
  exact List.pairwise_map.1 h3
theorem pairwise_snoc {α β : Type} (f : α → β) {xs : List α} (x : α) (hn : ∀ y ∈ xs, f y ≠ f x) (h : xs.Pairwise fun a b => f a ≠ f b) : (xs ++ [x]).Pairwise fun a b => f a ≠ f b :=
  List.pairwise_append.2 ⟨h, List.pairwise_singleton _ _, fun a ha b hb => by simp at hb; subst hb; exact hn a ha⟩
theorem byteAt_push {es : List Leaf} (l : Leaf) (h : ∀ x ∈ es, x.no ≠ l.no) (a : Nat) : byteAt (es ++ [l]) a = if a / 4096 = l.no then l.dat.getD (a % 4096) 0 else byteAt es a := by
  by_cases e : a / 4096 = l.no
  · rw [if_pos e]
    unfold byteAt
    have : es.find? (fun s => s.no == a / 4096) = none := by rw [List.find?_eq_none]; intro s hs; have := h s hs; simp; omega
    rw [List.find?_append, this]
    simp [e]
  · rw [if_neg e]
    unfold byteAt
    have hne : (l.no == a / 4096) = false := by simpa using fun q : l.no = a / 4096 => e q.symm
    simp [List.find?_append, hne]
theorem byteAt_set {es : List Leaf} {j : Nat} (l : Leaf) (hj : j < es.length) (e : l.no = es[j].no) (hp : es.Pairwise fun a b => a.no ≠ b.no) (a : Nat) : byteAt (es.set j l) a = if a / 4096 = l.no then l.dat.getD (a % 4096) 0 else byteAt es a := by
  induction es generalizing j with
  | nil => simp at hj
  | cons s es ih =>
    have hp' := List.pairwise_cons.1 hp
    cases j with
    | zero =>
      simp at e
      simp only [List.set_cons_zero, byteAt, List.find?_cons]
      by_cases q : a / 4096 = l.no
      · have h1 : (l.no == a / 4096) = true := by simp [q]
        simp [q]
      · have h1 : (l.no == a / 4096) = false := by simpa using fun h : l.no = a / 4096 => q h.symm
        have h2 : (s.no == a / 4096) = false := by rw [← e]; exact h1
        simp [q, h1, h2]
    | succ j =>
      have hj' : j < es.length := by simpa using hj
      have := ih hj' (by simpa using e) hp'.2
      simp only [List.set_cons_succ, byteAt, List.find?_cons] at this ⊢
      cases h1 : s.no == a / 4096 with
      | true =>
        have h2 : s.no = a / 4096 := by simpa using h1
        have h3 : ¬ a / 4096 = l.no := fun q => by
          have := hp'.1 es[j] (List.getElem_mem hj')
          simp at e; omega
        simp [h3]
      | false => exact this
def spl (dat : List Nat) (at_ : Nat) (ck : List Nat) : List Nat := dat.take at_ ++ ck ++ dat.drop (at_ + ck.length)
theorem spl_len {dat ck : List Nat} {at_ : Nat} (h : at_ + ck.length ≤ dat.length) : (spl dat at_ ck).length = dat.length := by simp [spl]; omega
theorem spl_set {dat ck : List Nat} {at_ : Nat} (h : at_ + ck.length ≤ dat.length) : setL (flat encB dat) at_ (flat encB ck) = flat encB (spl dat at_ ck) := by
  rw [setL_eq _ _ _ (by simpa [encB_flat] using h)]
  simp [spl, encB_flat, List.map_take, List.map_drop]
theorem spl_get {dat ck : List Nat} {at_ : Nat} (h : at_ + ck.length ≤ dat.length) (i : Nat) (hi : i < dat.length) : (spl dat at_ ck).getD i 0 = if at_ ≤ i ∧ i < at_ + ck.length then ck.getD (i - at_) 0 else dat.getD i 0 := by
  simp only [spl, List.getD_eq_getElem?_getD]
  rcases Nat.lt_or_ge i at_ with h1 | h1
  · rw [List.append_assoc, List.getElem?_append_left (by simp; omega), List.getElem?_take, if_pos h1, if_neg (by omega)]
  · rcases Nat.lt_or_ge i (at_ + ck.length) with h2 | h2
    · rw [List.getElem?_append_left (by simp; omega), List.getElem?_append_right (by simp; omega), if_pos ⟨h1, h2⟩, List.length_take, Nat.min_eq_left (by omega)]
    · rw [List.getElem?_append_right (by simp; omega), if_neg (by omega), List.getElem?_drop]
      simp only [List.length_append, List.length_take]
      rw [Nat.min_eq_left (by omega), show at_ + ck.length + (i - (at_ + ck.length)) = i by omega]
theorem spl_lt {dat ck : List Nat} {at_ : Nat} (h1 : ∀ x ∈ dat, x < 256) (h2 : ∀ x ∈ ck, x < 256) : ∀ x ∈ spl dat at_ ck, x < 256 := by
  intro x hx
  simp only [spl, List.mem_append] at hx
  rcases hx with (h | h) | h
  · exact h1 x (List.mem_of_mem_take h)
  · exact h2 x h
  · exact h1 x (List.mem_of_mem_drop h)
def touched (lo hi m : Nat) : Prop := ∃ a, lo ≤ a ∧ a < hi ∧ a < 274877906944 ∧ a / 4096 = m
theorem filter_lt {α : Type} (p q : α → Bool) (hpq : ∀ x, q x = true → p x = true) {l : α} (hp : p l = true) (hq : q l = false) : ∀ (es : List α), l ∈ es → (es.filter q).length < (es.filter p).length
  | [], h => by cases h
  | x :: es, h => by
    have hle : (es.filter q).length ≤ (es.filter p).length := by
      clear h
      induction es with
      | nil => simp
      | cons y ys ih =>
        simp only [List.filter_cons]
        cases hy : q y with
        | true => rw [hpq y hy]; simpa using ih
        | false => cases p y <;> simp <;> omega
    rcases List.mem_cons.1 h with rfl | h'
    · simp only [List.filter_cons, hp, hq]; simp; omega
    · have := filter_lt p q hpq hp hq es h'
      simp only [List.filter_cons]
      cases hx : q x with
      | true => rw [hpq x hx]; simpa using this
      | false => cases p x <;> simp <;> omega
def stampV (D : StoreD) (m : Nat) : Nat := max (stampAt D.ss m) D.all
structure SInv (D : StoreD) : Prop where
  all : D.all ≤ D.clock
  each : ∀ m, stampAt D.ss m ≤ D.clock
/-- stamps go on: those of 'T' are others. -/
def Sr (D D' : StoreD) (n : Nat) (T : Nat → Prop) : Prop := D.clock + n < 18446744073709551616 → SInv D → SInv D' ∧ D.clock ≤ D'.clock ∧ D'.clock ≤ D.clock + n ∧ ∀ m, stampV D m ≤ stampV D' m ∧ (T m → stampV D m < stampV D' m)
theorem Sr.refl (D : StoreD) : Sr D D 0 fun _ => False := fun _ i => ⟨i, Nat.le_refl _, by omega, fun m => ⟨Nat.le_refl _, fun h => h.elim⟩⟩
theorem Sr.trans {D D1 D2 : StoreD} {a b : Nat} {S T : Nat → Prop} (x : Sr D D1 a S) (y : Sr D1 D2 b T) : Sr D D2 (a + b) fun m => S m ∨ T m := by
  intro h i
  obtain ⟨i1, c1, c2, s1⟩ := x (by omega) i
  obtain ⟨i2, d1, d2, s2⟩ := y (by omega) i1
  refine ⟨i2, by omega, by omega, fun m => ⟨Nat.le_trans (s1 m).1 (s2 m).1, fun q => ?_⟩⟩
  rcases q with q | q
  · exact Nat.lt_of_lt_of_le ((s1 m).2 q) (s2 m).1
  · exact Nat.lt_of_le_of_lt (s1 m).1 ((s2 m).2 q)
theorem Sr.le {D D' : StoreD} {n k : Nat} {S T : Nat → Prop} (x : Sr D D' n S) (h : n ≤ k) (q : ∀ m, T m → S m) : Sr D D' k T := by
  intro hc i
  obtain ⟨i1, c1, c2, s1⟩ := x (by omega) i
  exact ⟨i1, c1, by omega, fun m => ⟨(s1 m).1, fun t => (s1 m).2 (q m t)⟩⟩
theorem Sr.mark {D D' : StoreD} {n : Nat} (h1 : D'.all = D.all) (h2 : D'.clock = (D.clock + 1) % 18446744073709551616) (h3 : ∀ m, stampAt D'.ss m = if m = n then D'.clock else stampAt D.ss m) : Sr D D' 1 fun m => m = n := by
  intro hc i
  have h2' : D'.clock = D.clock + 1 := by rw [h2, Nat.mod_eq_of_lt hc]
  have i1 := i.all
  refine ⟨⟨by omega, fun m => ?_⟩, by omega, by omega, fun m => ?_⟩
  · rw [h3]; have := i.each m; split <;> omega
  · have := i.each m
    unfold stampV
    rw [h3, h1]
    constructor
    · split <;> omega
    · intro q; rw [if_pos q]; omega
theorem Sr.same {D D' : StoreD} (h1 : D'.all = D.all) (h2 : D'.clock = D.clock) (h3 : D'.ss = D.ss) : Sr D D' 0 fun _ => False := by
  intro hc i
  refine ⟨⟨by rw [h1, h2]; exact i.all, fun m => by rw [h3, h2]; exact i.each m⟩, by omega, by omega, fun m => ⟨by unfold stampV; rw [h1, h3]; exact Nat.le_refl _, fun q => q.elim⟩⟩
def insideL (a b : Nat) (l : Leaf) : Bool := decide (a ≤ l.no * 4096 ∧ l.no * 4096 < b)
def leftL (a b : Nat) (seen : Array Nat) (es : List Leaf) : List Leaf := es.filter fun l => !(insideL a b l && seen.contains l.born)
theorem leftL_nil (a b : Nat) (es : List Leaf) : leftL a b #[] es = es := by simp [leftL]
theorem leftL_out {a b : Nat} {seen : Array Nat} {es : List Leaf} {l : Leaf} (hl : l ∈ es) (hp : es.Pairwise fun x y => x.born ≠ y.born) (hi : insideL a b l = false) : leftL a b (seen.push l.born) es = leftL a b seen es := by
  unfold leftL
  apply List.filter_congr
  intro x hx
  by_cases e : x.born = l.born
  · have : x = l := by
      rcases List.mem_iff_getElem.1 hx with ⟨i, hi', rfl⟩
      rcases List.mem_iff_getElem.1 hl with ⟨j, hj, rfl⟩
      rcases Nat.lt_trichotomy i j with q | q | q
      · exact absurd e (List.pairwise_iff_getElem.1 hp i j hi' hj q)
      · subst q; rfl
      · exact absurd e.symm (List.pairwise_iff_getElem.1 hp j i hj hi' q)
    subst this
    simp [hi]
  · simp [e]
theorem filter_erase {α : Type} [DecidableEq α] (p q : α → Bool) : ∀ (es : List α) (j : Nat) (hj : j < (es.filter p).length), (∀ x ∈ es, q x = (p x && decide (x ≠ (es.filter p)[j]))) → es.Nodup → (es.filter p).eraseIdx j = es.filter q
  | [], j, hj, _, _ => by simp at hj
  | x :: es, j, hj, hq, hn => by
    have hn' := List.nodup_cons.1 hn
    cases hp : p x with
    | false =>
      have h0 : (x :: es).filter p = es.filter p := by simp [hp]
      have h1 : q x = false := by rw [hq x (by simp)]; simp [hp]
      have h2 : (x :: es).filter q = es.filter q := by simp [h1]
      rw [h2]
      have hj' : j < (es.filter p).length := by rw [h0] at hj; exact hj
      have := filter_erase p q es j hj' (fun y hy => by rw [hq y (by simp [hy])]; congr 2; simp [h0]) hn'.2
      rw [← this]; simp [h0]
    | true =>
      have h0 : (x :: es).filter p = x :: es.filter p := by simp [hp]
      cases j with
      | zero =>
        have h1 : q x = false := by rw [hq x (by simp)]; simp [h0]
        have h2 : (x :: es).filter q = es.filter q := by simp [h1]
        rw [h2]
        have h3 : es.filter q = es.filter p := by
          apply List.filter_congr
          intro y hy
          rw [hq y (by simp [hy])]
          have : y ≠ x := fun e => hn'.1 (e ▸ hy)
          simp [h0, this]
        rw [h3]; simp [h0]
      | succ j =>
        have hj' : j < (es.filter p).length := by rw [h0] at hj; simpa using hj
        have hel : ((x :: es).filter p)[j + 1] = (es.filter p)[j] := by simp [h0]
        have hmem : (es.filter p)[j] ∈ es := (List.mem_filter.1 (List.getElem_mem hj')).1
        have hxn : x ≠ (es.filter p)[j] := fun e => hn'.1 (e ▸ hmem)
        have h1 : q x = true := by rw [hq x (by simp)]; simp [hp, h0, hxn]
        have h2 : (x :: es).filter q = x :: es.filter q := by simp [h1]
        rw [h2]
        have := filter_erase p q es j hj' (fun y hy => by rw [hq y (by simp [hy])]; congr 2; simp [h0]) hn'.2
        rw [← this]
        simp [h0]
theorem filter_erase' {α : Type} [DecidableEq α] (p q : α → Bool) {es : List α} {j : Nat} {l : α} (h : (es.filter p)[j]? = some l) (hq : ∀ x ∈ es, q x = (p x && decide (x ≠ l))) (hn : es.Nodup) : (es.filter p).eraseIdx j = es.filter q := by
  obtain ⟨hj, he⟩ := List.getElem?_eq_some_iff.1 h
  exact filter_erase p q es j hj (fun x hx => by rw [hq x hx, he]) hn
theorem nodup_born {es : List Leaf} (hp : es.Pairwise fun x y => x.born ≠ y.born) : es.Nodup := hp.imp fun h e => h (by rw [e])
theorem leftL_in {a b : Nat} {seen : Array Nat} {es : List Leaf} {j : Nat} (hp : es.Pairwise fun x y => x.born ≠ y.born) (hj : j < (leftL a b seen es).length) (hi : insideL a b (leftL a b seen es)[j] = true) :
    (leftL a b seen es).eraseIdx j = leftL a b (seen.push (leftL a b seen es)[j].born) es := by
  have hm := (List.mem_filter.1 (List.getElem_mem hj)).1
  obtain ⟨l, hl⟩ : ∃ l, l = (leftL a b seen es)[j] := ⟨_, rfl⟩
  rw [← hl] at hi hm ⊢
  refine filter_erase' _ _ (l := l) (by rw [hl]; exact List.getElem?_eq_getElem hj) (fun x hx => ?_) (nodup_born hp)
  by_cases e : x = l
  · subst e; simp [hi]
  · have hb : x.born ≠ l.born := by
      intro q
      rcases List.mem_iff_getElem.1 hx with ⟨i, hi', rfl⟩
      rcases List.mem_iff_getElem.1 hm with ⟨k, hk, rfl⟩
      rcases Nat.lt_trichotomy i k with z | z | z
      · exact List.pairwise_iff_getElem.1 hp i k hi' hk z q
      · subst z; exact e rfl
      · exact List.pairwise_iff_getElem.1 hp k i hk hi' z q.symm
    simp [e, hb]
theorem byteAt_left {a b : Nat} {es es' : List Leaf} (h1 : a % 4096 = 0) (h2 : b % 4096 = 0) (hp : es.Pairwise fun x y => x.no ≠ y.no) (he : es' = es.filter fun l => !insideL a b l) (x : Nat) : byteAt es' x = if a ≤ x ∧ x < b then 0 else byteAt es x := by
  subst he
  split
  · rename_i q
    apply byteAt_none
    intro l hl e
    have := (List.mem_filter.1 hl).2
    simp [insideL] at this
    omega
  · rename_i q
    unfold byteAt
    rw [List.find?_filter]
    congr 1
    have : ∀ (es : List Leaf), es.find? (fun l => (!insideL a b l) && l.no == x / 4096) = es.find? (fun l => l.no == x / 4096) := by
      intro es
      induction es with
      | nil => rfl
      | cons y ys ih =>
        rw [List.find?_cons, List.find?_cons, ih]
        cases h : y.no == x / 4096 with
        | false => simp
        | true =>
          have : y.no = x / 4096 := by simpa using h
          have : insideL a b y = false := by simp [insideL]; omega
          simp [this]
    have h3 : (fun l : Leaf => decide ((!insideL a b l) = true ∧ (l.no == x / 4096) = true)) = fun l => !insideL a b l && l.no == x / 4096 := by funext l; cases insideL a b l <;> cases (l.no == x / 4096) <;> rfl
    rw [h3]
    exact this es
end Go.SX
namespace Go.SX
structure MemD where
  l : Nat
  bl : Option Nat
  rs : List Reg
  p : Nat
  D : StoreD
  most : Nat
  base : Nat
  fin : Nat
def upN (n : Nat) : Nat := (n + 4095) / 4096 * 4096
def upO (n : Nat) : Option Nat := if n ≤ 274877906944 then some (upN n) else none
def spanO (a n : Nat) : Option Nat := if n ≤ 274877906944 ∧ a % 4096 = 0 ∧ a ≤ 274877906944 ∧ n ≠ 0 ∧ upN n ≤ 274877906944 - a then some (a + upN n) else none
theorem upN_le {n : Nat} (h : n ≤ 274877906944) : upN n ≤ 274877906944 := by unfold upN; omega
theorem spanO_some {a n e : Nat} (h : spanO a n = some e) : spanB a e = true ∧ e = a + upN n ∧ n ≤ 274877906944 ∧ n ≠ 0 := by
  unfold spanO at h
  split at h
  · rename_i q
    cases h
    refine ⟨?_, rfl, q.1, q.2.2.2.1⟩
    simp only [spanB, decide_eq_true_eq]
    unfold upN at *; omega
  · cases h
def memAt (M : MemD) (a : Nat) : Nat := byteAt M.D.es a
end Go.SX
namespace Go.SX
def freeB' (rs : List Reg) (s e : Nat) : Bool := spanB s e && !(rs.any fun q => decide (q.s < e ∧ s < q.e))
def roomO (rs : List Reg) (n : Nat) : Option Nat := roomL rs.reverse 274877833216 (upP n)
def whereO (rs : List Reg) (a n : Nat) : Option Nat :=
  match spanO a n with
  | some e => if a ≠ 0 ∧ freeB' rs a e = true then some a else roomO rs n
  | none => roomO rs n
end Go.SX
namespace Go.SX
theorem roomL_le : ∀ (rs : List Reg) (e n b : Nat), roomL rs e n = some b → b + n ≤ e
  | [], e, n, b, h => by
    simp only [roomL] at h
    split at h
    · cases h; omega
    · cases h
  | r :: rs, e, n, b, h => by
    simp only [roomL] at h
    split at h
    · rename_i q
      cases h; omega
    · have := roomL_le rs _ n b h; omega
theorem whereO_lt {rs : List Reg} {a n b : Nat} (h : whereO rs a n = some b) : b < 274877906944 + 1 := by
  unfold whereO at h
  have hr : ∀ b, roomO rs n = some b → b ≤ 274877833216 := by
    intro b hb
    have := roomL_le _ _ _ _ hb
    omega
  split at h
  · rename_i e he
    split at h
    · cases h
      unfold spanO at he
      split at he
      · omega
      · cases he
    · have := hr b h; omega
  · have := hr b h; omega
end Go.SX
namespace Go.SX
def goodN (n : Int) : Bool := decide (n = 1 ∨ n = 2 ∨ n = 4 ∨ n = 8)
def adr (a i : Nat) : Nat := (a + i) % 18446744073709551616
/-- the first of 'n' places that may not be used so; places go round. -/
inductive FirstN (rs : List Reg) (a n prot : Nat) : Option Nat → Prop
  | none (h : ∀ i, i < n → okAt rs prot (adr a i)) : FirstN rs a n prot none
  | some (i : Nat) (hi : i < n) (h1 : ¬ okAt rs prot (adr a i)) (h : ∀ j, j < i → okAt rs prot (adr a j)) : FirstN rs a n prot (some (adr a i))
def fltA (k a : Nat) : Value := .agg #[.int .i64 k, .int .u64 a]
theorem okAt_lt {rs : List Reg} {p a : Nat} (w : wfR rs) (h : okAt rs p a) : a < 274877906944 := by
  obtain ⟨r, h1, _⟩ := h
  have := atL_mem h1
  have := w.each r this.1
  omega
/-- where all may be used, places do not go round. -/
theorem FirstN.far {rs : List Reg} {a n p : Nat} (w : wfR rs) (h : ∀ i, i < n → okAt rs p (adr a i)) (hn : 0 < n) (ha : a < 18446744073709551616) (hn2 : n ≤ 4194304) : a + n ≤ 274877906944 ∧ ∀ i, i < n → adr a i = a + i := by
  have h0 := okAt_lt w (h 0 hn)
  have e0 : adr a 0 = a := by unfold adr; omega
  rw [e0] at h0
  have h1 := okAt_lt w (h (n - 1) (by omega))
  unfold adr at h1
  refine ⟨by omega, fun i hi => by unfold adr; omega⟩
def peekL (M : MemD) (a n : Nat) : List Nat := (List.range n).map fun i => memAt M (a + i)
theorem peekL_get (M : MemD) (a n : Nat) : getL M.D.es a n n = peekL M a n := by
  unfold getL peekL memAt
  apply List.map_congr_left
  intro i hi
  simp at hi
  simp [hi]
theorem peekL_len (M : MemD) (a n : Nat) : (peekL M a n).length = n := by simp [peekL]
end Go.SX
namespace Go.SX
/-- regions one behind the other, from 'a' to 'c'. -/
def Chain : Nat → List Reg → Nat → Prop
  | a, [], c => a = c
  | a, r :: rs, c => r.s = a ∧ r.s < r.e ∧ Chain r.e rs c
theorem Chain.app : ∀ (xs ys : List Reg) (a c : Nat), Chain a (xs ++ ys) c ↔ ∃ b, Chain a xs b ∧ Chain b ys c
  | [], ys, a, c => ⟨fun h => ⟨a, rfl, h⟩, fun ⟨b, h1, h2⟩ => by simp only [Chain] at h1; subst h1; exact h2⟩
  | x :: xs, ys, a, c => by
    simp only [List.cons_append, Chain]
    rw [Chain.app xs ys x.e c]
    constructor
    · rintro ⟨h1, h2, b, h3, h4⟩; exact ⟨b, ⟨h1, h2, h3⟩, h4⟩
    · rintro ⟨b, ⟨h1, h2, h3⟩, h4⟩; exact ⟨h1, h2, b, h3, h4⟩
theorem Chain.le : ∀ (xs : List Reg) (a c : Nat), Chain a xs c → a ≤ c
  | [], a, c, h => Nat.le_of_eq h
  | x :: xs, a, c, h => by have := Chain.le xs _ _ h.2.2; have := h.1; have := h.2.1; omega
theorem Chain.ge : ∀ (xs : List Reg) (a c : Nat), Chain a xs c → ∀ r ∈ xs, a ≤ r.s ∧ r.e ≤ c
  | [], a, c, h, r, hr => by cases hr
  | x :: xs, a, c, h, r, hr => by
    have h1 := h.1; have h2 := h.2.1; have h3 := Chain.le xs _ _ h.2.2
    rcases List.mem_cons.1 hr with rfl | q
    · omega
    · have := Chain.ge xs _ _ h.2.2 r q; omega
theorem Chain.jo : ∀ (rs out : List Reg) (a c : Nat), Chain a (out ++ rs) c → Chain a (rs.foldl jo1 out) c
  | [], out, a, c, h => by simpa using h
  | r :: rs, out, a, c, h => by
    rw [List.foldl_cons]
    apply Chain.jo rs
    rcases List.eq_nil_or_concat out with hn | ⟨o, q, hn⟩
    · subst hn; exact h
    · rw [List.concat_eq_append] at hn
      subst hn
      by_cases hj : q.e = r.s ∧ q.p = r.p
      · have e1 : jo1 (o ++ [q]) r = o ++ [⟨q.s, r.e, q.p⟩] := by simp [jo1, hj.1, hj.2]
        rw [e1]
        rw [Chain.app] at h ⊢
        obtain ⟨b, h1, h2⟩ := h
        rw [Chain.app] at h1
        obtain ⟨b2, h3, h4⟩ := h1
        simp only [Chain] at h2 h4
        refine ⟨r.e, ?_, h2.2.2⟩
        rw [Chain.app]
        exact ⟨b2, h3, h4.1, by show q.s < r.e; omega, rfl⟩
      · have e1 : jo1 (o ++ [q]) r = o ++ [q] ++ [r] := by simp [jo1]; intro h1 h2; exact absurd ⟨h1, h2⟩ hj
        rw [e1, List.append_assoc (o ++ [q])]
        exact h
set_option maxRecDepth 100000
end Go.SX
namespace Go.SX
theorem woL_c (s e : Nat) (q : Reg) (rs : List Reg) : woL s e (q :: rs) = wo1 s e q ++ woL s e rs := rfl
theorem wo_out {s e : Nat} {q : Reg} (h : q.e ≤ s ∨ e ≤ q.s) : wo1 s e q = [q] := if_pos h
theorem wo_all {s e : Nat} {q : Reg} (h : ¬ (q.e ≤ s ∨ e ≤ q.s)) (h1 : ¬ q.s < s) (h2 : ¬ e < q.e) : wo1 s e q = [] := by unfold wo1; rw [if_neg h, if_neg h1, if_neg h2]; rfl
theorem wo_left {s e : Nat} {q : Reg} (h : ¬ (q.e ≤ s ∨ e ≤ q.s)) (h1 : q.s < s) (h2 : ¬ e < q.e) : wo1 s e q = [⟨q.s, s, q.p⟩] := by unfold wo1; rw [if_neg h, if_pos h1, if_neg h2]; rfl
theorem woL_apart {s e : Nat} : ∀ {rs : List Reg}, (∀ q ∈ rs, q.e ≤ s ∨ e ≤ q.s) → woL s e rs = rs
  | [], _ => rfl
  | q :: rs, h => by
    have h1 := woL_apart (s := s) (e := e) fun x hx => h x (List.mem_cons_of_mem q hx)
    have h2 := h q (List.mem_cons_self ..)
    simp only [woL, List.flatMap_cons] at *
    rw [h1, wo1, if_pos h2]; rfl
end Go.SX
namespace Go.SX
set_option maxRecDepth 100000
theorem woL_gone {s c : Nat} : ∀ {rs : List Reg}, (∀ q ∈ rs, s ≤ q.s ∧ q.e ≤ c ∧ q.s < q.e) → s < c → woL s c rs = []
  | [], _, _ => rfl
  | q :: rs, h, hs => by
    have h1 := woL_gone (s := s) (c := c) (fun x hx => h x (List.mem_cons_of_mem q hx)) hs
    have h2 := h q (List.mem_cons_self ..)
    rw [woL_c, h1, wo_all (by omega) (by omega) (by omega)]; rfl
theorem Chain.pos : ∀ (xs : List Reg) (a c : Nat), Chain a xs c → ∀ r ∈ xs, r.s < r.e
  | [], a, c, h, r, hr => by cases hr
  | x :: xs, a, c, h, r, hr => by
    rcases List.mem_cons.1 hr with rfl | q
    · exact h.1 ▸ h.2.1
    · exact Chain.pos xs _ _ h.2.2 r q
theorem Chain.cut {s c : Nat} : ∀ (rs : List Reg) (a : Nat), Chain a rs c → a ≤ s → s < c → Chain a (woL s c rs) s
  | [], a, h, h1, h2 => by simp only [Chain] at h; omega
  | r :: rs, a, h, h1, h2 => by
    have h3 := h.1; have h4 := h.2.1
    have h5 := Chain.le rs _ _ h.2.2
    rw [woL_c]
    by_cases q : r.e ≤ s
    · rw [wo_out (.inl q)]
      exact ⟨h3, h4, Chain.cut rs _ h.2.2 q h2⟩
    · have hg : woL s c rs = [] := woL_gone (fun x hx => by
        have := Chain.ge rs _ _ h.2.2 x hx
        have := Chain.pos rs _ _ h.2.2 x hx
        omega) h2
      rw [hg]
      by_cases q2 : a < s
      · rw [wo_left (by omega) (by omega) (by omega)]
        exact ⟨h3, by show r.s < s; omega, rfl⟩
      · rw [wo_all (by omega) (by omega) (by omega)]
        show a = s
        omega
theorem ins_end {r : Reg} : ∀ {rs : List Reg}, (∀ q ∈ rs, ¬ r.s < q.s) → insAt rs r = rs.length := by
  intro rs h
  unfold insAt
  rw [List.findIdx_eq_length]
  intro x hx
  exact decide_eq_false (h x hx)
theorem Chain.put {a s c p : Nat} {rs : List Reg} (h : Chain a (woL s c rs) s) (hs : s < c) : Chain a (joL (wiL rs ⟨s, c, p⟩)) c := by
  have hi : insAt (woL s c rs) ⟨s, c, p⟩ = (woL s c rs).length := ins_end fun q hq => by
    have := Chain.ge _ _ _ h q hq
    have := Chain.pos _ _ _ h q hq
    show ¬ s < q.s; omega
  have e : wiL rs ⟨s, c, p⟩ = woL s c rs ++ [⟨s, c, p⟩] := by
    show (woL s c rs).take (insAt (woL s c rs) ⟨s, c, p⟩) ++ [⟨s, c, p⟩] ++ (woL s c rs).drop (insAt (woL s c rs) ⟨s, c, p⟩) = _
    rw [hi, List.take_length, List.drop_length, List.append_nil]
  rw [e]
  refine Chain.jo _ [] _ _ ?_
  rw [List.nil_append, Chain.app]
  exact ⟨s, h, rfl, hs, rfl⟩
theorem Chain.add {a s c p : Nat} {rs : List Reg} (h : Chain a rs s) (hs : s < c) : Chain a (joL (wiL rs ⟨s, c, p⟩)) c := by
  refine Chain.put ?_ hs
  rw [woL_apart fun q hq => .inl (Chain.ge _ _ _ h q hq).2]
  exact h
theorem Chain.len : ∀ (rs : List Reg) (a c : Nat), Chain a rs c → (∀ r ∈ rs, r.s % 4096 = 0 ∧ r.e % 4096 = 0) → rs.length * 4096 + a ≤ c
  | [], a, c, h, _ => by simp only [Chain] at h; simp; omega
  | r :: rs, a, c, h, hw => by
    have h1 := Chain.len rs _ _ h.2.2 fun x hx => hw x (List.mem_cons_of_mem _ hx)
    have h2 := hw r (List.mem_cons_self ..)
    have h4 := h.1; have h5 := h.2.1
    simp only [List.length_cons]; omega
end Go.SX
namespace Go.SX
set_option maxRecDepth 100000
end Go.SX
