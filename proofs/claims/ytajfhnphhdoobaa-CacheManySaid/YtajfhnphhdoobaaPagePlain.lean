/- Stores of pages: what they are made of; plain laws of bytes. No program. -/
import Derived.Test.YtajfhnphhdoobaaSxMap
import Derived.Test.YtajfhnphhdoobaaSxExt
set_option linter.unusedVariables false
set_option linter.unusedSimpArgs false
namespace Go.SX
open Go.RowKit
variable {P : Program}

def encB (x : Nat) : List Value := [.int .u8 (x : Int)]
theorem encB_len (x : Nat) : (encB x).length = 1 := rfl
theorem encB_one (x : Nat) : (encB x).all one = true := rfl
theorem encB_flat (xs : List Nat) : flat encB xs = xs.map fun x : Nat => Value.int .u8 (x : Int) := by
  induction xs with
  | nil => rfl
  | cons x xs ih => rw [flat_cons, ih]; rfl
theorem encB_rep (n x : Nat) : flat encB (List.replicate n x) = List.replicate n (.int .u8 (x : Int)) := by rw [encB_flat, List.map_replicate]

structure Leaf where
  no : Nat
  blk : Nat
  born : Nat
  dat : List Nat
deriving DecidableEq
structure Stp where
  no : Nat
  val : Nat
  born : Nat
structure StoreD where
  lm : Nat
  sm : Nat
  es : List Leaf
  c1 : Nat
  ss : List Stp
  c2 : Nat
  clock : Nat
  all : Nat
abbrev leafE (es : List Leaf) : Array MapEntry := entA .u64 (fun l : Leaf => (l.no : Int)) (fun l => .pointer (some ⟨l.blk, 0, none⟩)) (fun l => l.born) es
abbrev stpE (ss : List Stp) : Array MapEntry := entA .u64 (fun l : Stp => (l.no : Int)) (fun l => .int .u64 (l.val : Int)) (fun l => l.born) ss
def byteAt (es : List Leaf) (a : Nat) : Nat := match es.find? (fun l => l.no == a / 4096) with | some l => l.dat.getD (a % 4096) 0 | none => 0
def stampAt (ss : List Stp) (n : Nat) : Nat := match ss.find? (fun s => s.no == n) with | some s => s.val | none => 0

theorem mks_one {h : Heap} {t e by_ n : Nat} {z : Value} {k k' : IntKind} {K : Value → Heap → Prop} (hs : slE P t = some (e, 1)) (hb : byP P e = some by_) (hz : zeroP P e = some z) (hc : z.cells = #[z]) (hn : by_ * n ≤ 281474976710656) (hn2 : n < 9223372036854775808)
    (hk : K (.slice (some ⟨h.size, 0, none⟩) n n) (h.push (.cells (List.replicate n z).toArray e (0, 0)))) : @mksK P h t (.int k n) (.int k' n) ⟨K⟩ := by
  unfold mksK makeSliceW
  simp only [hs, obind, hb, hz, Int.toNat_natCast, Nat.mul_one]
  have h3 : ((by_ : Int) * n ≤ 281474976710656) := by
    have : ((by_ * n : Nat) : Int) ≤ 281474976710656 := by omega
    rwa [Int.natCast_mul] at this
  refine ⟨⟨by omega, by omega, h3, by omega⟩, ?_⟩
  have h4 : (if n = 0 then [] else mkCells z n) = List.replicate n z := by
    rw [mk_one z hc]
    split
    · rename_i q; subst q; rfl
    · rfl
  rw [h4]; exact hk

/-- the leaf of a page. -/
theorem byteAt_none {es : List Leaf} {a : Nat} (h : ∀ l ∈ es, (l.no : Int) ≠ ((a / 4096 : Nat) : Int)) : byteAt es a = 0 := by
  unfold byteAt
  have : es.find? (fun l => l.no == a / 4096) = none := by
    rw [List.find?_eq_none]
    intro l hl
    have := h l hl
    simp; omega
  rw [this]
theorem byteAt_some {es : List Leaf} {a j : Nat} (hj : j < es.length) (e : es[j].no = a / 4096) (hb : ∀ i (hi : i < j), (es[i]'(by omega)).no ≠ a / 4096) : byteAt es a = es[j].dat.getD (a % 4096) 0 := by
  unfold byteAt
  have : es.find? (fun l => l.no == a / 4096) = some es[j] := by
    rw [List.find?_eq_some_iff_getElem]
    refine ⟨by simp [e], j, hj, rfl, fun i hi => by simpa using hb i hi⟩
  rw [this]
def getL (es : List Leaf) (addr n c : Nat) : List Nat := (List.range n).map fun i => if i < c then byteAt es (addr + i) else 0
theorem getL_len (es : List Leaf) (addr n c : Nat) : (getL es addr n c).length = n := by simp [getL]
theorem getL_zero (es : List Leaf) (addr n : Nat) : getL es addr n 0 = List.replicate n 0 := by
  apply List.ext_getElem
  · simp [getL]
  · intro i h1 h2; simp [getL]
/-- a piece more, out of a leaf. -/
theorem getL_more {es : List Leaf} {addr n c k j : Nat} (hk : c + k ≤ n) (hj : j < es.length) (hat : (addr + c) % 4096 + k ≤ 4096) (e : es[j].no = (addr + c) / 4096) (hb : ∀ i (hi : i < j), (es[i]'(by omega)).no ≠ (addr + c) / 4096) (hd : es[j].dat.length = 4096) :
    setL (flat encB (getL es addr n c)) c (flat encB ((es[j].dat.drop ((addr + c) % 4096)).take k)) = flat encB (getL es addr n (c + k)) := by
  rw [setL_eq _ _ _ (by simp only [encB_flat, List.length_map, getL_len, List.length_take, List.length_drop]; omega)]
  simp only [encB_flat]
  apply List.ext_getElem?
  intro i
  have hlk : ((es[j].dat.drop ((addr + c) % 4096)).take k).length = k := by rw [List.length_take, List.length_drop]; omega
  simp only [List.length_map, hlk]
  rcases Nat.lt_or_ge i c with h1 | h1
  · rw [List.append_assoc, List.getElem?_append_left (by simp [getL_len]; omega)]
    have h2 : i < c + k := by omega
    have h3 : i < n := by omega
    simp [getL, List.getElem?_take, h1, h2, List.getElem?_range h3]
  · rcases Nat.lt_or_ge i (c + k) with h2 | h2
    · rw [List.getElem?_append_left (by simp only [List.length_append, List.length_take, List.length_map, getL_len, hlk]; omega), List.getElem?_append_right (by simp [getL_len]; omega)]
      simp only [List.length_take, List.length_map, getL_len]
      rw [Nat.min_eq_left (by omega)]
      have hin : i < n := by omega
      have e1 : (addr + i) / 4096 = (addr + c) / 4096 := by omega
      have e2 : (addr + i) % 4096 = (addr + c) % 4096 + (i - c) := by omega
      have hB := byteAt_some (a := addr + i) hj (by rw [e1]; exact e) (fun x hx => by rw [e1]; exact hb x hx)
      simp only [getL, List.getElem?_map, List.getElem?_range hin, Option.map_some, h2, if_true, hB, List.getElem?_take, show i - c < k by omega, List.getElem?_drop, e2]
      rw [List.getElem?_eq_getElem (by omega)]
      simp [show (addr + c) % 4096 + (i - c) < es[j].dat.length by omega]
    · rw [List.getElem?_append_right (by simp only [List.length_append, List.length_take, List.length_map, getL_len, hlk]; omega)]
      simp only [List.length_append, List.length_take, List.length_map, getL_len, hlk, List.getElem?_drop]
      rw [Nat.min_eq_left (by omega), show c + k + (i - (c + k)) = i by omega]
      simp only [getL, List.getElem?_map]
      rcases Nat.lt_or_ge i n with h3 | h3
      · simp [List.getElem?_range h3, show ¬ i < c + k by omega, show ¬ i < c by omega]
      · simp [List.getElem?_eq_none, h3]
theorem getL_skip {es : List Leaf} {addr n c k : Nat} (hat : (addr + c) % 4096 + k ≤ 4096) (hb : ∀ l ∈ es, (l.no : Int) ≠ (((addr + c) / 4096 : Nat) : Int)) : getL es addr n c = getL es addr n (c + k) := by
  apply List.ext_getElem
  · simp [getL]
  · intro i h1 h2
    simp only [getL, List.getElem_map, List.getElem_range]
    by_cases h3 : i < c
    · simp [h3, show i < c + k by omega]
    · by_cases h4 : i < c + k
      · have e1 : (addr + i) / 4096 = (addr + c) / 4096 := by omega
        rw [byteAt_none (a := addr + i) (by rw [e1]; exact hb)]
        simp
      · simp [h3, h4]
theorem getL_far {es : List Leaf} {addr n c : Nat} (hb : ∀ l ∈ es, l.no < 67108864) (h : 274877906944 ≤ addr + c) : getL es addr n c = getL es addr n n := by
  apply List.ext_getElem
  · simp [getL]
  · intro i h1 h2
    have hi : i < n := by simpa [getL] using h1
    simp only [getL, List.getElem_map, List.getElem_range, hi, if_true]
    by_cases h3 : i < c
    · simp [h3]
    · rw [byteAt_none (a := addr + i) (fun l hl => by have := hb l hl; omega)]
      simp
theorem stampAt_hit {ss : List Stp} {n j : Nat} (hj : j < ss.length) (e : ss[j].no = n) (hb : ∀ i (hi : i < j), (ss[i]'(by omega)).no ≠ n) : stampAt ss n = ss[j].val := by
  unfold stampAt
  have : ss.find? (fun s => s.no == n) = some ss[j] := by
    rw [List.find?_eq_some_iff_getElem]
    exact ⟨by simp [e], j, hj, rfl, fun i hi => by simpa using hb i hi⟩
  rw [this]
theorem stampAt_miss {ss : List Stp} {n : Nat} (h : ∀ s ∈ ss, s.no ≠ n) : stampAt ss n = 0 := by
  unfold stampAt
  have : ss.find? (fun s => s.no == n) = none := by rw [List.find?_eq_none]; intro s hs; simpa using h s hs
  rw [this]
theorem stampAt_push {ss : List Stp} {n v b : Nat} (h : ∀ s ∈ ss, s.no ≠ n) (m : Nat) : stampAt (ss ++ [⟨n, v, b⟩]) m = if m = n then v else stampAt ss m := by
  by_cases e : m = n
  · subst e
    rw [if_pos rfl]
    unfold stampAt
    have : ss.find? (fun s => s.no == m) = none := by rw [List.find?_eq_none]; intro s hs; simpa using h s hs
    simp [List.find?_append, this]
  · rw [if_neg e]
    unfold stampAt
    have hne : (n == m) = false := by simpa using fun q : n = m => e q.symm
    simp [List.find?_append, hne]
theorem stampAt_set {ss : List Stp} {n v b j : Nat} (hj : j < ss.length) (e : ss[j].no = n) (hp : ss.Pairwise fun a b => a.no ≠ b.no) (m : Nat) : stampAt (ss.set j ⟨n, v, b⟩) m = if m = n then v else stampAt ss m := by
  induction ss generalizing j with
  | nil => simp at hj
  | cons s ss ih =>
    have hp' := List.pairwise_cons.1 hp
    cases j with
    | zero =>
      simp at e
      simp only [List.set_cons_zero, stampAt, List.find?_cons]
      by_cases q : m = n
      · subst q; simp
      · have h1 : (n == m) = false := by simpa using fun h : n = m => q h.symm
        have h2 : (s.no == m) = false := by rw [e]; exact h1
        simp [q, h1, h2]
    | succ j =>
      have hj' : j < ss.length := by simpa using hj
      have := ih hj' (by simpa using e) hp'.2
      simp only [List.set_cons_succ, stampAt, List.find?_cons] at this ⊢
      cases h1 : s.no == m with
      | true =>
        have h2 : s.no = m := by simpa using h1
        have h3 : m ≠ n := fun q => by
          have := hp'.1 ss[j] (List.getElem_mem hj')
          simp at e; omega
        simp [h3]
      | false => exact this
theorem pairwise_set {α β : Type} (f : α → β) {xs : List α} {j : Nat} (hj : j < xs.length) (x : α) (e : f x = f xs[j]) (h : xs.Pairwise fun a b => f a ≠ f b) : (xs.set j x).Pairwise fun a b => f a ≠ f b := by
  have h1 : (xs.map f).Pairwise (· ≠ ·) := List.pairwise_map.2 h
  have h2 : (xs.set j x).map f = xs.map f := by
    apply List.ext_getElem
    · simp
    · intro i h1 h2
      simp only [List.getElem_map, List.getElem_set]
      split
      · rename_i q; subst q; exact e
      · rfl
  have h3 : ((xs.set j x).map f).Pairwise (· ≠ ·) := by rw [h2]; exact h1
  exact List.pairwise_map.1 h3
theorem pairwise_snoc {α β : Type} (f : α → β) {xs : List α} (x : α) (hn : ∀ y ∈ xs, f y ≠ f x) (h : xs.Pairwise fun a b => f a ≠ f b) : (xs ++ [x]).Pairwise fun a b => f a ≠ f b :=
  List.pairwise_append.2 ⟨h, List.pairwise_singleton _ _, fun a ha b hb => by simp at hb; subst hb; exact hn a ha⟩
theorem byteAt_push {es : List Leaf} (l : Leaf) (h : ∀ x ∈ es, x.no ≠ l.no) (a : Nat) : byteAt (es ++ [l]) a = if a / 4096 = l.no then l.dat.getD (a % 4096) 0 else byteAt es a := by
  by_cases e : a / 4096 = l.no
  · rw [if_pos e]
    unfold byteAt
    have : es.find? (fun s => s.no == a / 4096) = none := by rw [List.find?_eq_none]; intro s hs; have := h s hs; simp; omega
    rw [List.find?_append, this]
    simp [e]
  · rw [if_neg e]
    unfold byteAt
    have hne : (l.no == a / 4096) = false := by simpa using fun q : l.no = a / 4096 => e q.symm
    simp [List.find?_append, hne]
theorem byteAt_set {es : List Leaf} {j : Nat} (l : Leaf) (hj : j < es.length) (e : l.no = es[j].no) (hp : es.Pairwise fun a b => a.no ≠ b.no) (a : Nat) : byteAt (es.set j l) a = if a / 4096 = l.no then l.dat.getD (a % 4096) 0 else byteAt es a := by
  induction es generalizing j with
  | nil => simp at hj
  | cons s es ih =>
    have hp' := List.pairwise_cons.1 hp
    cases j with
    | zero =>
      simp at e
      simp only [List.set_cons_zero, byteAt, List.find?_cons]
      by_cases q : a / 4096 = l.no
      · have h1 : (l.no == a / 4096) = true := by simp [q]
        simp [q]
      · have h1 : (l.no == a / 4096) = false := by simpa using fun h : l.no = a / 4096 => q h.symm
        have h2 : (s.no == a / 4096) = false := by rw [← e]; exact h1
        simp [q, h1, h2]
    | succ j =>
      have hj' : j < es.length := by simpa using hj
      have := ih hj' (by simpa using e) hp'.2
      simp only [List.set_cons_succ, byteAt, List.find?_cons] at this ⊢
      cases h1 : s.no == a / 4096 with
      | true =>
        have h2 : s.no = a / 4096 := by simpa using h1
        have h3 : ¬ a / 4096 = l.no := fun q => by
          have := hp'.1 es[j] (List.getElem_mem hj')
          simp at e; omega
        simp [h3]
      | false => exact this
def spl (dat : List Nat) (at_ : Nat) (ck : List Nat) : List Nat := dat.take at_ ++ ck ++ dat.drop (at_ + ck.length)
theorem spl_len {dat ck : List Nat} {at_ : Nat} (h : at_ + ck.length ≤ dat.length) : (spl dat at_ ck).length = dat.length := by simp [spl]; omega
theorem spl_set {dat ck : List Nat} {at_ : Nat} (h : at_ + ck.length ≤ dat.length) : setL (flat encB dat) at_ (flat encB ck) = flat encB (spl dat at_ ck) := by
  rw [setL_eq _ _ _ (by simpa [encB_flat] using h)]
  simp [spl, encB_flat, List.map_take, List.map_drop]
theorem spl_get {dat ck : List Nat} {at_ : Nat} (h : at_ + ck.length ≤ dat.length) (i : Nat) (hi : i < dat.length) : (spl dat at_ ck).getD i 0 = if at_ ≤ i ∧ i < at_ + ck.length then ck.getD (i - at_) 0 else dat.getD i 0 := by
  simp only [spl, List.getD_eq_getElem?_getD]
  rcases Nat.lt_or_ge i at_ with h1 | h1
  · rw [List.append_assoc, List.getElem?_append_left (by simp; omega), List.getElem?_take, if_pos h1, if_neg (by omega)]
  · rcases Nat.lt_or_ge i (at_ + ck.length) with h2 | h2
    · rw [List.getElem?_append_left (by simp; omega), List.getElem?_append_right (by simp; omega), if_pos ⟨h1, h2⟩, List.length_take, Nat.min_eq_left (by omega)]
    · rw [List.getElem?_append_right (by simp; omega), if_neg (by omega), List.getElem?_drop]
      simp only [List.length_append, List.length_take]
      rw [Nat.min_eq_left (by omega), show at_ + ck.length + (i - (at_ + ck.length)) = i by omega]
theorem spl_lt {dat ck : List Nat} {at_ : Nat} (h1 : ∀ x ∈ dat, x < 256) (h2 : ∀ x ∈ ck, x < 256) : ∀ x ∈ spl dat at_ ck, x < 256 := by
  intro x hx
  simp only [spl, List.mem_append] at hx
  rcases hx with (h | h) | h
  · exact h1 x (List.mem_of_mem_take h)
  · exact h2 x h
  · exact h1 x (List.mem_of_mem_drop h)
def touched (lo hi m : Nat) : Prop := ∃ a, lo ≤ a ∧ a < hi ∧ a < 274877906944 ∧ a / 4096 = m
theorem filter_lt {α : Type} (p q : α → Bool) (hpq : ∀ x, q x = true → p x = true) {l : α} (hp : p l = true) (hq : q l = false) : ∀ (es : List α), l ∈ es → (es.filter q).length < (es.filter p).length
  | [], h => by cases h
  | x :: es, h => by
    have hle : (es.filter q).length ≤ (es.filter p).length := by
      clear h
      induction es with
      | nil => simp
      | cons y ys ih =>
        simp only [List.filter_cons]
        cases hy : q y with
        | true => rw [hpq y hy]; simpa using ih
        | false => cases p y <;> simp <;> omega
    rcases List.mem_cons.1 h with rfl | h'
    · simp only [List.filter_cons, hp, hq]; simp; omega
    · have := filter_lt p q hpq hp hq es h'
      simp only [List.filter_cons]
      cases hx : q x with
      | true => rw [hpq x hx]; simpa using this
      | false => cases p x <;> simp <;> omega
/-! ### stamps -/
def stampV (D : StoreD) (m : Nat) : Nat := max (stampAt D.ss m) D.all
structure SInv (D : StoreD) : Prop where
  all : D.all ≤ D.clock
  each : ∀ m, stampAt D.ss m ≤ D.clock
/-- stamps go on: those of 'T' are others. -/
def Sr (D D' : StoreD) (n : Nat) (T : Nat → Prop) : Prop := D.clock + n < 18446744073709551616 → SInv D → SInv D' ∧ D.clock ≤ D'.clock ∧ D'.clock ≤ D.clock + n ∧ ∀ m, stampV D m ≤ stampV D' m ∧ (T m → stampV D m < stampV D' m)
theorem Sr.refl (D : StoreD) : Sr D D 0 fun _ => False := fun _ i => ⟨i, Nat.le_refl _, by omega, fun m => ⟨Nat.le_refl _, fun h => h.elim⟩⟩
theorem Sr.trans {D D1 D2 : StoreD} {a b : Nat} {S T : Nat → Prop} (x : Sr D D1 a S) (y : Sr D1 D2 b T) : Sr D D2 (a + b) fun m => S m ∨ T m := by
  intro h i
  obtain ⟨i1, c1, c2, s1⟩ := x (by omega) i
  obtain ⟨i2, d1, d2, s2⟩ := y (by omega) i1
  refine ⟨i2, by omega, by omega, fun m => ⟨Nat.le_trans (s1 m).1 (s2 m).1, fun q => ?_⟩⟩
  rcases q with q | q
  · exact Nat.lt_of_lt_of_le ((s1 m).2 q) (s2 m).1
  · exact Nat.lt_of_le_of_lt (s1 m).1 ((s2 m).2 q)
theorem Sr.le {D D' : StoreD} {n k : Nat} {S T : Nat → Prop} (x : Sr D D' n S) (h : n ≤ k) (q : ∀ m, T m → S m) : Sr D D' k T := by
  intro hc i
  obtain ⟨i1, c1, c2, s1⟩ := x (by omega) i
  exact ⟨i1, c1, by omega, fun m => ⟨(s1 m).1, fun t => (s1 m).2 (q m t)⟩⟩
theorem Sr.mark {D D' : StoreD} {n : Nat} (h1 : D'.all = D.all) (h2 : D'.clock = (D.clock + 1) % 18446744073709551616) (h3 : ∀ m, stampAt D'.ss m = if m = n then D'.clock else stampAt D.ss m) : Sr D D' 1 fun m => m = n := by
  intro hc i
  have h2' : D'.clock = D.clock + 1 := by rw [h2, Nat.mod_eq_of_lt hc]
  have i1 := i.all
  refine ⟨⟨by omega, fun m => ?_⟩, by omega, by omega, fun m => ?_⟩
  · rw [h3]; have := i.each m; split <;> omega
  · have := i.each m
    unfold stampV
    rw [h3, h1]
    constructor
    · split <;> omega
    · intro q; rw [if_pos q]; omega
theorem Sr.same {D D' : StoreD} (h1 : D'.all = D.all) (h2 : D'.clock = D.clock) (h3 : D'.ss = D.ss) : Sr D D' 0 fun _ => False := by
  intro hc i
  refine ⟨⟨by rw [h1, h2]; exact i.all, fun m => by rw [h3, h2]; exact i.each m⟩, by omega, by omega, fun m => ⟨by unfold stampV; rw [h1, h3]; exact Nat.le_refl _, fun q => q.elim⟩⟩
/-! ### what is left of a list of leaves -/
def insideL (a b : Nat) (l : Leaf) : Bool := decide (a ≤ l.no * 4096 ∧ l.no * 4096 < b)
def leftL (a b : Nat) (seen : Array Nat) (es : List Leaf) : List Leaf := es.filter fun l => !(insideL a b l && seen.contains l.born)
theorem leftL_nil (a b : Nat) (es : List Leaf) : leftL a b #[] es = es := by simp [leftL]
theorem leftL_out {a b : Nat} {seen : Array Nat} {es : List Leaf} {l : Leaf} (hl : l ∈ es) (hp : es.Pairwise fun x y => x.born ≠ y.born) (hi : insideL a b l = false) : leftL a b (seen.push l.born) es = leftL a b seen es := by
  unfold leftL
  apply List.filter_congr
  intro x hx
  by_cases e : x.born = l.born
  · have : x = l := by
      rcases List.mem_iff_getElem.1 hx with ⟨i, hi', rfl⟩
      rcases List.mem_iff_getElem.1 hl with ⟨j, hj, rfl⟩
      rcases Nat.lt_trichotomy i j with q | q | q
      · exact absurd e (List.pairwise_iff_getElem.1 hp i j hi' hj q)
      · subst q; rfl
      · exact absurd e.symm (List.pairwise_iff_getElem.1 hp j i hj hi' q)
    subst this
    simp [hi]
  · simp [e]
theorem filter_erase {α : Type} [DecidableEq α] (p q : α → Bool) : ∀ (es : List α) (j : Nat) (hj : j < (es.filter p).length), (∀ x ∈ es, q x = (p x && decide (x ≠ (es.filter p)[j]))) → es.Nodup → (es.filter p).eraseIdx j = es.filter q
  | [], j, hj, _, _ => by simp at hj
  | x :: es, j, hj, hq, hn => by
    have hn' := List.nodup_cons.1 hn
    cases hp : p x with
    | false =>
      have h0 : (x :: es).filter p = es.filter p := by simp [hp]
      have h1 : q x = false := by rw [hq x (by simp)]; simp [hp]
      have h2 : (x :: es).filter q = es.filter q := by simp [h1]
      rw [h2]
      have hj' : j < (es.filter p).length := by rw [h0] at hj; exact hj
      have := filter_erase p q es j hj' (fun y hy => by rw [hq y (by simp [hy])]; congr 2; simp [h0]) hn'.2
      rw [← this]; simp [h0]
    | true =>
      have h0 : (x :: es).filter p = x :: es.filter p := by simp [hp]
      cases j with
      | zero =>
        have h1 : q x = false := by rw [hq x (by simp)]; simp [h0]
        have h2 : (x :: es).filter q = es.filter q := by simp [h1]
        rw [h2]
        have h3 : es.filter q = es.filter p := by
          apply List.filter_congr
          intro y hy
          rw [hq y (by simp [hy])]
          have : y ≠ x := fun e => hn'.1 (e ▸ hy)
          simp [h0, this]
        rw [h3]; simp [h0]
      | succ j =>
        have hj' : j < (es.filter p).length := by rw [h0] at hj; simpa using hj
        have hel : ((x :: es).filter p)[j + 1] = (es.filter p)[j] := by simp [h0]
        have hmem : (es.filter p)[j] ∈ es := (List.mem_filter.1 (List.getElem_mem hj')).1
        have hxn : x ≠ (es.filter p)[j] := fun e => hn'.1 (e ▸ hmem)
        have h1 : q x = true := by rw [hq x (by simp)]; simp [hp, h0, hxn]
        have h2 : (x :: es).filter q = x :: es.filter q := by simp [h1]
        rw [h2]
        have := filter_erase p q es j hj' (fun y hy => by rw [hq y (by simp [hy])]; congr 2; simp [h0]) hn'.2
        rw [← this]
        simp [h0]
theorem filter_erase' {α : Type} [DecidableEq α] (p q : α → Bool) {es : List α} {j : Nat} {l : α} (h : (es.filter p)[j]? = some l) (hq : ∀ x ∈ es, q x = (p x && decide (x ≠ l))) (hn : es.Nodup) : (es.filter p).eraseIdx j = es.filter q := by
  obtain ⟨hj, he⟩ := List.getElem?_eq_some_iff.1 h
  exact filter_erase p q es j hj (fun x hx => by rw [hq x hx, he]) hn
theorem nodup_born {es : List Leaf} (hp : es.Pairwise fun x y => x.born ≠ y.born) : es.Nodup := hp.imp fun h e => h (by rw [e])
theorem leftL_in {a b : Nat} {seen : Array Nat} {es : List Leaf} {j : Nat} (hp : es.Pairwise fun x y => x.born ≠ y.born) (hj : j < (leftL a b seen es).length) (hi : insideL a b (leftL a b seen es)[j] = true) :
    (leftL a b seen es).eraseIdx j = leftL a b (seen.push (leftL a b seen es)[j].born) es := by
  have hm := (List.mem_filter.1 (List.getElem_mem hj)).1
  obtain ⟨l, hl⟩ : ∃ l, l = (leftL a b seen es)[j] := ⟨_, rfl⟩
  rw [← hl] at hi hm ⊢
  refine filter_erase' _ _ (l := l) (by rw [hl]; exact List.getElem?_eq_getElem hj) (fun x hx => ?_) (nodup_born hp)
  by_cases e : x = l
  · subst e; simp [hi]
  · have hb : x.born ≠ l.born := by
      intro q
      rcases List.mem_iff_getElem.1 hx with ⟨i, hi', rfl⟩
      rcases List.mem_iff_getElem.1 hm with ⟨k, hk, rfl⟩
      rcases Nat.lt_trichotomy i k with z | z | z
      · exact List.pairwise_iff_getElem.1 hp i k hi' hk z q
      · subst z; exact e rfl
      · exact List.pairwise_iff_getElem.1 hp k i hk hi' z q.symm
    simp [e, hb]
theorem byteAt_left {a b : Nat} {es es' : List Leaf} (h1 : a % 4096 = 0) (h2 : b % 4096 = 0) (hp : es.Pairwise fun x y => x.no ≠ y.no) (he : es' = es.filter fun l => !insideL a b l) (x : Nat) : byteAt es' x = if a ≤ x ∧ x < b then 0 else byteAt es x := by
  subst he
  split
  · rename_i q
    apply byteAt_none
    intro l hl e
    have := (List.mem_filter.1 hl).2
    simp [insideL] at this
    omega
  · rename_i q
    unfold byteAt
    rw [List.find?_filter]
    congr 1
    have : ∀ (es : List Leaf), es.find? (fun l => (!insideL a b l) && l.no == x / 4096) = es.find? (fun l => l.no == x / 4096) := by
      intro es
      induction es with
      | nil => rfl
      | cons y ys ih =>
        rw [List.find?_cons, List.find?_cons, ih]
        cases h : y.no == x / 4096 with
        | false => simp
        | true =>
          have : y.no = x / 4096 := by simpa using h
          have : insideL a b y = false := by simp [insideL]; omega
          simp [this]
    have h3 : (fun l : Leaf => decide ((!insideL a b l) = true ∧ (l.no == x / 4096) = true)) = fun l => !insideL a b l && l.no == x / 4096 := by funext l; cases insideL a b l <;> cases (l.no == x / 4096) <;> rfl
    rw [h3]
    exact this es
end Go.SX
