/- Lists of regions: what is left without a span, what joins, what a list with one more is; plain laws. No program. -/
import Derived.Test.YtajfhnphhdoobaaSxHeap
set_option linter.unusedVariables false
set_option linter.unusedSimpArgs false
namespace Go.SX

structure Reg where
  s : Nat
  e : Nat
  p : Nat
deriving DecidableEq
def encR (r : Reg) : List Value := [.int .u64 r.s, .int .u64 r.e, .int .i64 r.p]
theorem encR_len (r : Reg) : (encR r).length = 3 := rfl
theorem encR_one (r : Reg) : (encR r).all one = true := rfl

def wo1 (s e : Nat) (r : Reg) : List Reg := if r.e ≤ s ∨ e ≤ r.s then [r] else (if r.s < s then [⟨r.s, s, r.p⟩] else []) ++ (if e < r.e then [⟨e, r.e, r.p⟩] else [])
def woL (s e : Nat) (rs : List Reg) : List Reg := rs.flatMap (wo1 s e)
def jo1 (out : List Reg) (r : Reg) : List Reg :=
  match out.getLast? with
  | some q => if q.e = r.s ∧ q.p = r.p then out.dropLast ++ [⟨q.s, r.e, q.p⟩] else out ++ [r]
  | none => out ++ [r]
def joL (rs : List Reg) : List Reg := rs.foldl jo1 []
def insAt (rs : List Reg) (r : Reg) : Nat := rs.findIdx fun x => decide (r.s < x.s)
def wiL (rs : List Reg) (r : Reg) : List Reg := (woL r.s r.e rs).take (insAt (woL r.s r.e rs) r) ++ [r] ++ (woL r.s r.e rs).drop (insAt (woL r.s r.e rs) r)

theorem woL_snoc (s e : Nat) (rs : List Reg) (r : Reg) : woL s e (rs ++ [r]) = woL s e rs ++ wo1 s e r := by simp [woL]
theorem take_snoc {α : Type} (xs : List α) (i : Nat) (h : i < xs.length) : xs.take (i + 1) = xs.take i ++ [xs[i]] := by rw [List.take_succ_eq_append_getElem h]
theorem wo1_len (s e : Nat) (r : Reg) : (wo1 s e r).length ≤ 2 := by unfold wo1; repeat' split <;> simp
theorem woL_len (s e : Nat) (rs : List Reg) : (woL s e rs).length ≤ 2 * rs.length := by
  induction rs with
  | nil => simp [woL]
  | cons r rs ih => have := wo1_len s e r; simp only [woL, List.flatMap_cons, List.length_append, List.length_cons] at *; omega
theorem joL_snoc (rs : List Reg) (r : Reg) : joL (rs ++ [r]) = jo1 (joL rs) r := by simp [joL]
theorem jo1_len (out : List Reg) (r : Reg) : (jo1 out r).length ≤ out.length + 1 := by
  unfold jo1; split
  · split
    · simp only [List.length_append, List.length_dropLast, List.length_cons, List.length_nil]; omega
    · simp
  · simp
theorem joL_len (rs : List Reg) : (joL rs).length ≤ rs.length := by
  suffices h : ∀ (rs out : List Reg), (rs.foldl jo1 out).length ≤ out.length + rs.length by simpa [joL] using h rs []
  intro rs
  induction rs with
  | nil => simp
  | cons r rs ih => intro out; have := ih (jo1 out r); have := jo1_len out r; simp only [List.foldl_cons, List.length_cons]; omega
/-- the place of the first that is so; -1: there is none. -/
def idxOf (p : Reg → Bool) (rs : List Reg) : Int := if rs.findIdx p < rs.length then (rs.findIdx p : Int) else -1
theorem idxOf_hit {p : Reg → Bool} {rs : List Reg} {i : Nat} (hi : i < rs.length) (h : p rs[i] = true) (hb : ∀ j (hj : j < i), p (rs[j]'(by omega)) = false) : idxOf p rs = i := by
  have e : rs.findIdx p = i := (List.findIdx_eq hi).2 ⟨h, fun j hj => by simpa using hb j hj⟩
  unfold idxOf; rw [e, if_pos hi]
theorem idxOf_none {p : Reg → Bool} {rs : List Reg} (hb : ∀ j (hj : j < rs.length), p rs[j] = false) : idxOf p rs = -1 := by
  have e : rs.findIdx p = rs.length := List.findIdx_eq_length.2 fun x hx => by
    obtain ⟨j, hj, rfl⟩ := List.getElem_of_mem hx; exact hb j hj
  unfold idxOf; rw [e, if_neg (by omega)]
theorem idxOf_get {p : Reg → Bool} {rs : List Reg} {i : Nat} (h : idxOf p rs = i) : ∃ hi : i < rs.length, rs.find? p = some rs[i] := by
  unfold idxOf at h
  split at h
  · rename_i hl
    have e : rs.findIdx p = i := by omega
    subst e
    exact ⟨hl, by rw [List.find?_eq_getElem?_findIdx, List.getElem?_eq_getElem hl]⟩
  · omega
theorem idxOf_neg {p : Reg → Bool} {rs : List Reg} (h : idxOf p rs < 0) : rs.find? p = none := by
  unfold idxOf at h
  split at h
  · omega
  · rename_i hl
    rw [List.find?_eq_getElem?_findIdx, List.getElem?_eq_none (by omega)]
def spanB (s e : Nat) : Bool := decide (s % 4096 = 0 ∧ e % 4096 = 0 ∧ s < e ∧ e ≤ 274877906944)
def pagesL (rs : List Reg) : Nat := (rs.map fun r => (r.e - r.s) / 4096).sum
def inR (a : Nat) (r : Reg) : Bool := decide (r.s ≤ a ∧ a < r.e)
def atL (rs : List Reg) (a : Nat) : Option Reg := rs.find? (inR a)
structure wfR (rs : List Reg) : Prop where
  ord : rs.Pairwise fun a b => a.e ≤ b.s
  each : ∀ r ∈ rs, r.s % 4096 = 0 ∧ r.e % 4096 = 0 ∧ r.s < r.e ∧ r.e ≤ 274877906944 ∧ r.p ≤ 7
theorem atL_mem {rs : List Reg} {a : Nat} {r : Reg} (h : atL rs a = some r) : r ∈ rs ∧ r.s ≤ a ∧ a < r.e := by
  unfold atL at h
  have h1 := List.find?_some h
  have h2 := List.mem_of_find?_eq_some h
  simp [inR] at h1
  exact ⟨h2, h1⟩
theorem atL_uniq {rs : List Reg} (w : wfR rs) {a : Nat} {r : Reg} (hr : r ∈ rs) (h1 : r.s ≤ a) (h2 : a < r.e) : atL rs a = some r := by
  obtain ⟨w1, w2⟩ := w
  unfold atL
  induction rs with
  | nil => cases hr
  | cons x xs ih =>
    rw [List.find?_cons]
    have hx := List.pairwise_cons.1 w1
    rcases List.mem_cons.1 hr with rfl | hm
    · have : inR a r = true := by simp [inR, h1, h2]
      rw [this]
    · have := hx.1 r hm
      have hn : inR a x = false := by simp [inR]; omega
      rw [hn]
      exact ih hm hx.2 fun r hr => w2 r (List.mem_cons_of_mem _ hr)
theorem atL_same {rs : List Reg} (w : wfR rs) {a a' : Nat} {r : Reg} (h : atL rs a = some r) (h1 : a ≤ a') (h2 : a' < r.e) : atL rs a' = some r := by
  have := atL_mem h
  exact atL_uniq w this.1 (by omega) h2
def okAt (rs : List Reg) (prot a : Nat) : Prop := ∃ r, atL rs a = some r ∧ r.p &&& prot = prot
inductive FirstS (rs : List Reg) (s e prot : Nat) : Option Nat → Prop
  | none (h : ∀ a, s ≤ a → a < e → okAt rs prot a) : FirstS rs s e prot none
  | some (c : Nat) (h1 : s ≤ c) (h2 : c < e) (h3 : ¬ okAt rs prot c) (h : ∀ a, s ≤ a → a < c → okAt rs prot a) : FirstS rs s e prot (some c)
theorem bitI_and_i64 (a b : Nat) (ha : a < 9223372036854775808) (hb : b < 9223372036854775808) : bitI .and .i64 (a : Int) (b : Int) = ((a &&& b : Nat) : Int) := by
  have h1 : BitVec.ofInt 64 (a : Int) = BitVec.ofNat 64 a := by simp
  have h2 : BitVec.ofInt 64 (b : Int) = BitVec.ofNat 64 b := by simp
  show IntKind.i64.wrap ((((BitVec.ofInt 64 (a : Int)) &&& (BitVec.ofInt 64 (b : Int))).toNat : Nat) : Int) = _
  rw [h1, h2]
  have h3 : (BitVec.ofNat 64 a &&& BitVec.ofNat 64 b).toNat = a &&& b := by
    simp [BitVec.toNat_and, Nat.mod_eq_of_lt (show a < 18446744073709551616 by omega), Nat.mod_eq_of_lt (show b < 18446744073709551616 by omega)]
  rw [h3]
  have h4 : a &&& b ≤ a := Nat.and_le_left
  exact wr_i64 _ (by omega) (by omega)
def atV : Option Reg → Value
  | some r => .tuple #[.agg #[.int .u64 r.s, .int .u64 r.e, .int .i64 r.p], .bool true]
  | none => .tuple #[.agg #[.int .u64 0, .int .u64 0, .int .i64 0], .bool false]
def placeV : Option Nat → Value
  | some a => .tuple #[.int .u64 a, .bool true]
  | none => .tuple #[.int .u64 0, .bool false]
theorem idxOf_ins (p : Reg → Bool) (rs : List Reg) : (idxOf p rs < 0 ∧ rs.findIdx p = rs.length) ∨ (¬ idxOf p rs < 0 ∧ idxOf p rs = (rs.findIdx p : Nat) ∧ rs.findIdx p < rs.length) := by
  have h1 := List.findIdx_le_length (p := p) (xs := rs)
  unfold idxOf
  split <;> omega
/-- the greatest place where there is some; the regions from the last to the first. -/
def roomL : List Reg → Nat → Nat → Option Nat
  | [], e, n => if 4096 ≤ e ∧ n ≤ e - 4096 then some (e - n) else none
  | r :: rs, e, n => if r.e ≤ e ∧ n ≤ e - r.e then some (e - n) else roomL rs (min e r.s) n
def upP (n : Nat) : Nat := max ((n + 4095) / 4096) 1 * 4096
theorem min_int (a b : Nat) : (if (b : Int) < a then (b : Int) else a) = ((min a b : Nat) : Int) := by split <;> omega
theorem max_int (a b : Nat) : (if (a : Int) < b then (b : Int) else a) = ((max a b : Nat) : Int) := by split <;> omega
end Go.SX
