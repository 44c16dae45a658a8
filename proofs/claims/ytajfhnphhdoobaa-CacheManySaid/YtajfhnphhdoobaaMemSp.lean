/- Spaces: what they are made of; plain laws. No program. -/
import Derived.Test.YtajfhnphhdoobaaRegPlain
import Derived.Test.YtajfhnphhdoobaaPagePlain
set_option linter.unusedVariables false
set_option linter.unusedSimpArgs false
namespace Go.SX
structure MemD where
  l : Nat
  bl : Option Nat
  rs : List Reg
  p : Nat
  D : StoreD
  most : Nat
  base : Nat
  fin : Nat
def upN (n : Nat) : Nat := (n + 4095) / 4096 * 4096
def upO (n : Nat) : Option Nat := if n ≤ 274877906944 then some (upN n) else none
def spanO (a n : Nat) : Option Nat := if n ≤ 274877906944 ∧ a % 4096 = 0 ∧ a ≤ 274877906944 ∧ n ≠ 0 ∧ upN n ≤ 274877906944 - a then some (a + upN n) else none
theorem upN_le {n : Nat} (h : n ≤ 274877906944) : upN n ≤ 274877906944 := by unfold upN; omega
theorem spanO_some {a n e : Nat} (h : spanO a n = some e) : spanB a e = true ∧ e = a + upN n ∧ n ≤ 274877906944 ∧ n ≠ 0 := by
  unfold spanO at h
  split at h
  · rename_i q
    cases h
    refine ⟨?_, rfl, q.1, q.2.2.2.1⟩
    simp only [spanB, decide_eq_true_eq]
    unfold upN at *; omega
  · cases h
def memAt (M : MemD) (a : Nat) : Nat := byteAt M.D.es a
def errV (o : Option Unit) : Value := match o with | some _ => .int .i64 0 | none => .int .i64 12
end Go.SX
set_option linter.unusedVariables false
set_option linter.unusedSimpArgs false
namespace Go.SX
def freeB' (rs : List Reg) (s e : Nat) : Bool := spanB s e && !(rs.any fun q => decide (q.s < e ∧ s < q.e))
def roomO (rs : List Reg) (n : Nat) : Option Nat := roomL rs.reverse 274877833216 (upP n)
def whereO (rs : List Reg) (a n : Nat) : Option Nat :=
  match spanO a n with
  | some e => if a ≠ 0 ∧ freeB' rs a e = true then some a else roomO rs n
  | none => roomO rs n
theorem upP_upN {n : Nat} (h : n ≠ 0) : upP n = upN n := by unfold upP upN; omega
end Go.SX

set_option linter.unusedVariables false
set_option linter.unusedSimpArgs false
namespace Go.SX
theorem roomL_le : ∀ (rs : List Reg) (e n b : Nat), roomL rs e n = some b → b + n ≤ e
  | [], e, n, b, h => by
    simp only [roomL] at h
    split at h
    · cases h; omega
    · cases h
  | r :: rs, e, n, b, h => by
    simp only [roomL] at h
    split at h
    · rename_i q
      cases h; omega
    · have := roomL_le rs _ n b h; omega
theorem whereO_lt {rs : List Reg} {a n b : Nat} (h : whereO rs a n = some b) : b < 274877906944 + 1 := by
  unfold whereO at h
  have hr : ∀ b, roomO rs n = some b → b ≤ 274877833216 := by
    intro b hb
    have := roomL_le _ _ _ _ hb
    omega
  split at h
  · rename_i e he
    split at h
    · cases h
      unfold spanO at he
      split at he
      · omega
      · cases he
    · have := hr b h; omega
  · have := hr b h; omega
end Go.SX
set_option linter.unusedVariables false
set_option linter.unusedSimpArgs false
namespace Go.SX
def goodN (n : Int) : Bool := decide (n = 1 ∨ n = 2 ∨ n = 4 ∨ n = 8)
def adr (a i : Nat) : Nat := (a + i) % 18446744073709551616
/-- the first of 'n' places that may not be used so; places go round. -/
inductive FirstN (rs : List Reg) (a n prot : Nat) : Option Nat → Prop
  | none (h : ∀ i, i < n → okAt rs prot (adr a i)) : FirstN rs a n prot none
  | some (i : Nat) (hi : i < n) (h1 : ¬ okAt rs prot (adr a i)) (h : ∀ j, j < i → okAt rs prot (adr a j)) : FirstN rs a n prot (some (adr a i))
def fltA (k a : Nat) : Value := .agg #[.int .i64 k, .int .u64 a]
theorem okAt_lt {rs : List Reg} {p a : Nat} (w : wfR rs) (h : okAt rs p a) : a < 274877906944 := by
  obtain ⟨r, h1, _⟩ := h
  have := atL_mem h1
  have := w.each r this.1
  omega
/-- where all may be used, places do not go round. -/
theorem FirstN.far {rs : List Reg} {a n p : Nat} (w : wfR rs) (h : ∀ i, i < n → okAt rs p (adr a i)) (hn : 0 < n) (ha : a < 18446744073709551616) (hn2 : n ≤ 4194304) : a + n ≤ 274877906944 ∧ ∀ i, i < n → adr a i = a + i := by
  have h0 := okAt_lt w (h 0 hn)
  have e0 : adr a 0 = a := by unfold adr; omega
  rw [e0] at h0
  have h1 := okAt_lt w (h (n - 1) (by omega))
  unfold adr at h1
  refine ⟨by omega, fun i hi => by unfold adr; omega⟩
def peekL (M : MemD) (a n : Nat) : List Nat := (List.range n).map fun i => memAt M (a + i)
theorem peekL_get (M : MemD) (a n : Nat) : getL M.D.es a n n = peekL M a n := by
  unfold getL peekL memAt
  apply List.map_congr_left
  intro i hi
  simp at hi
  simp [hi]
theorem peekL_len (M : MemD) (a n : Nat) : (peekL M a n).length = n := by simp [peekL]
end Go.SX
