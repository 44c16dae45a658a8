/- MemBytes, the walk. No condition. -/
import Derived.Test.YteoiokeiddlchaaGreatMemG
set_option linter.unusedVariables false
set_option linter.unusedSimpArgs false
namespace Go.SX.G
open Go Go.SX Go.Proofs
set_option maxRecDepth 100000
set_option maxHeartbeats 2000000
/-- a store where all may be written. -/
theorem mstore_ok {h : Heap} {s : Nat} {M : MemD} (a n v : Nat) (r : MR h s M) (ha : a < 18446744073709551616) (hv : v < 18446744073709551616) (hn : goodN n = true) (ok : ∀ i, i < n → okAt M.rs 2 (adr a i)) :
    Fn Tryz.prog 55 [ptr s 0, .int .u64 a, .int .i64 n, .int .u64 v] h fun x h' => x = fltA 0 0 ∧ ∃ M', Chg h h' s M M' n (touched a (a + n)) ∧ M'.rs = M.rs ∧ ∀ y, memAt M' y = if a ≤ y ∧ y < a + n then v / 256 ^ (y - a) % 256 else memAt M y := by
  refine (mstore_c a n v r ha hv).mono ?_
  intro x h' hx
  cases hx with
  | no p k ne =>
    exfalso
    cases p with
    | bad c => rw [hn] at c; cases c
    | flt c b f ex => cases f with | some i hi h1 h2 => exact h1 (ok i hi)
    | ok c f ex => obtain ⟨b, ne⟩ := ne; rw [ex] at ne; simp [fltA] at ne
  | ok c f ex M' g rs byte => exact ⟨ex, M', g, rs, byte⟩
theorem mload_ok {h : Heap} {s : Nat} {M : MemD} (a n : Nat) (r : MR h s M) (ha : a < 18446744073709551616) (hn : goodN n = true) (ok : ∀ i, i < n → okAt M.rs 1 (adr a i)) :
    Fn Tryz.prog 56 [ptr s 0, .int .u64 a, .int .i64 n] h fun x h' => x = .tuple #[.int .u64 (le (peekL M a n) : Nat), fltA 0 0] ∧ Keeps h.size h h' := by
  refine (mload_c a n r ha).mono ?_
  intro x h' ⟨hx, k⟩
  refine ⟨?_, k⟩
  cases hx with
  | bad c => rw [hn] at c; cases c
  | flt c b f ex => cases f with | some i hi h1 h2 => exact (h1 (ok i hi)).elim
  | ok c f ex => exact ex
theorem ones_byte (i : Nat) (hi : i < 8) : 18446744073709551615 / 256 ^ i % 256 = 255 := by
  have : i = 0 ∨ i = 1 ∨ i = 2 ∨ i = 3 ∨ i = 4 ∨ i = 5 ∨ i = 6 ∨ i = 7 := by omega
  rcases this with q | q | q | q | q | q | q | q <;> subst q <;> decide
theorem whole_eq (M : MemD) (a sz x : Nat) (hx : x < 18446744073709551616) (hsz : sz = 1 ∨ sz = 2 ∨ sz = 4 ∨ sz = 8) (hm : ∀ i, i < 8 → memAt M (a + i) = if i < sz then x / 256 ^ i % 256 else 255) :
    le (peekL M a 8) = x % 256 ^ sz + (18446744073709551616 - 256 ^ sz) := by
  have : peekL M a 8 = bytesOf (x % 256 ^ sz + (18446744073709551616 - 256 ^ sz)) 8 := by
    unfold peekL bytesOf
    apply List.map_congr_left
    intro i hi
    simp at hi
    rw [hm i hi]
    have : i = 0 ∨ i = 1 ∨ i = 2 ∨ i = 3 ∨ i = 4 ∨ i = 5 ∨ i = 6 ∨ i = 7 := by omega
    rcases hsz with q | q | q | q <;> subst q <;> rcases this with q | q | q | q | q | q | q | q <;> subst q <;> simp <;> omega
  rw [this, le_bytes]
  rcases hsz with q | q | q | q <;> subst q <;> omega
theorem and_u64 (a b : Nat) (ha : a < 18446744073709551616) (hb : b < 18446744073709551616) : bitI .and .u64 (a : Int) (b : Int) = ((a &&& b : Nat) : Int) := by
  have ea : (a : Int) = ((BitVec.ofNat 64 a).toNat : Int) := by simp; omega
  have eb : (b : Int) = ((BitVec.ofNat 64 b).toNat : Int) := by simp; omega
  rw [ea, eb, bv_and, BitVec.toNat_and, BitVec.toNat_ofNat, BitVec.toNat_ofNat, Nat.mod_eq_of_lt ha, Nat.mod_eq_of_lt hb]
theorem or_u64 (a b : Nat) (ha : a < 18446744073709551616) (hb : b < 18446744073709551616) : bitI .or .u64 (a : Int) (b : Int) = ((a ||| b : Nat) : Int) := by
  have ea : (a : Int) = ((BitVec.ofNat 64 a).toNat : Int) := by simp; omega
  have eb : (b : Int) = ((BitVec.ofNat 64 b).toNat : Int) := by simp; omega
  rw [ea, eb, bv_or, BitVec.toNat_or, BitVec.toNat_ofNat, BitVec.toNat_ofNat, Nat.mod_eq_of_lt ha, Nat.mod_eq_of_lt hb]
theorem want_eq (x sz : Nat) (hx : x < 18446744073709551616) (h : sz = 1 ∨ sz = 2 ∨ sz = 4) :
    bitI .or .u64 (bitI .and .u64 (x : Int) (IntKind.u64.wrap (shlI .u64 1 (8 * (sz : Int)) - 1))) (bitI .xor .u64 (if IntKind.u64.signed = true then -1 else IntKind.u64.max) (IntKind.u64.wrap (shlI .u64 1 (8 * (sz : Int)) - 1)))
      = ((x % 256 ^ sz + (18446744073709551616 - 256 ^ sz) : Nat) : Int) := by
  obtain ⟨m, e1, e2⟩ : ∃ m : Nat, IntKind.u64.wrap (shlI .u64 1 (8 * (sz : Int)) - 1) = ((256 ^ sz - 1 : Nat) : Int) ∧ bitI .xor .u64 (if IntKind.u64.signed = true then -1 else IntKind.u64.max) ((256 ^ sz - 1 : Nat) : Int) = ((2 ^ (8 * sz) * (2 ^ (64 - 8 * sz) - 1) : Nat) : Int) := by
    refine ⟨0, ?_, ?_⟩ <;> rcases h with q | q | q <;> subst q <;> decide
  rw [e1, e2, and_u64 _ _ hx (by rcases h with q | q | q <;> subst q <;> decide), pow_256, Nat.and_two_pow_sub_one_eq_mod]
  have hlt : x % 2 ^ (8 * sz) < 2 ^ (8 * sz) := Nat.mod_lt _ (Nat.pow_pos (by decide))
  rw [or_u64 _ _ (Nat.lt_of_le_of_lt (Nat.mod_le _ _) hx) (by rcases h with q | q | q <;> subst q <;> decide), Nat.or_comm, ← Nat.two_pow_add_eq_or_of_lt hlt]
  congr 1
  rcases h with q | q | q <;> subst q <;> omega
theorem shr_byte (W i : Nat) (hW : W < 18446744073709551616) (hi : i ≤ 8) : bitI .and .u64 (shrI .u64 (W : Int) (8 * (i : Int))) 255 = ((W / 256 ^ i % 256 : Nat) : Int) := by
  have e : (8 * (i : Int)) = ((8 * i : Nat) : Int) := by omega
  have ea : (W : Int) = ((BitVec.ofNat 64 W).toNat : Int) := by simp; omega
  rw [e, ea, bv_shr _ _ (by omega), BitVec.toNat_ushiftRight, Nat.shiftRight_eq_div_pow, BitVec.toNat_ofNat, Nat.mod_eq_of_lt hW, ← pow_256]
  have := and_u64 (W / 256 ^ i) 255 (Nat.lt_of_le_of_lt (Nat.div_le_self _ _) hW) (by decide)
  refine Eq.trans this ?_
  rw [show (255 : Nat) = 2 ^ 8 - 1 from rfl, Nat.and_two_pow_sub_one_eq_mod]
theorem bytes_le : ∀ (l : List Nat), (∀ b ∈ l, b < 256) → bytesOf (le l) l.length = l
  | [], _ => rfl
  | b :: r, h => by
    have h1 := bytes_le r fun c hc => h c (by simp [hc])
    have h2 := h b (by simp)
    simp only [bytesOf, le, List.length_cons, List.range_succ_eq_map, List.map_cons, List.map_map, Nat.pow_zero, Nat.div_one]
    congr 1
    · omega
    · refine Eq.trans ?_ h1
      unfold bytesOf
      apply List.map_congr_left
      intro j _
      have e : (b + 256 * le r) / 256 ^ (j + 1) = le r / 256 ^ j := by
        rw [Nat.pow_succ, Nat.mul_comm (256 ^ j) 256, ← Nat.div_div_eq_div_mul]
        congr 1; omega
      simp only [Function.comp, Nat.succ_eq_add_one, e]
end Go.SX.G
