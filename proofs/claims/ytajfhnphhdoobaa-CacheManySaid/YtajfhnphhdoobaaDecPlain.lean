/- Instructions: fields of words as quotients and remainders; their ranges. No program. -/
import Derived.Test.YtajfhnphhdoobaaDecE
import Derived.Test.YtajfhnphhdoobaaSxBytes
set_option linter.unusedVariables false
set_option linter.unusedSimpArgs false
namespace Go.SX
theorem nat_wrap64 (a : Nat) (h : a < 9223372036854775808) : IntKind.i64.wrap (a : Int) = (a : Int) := by rw [wrap_i64]; omega
theorem shrI_nat (k : IntKind) (n f : Nat) (hf : f ≤ k.bits) : shrI k (n : Int) (f : Int) = ((n / 2 ^ f : Nat) : Int) := by
  simp only [shrI]
  rw [Int.toNat_natCast, Nat.min_eq_left hf, Int.fdiv_eq_ediv_of_nonneg _ (Int.pow_nonneg (by decide))]
  simp
theorem shlI_nat (n f : Nat) (hf : f ≤ 64) (h : n * 2 ^ f < 9223372036854775808) : shlI .i64 (n : Int) (f : Int) = ((n * 2 ^ f : Nat) : Int) := by
  have e : ((n : Int) * 2 ^ f) = ((n * 2 ^ f : Nat) : Int) := by simp
  simp only [shlI]
  rw [Int.toNat_natCast, Nat.min_eq_left (show f ≤ IntKind.i64.bits from hf), e, nat_wrap64 _ h]
theorem of64 (a : Nat) (h : a < 18446744073709551616) : (BitVec.ofInt 64 (a : Int)).toNat = a := by
  rw [BitVec.toNat_ofInt]; simp; omega
theorem and_i64 (x c : Nat) (hx : x < 9223372036854775808) (hc : c ≤ 62) : bitI .and .i64 (x : Int) ((2 ^ c - 1 : Nat) : Int) = ((x % 2 ^ c : Nat) : Int) := by
  have hp : 2 ^ c ≤ 2 ^ 62 := Nat.pow_le_pow_right (by decide) hc
  have hp2 : (2 : Nat) ^ 62 = 4611686018427387904 := by decide
  show IntKind.i64.wrap ((BitVec.ofInt 64 (x : Int) &&& BitVec.ofInt 64 ((2 ^ c - 1 : Nat) : Int)).toNat : Int) = _
  rw [BitVec.toNat_and, of64 x (by omega), of64 _ (by omega), Nat.and_two_pow_sub_one_eq_mod]
  have := Nat.mod_le x (2 ^ c)
  exact nat_wrap64 _ (by omega)
theorem mask_i64 (c : Nat) (hc : c ≤ 62) : IntKind.i64.wrap (shlI .i64 1 (c : Int) - 1) = ((2 ^ c - 1 : Nat) : Int) := by
  have hp : 2 ^ c ≤ 2 ^ 62 := Nat.pow_le_pow_right (by decide) hc
  have hp2 : (2 : Nat) ^ 62 = 4611686018427387904 := by decide
  have hp3 : 0 < 2 ^ c := Nat.pow_pos (by decide)
  have := shlI_nat 1 c (by omega) (by omega)
  have e1 : ((1 : Nat) : Int) = 1 := rfl
  rw [e1] at this
  rw [this, Nat.one_mul, wrap_i64]
  omega
theorem or_i64 (a b : Nat) (ha : a < 9223372036854775808) (hb : b < 9223372036854775808) : bitI .or .i64 (a : Int) (b : Int) = ((a ||| b : Nat) : Int) := by
  show IntKind.i64.wrap ((BitVec.ofInt 64 (a : Int) ||| BitVec.ofInt 64 (b : Int)).toNat : Int) = _
  rw [BitVec.toNat_or, of64 a (by omega), of64 b (by omega)]
  exact nat_wrap64 _ (Nat.or_lt_two_pow (n := 63) ha hb)
theorem bitsE_nat (m f c t : Nat) (hm : m < 65536) (hf : f ≤ 16) (hc : c ≤ 16) (ht : t ≤ 16) : bitsE m f c t = ((m / 2 ^ f % 2 ^ c * 2 ^ t : Nat) : Int) := by
  unfold bitsE
  have h1 : m / 2 ^ f ≤ m := Nat.div_le_self _ _
  have h2 : m / 2 ^ f % 2 ^ c ≤ m / 2 ^ f := Nat.mod_le _ _
  have h3 : 2 ^ t ≤ 2 ^ 16 := Nat.pow_le_pow_right (by decide) ht
  have h4 : m / 2 ^ f % 2 ^ c * 2 ^ t ≤ 65536 * 2 ^ 16 := Nat.mul_le_mul (by omega) h3
  have h5 : 65536 * 2 ^ 16 = 4294967296 := by decide
  rw [shrI_nat .u16 m f hf, nat_wrap64 _ (by omega), mask_i64 c (by omega), and_i64 _ _ (by omega) (by omega), shlI_nat _ _ (by omega) (by omega)]
theorem fieldE_nat (m f c : Nat) (hm : m < 4294967296) (hf : f ≤ 32) (hc : c ≤ 32) : fieldE m f c = ((m / 2 ^ f % 2 ^ c : Nat) : Int) := by
  unfold fieldE
  have h1 : m / 2 ^ f ≤ m := Nat.div_le_self _ _
  rw [shrI_nat .u32 m f hf, nat_wrap64 _ (by omega), mask_i64 c (by omega), and_i64 _ _ (by omega) (by omega)]
theorem rngI.nat {n m : Int} (h : rngI n m) : ∃ k : Nat, n = k ∧ (k : Int) < m := ⟨n.toNat, by have := h.1; omega, by have := h.1; have := h.2; omega⟩
/-- a field of a short word. -/
theorem bits_lt {n : Int} (h : rngI n 65536) (f c t : Nat) (hf : f ≤ 16) (hc : c ≤ 16) (ht : t ≤ 16) : ∃ k : Nat, bitsE n f c t = ((k * 2 ^ t : Nat) : Int) ∧ k < 2 ^ c := by
  obtain ⟨m, rfl, hm⟩ := h.nat
  exact ⟨_, bitsE_nat m f c t (by omega) hf hc ht, Nat.mod_lt _ (Nat.pow_pos (by decide))⟩
theorem field_lt {n : Int} (h : rngI n 4294967296) (f c : Nat) (hf : f ≤ 32) (hc : c ≤ 32) : ∃ k : Nat, fieldE n f c = (k : Int) ∧ k < 2 ^ c := by
  obtain ⟨m, rfl, hm⟩ := h.nat
  exact ⟨_, fieldE_nat m f c (by omega) hf hc, Nat.mod_lt _ (Nat.pow_pos (by decide))⟩
theorem eight_idx (n : Int) (h : rngI n 65536) : rngI (bitI .or .i64 (bitsE n 12 1 2) (bitsE n 5 2 0)) 8 := by
  obtain ⟨a, ea, ha⟩ := bits_lt h 12 1 2 (by omega) (by omega) (by omega)
  obtain ⟨b, eb, hb⟩ := bits_lt h 5 2 0 (by omega) (by omega) (by omega)
  have ea' : bitsE n 12 1 2 = ((a * 2 ^ 2 : Nat) : Int) := ea
  have eb' : bitsE n 5 2 0 = ((b * 2 ^ 0 : Nat) : Int) := eb
  rw [ea', eb', or_i64 _ _ (by omega) (by omega)]
  have ha : a < 2 := ha
  have hb : b < 4 := hb
  have h1 : a = 0 ∨ a = 1 := by omega
  have h2 : b = 0 ∨ b = 1 ∨ b = 2 ∨ b = 3 := by omega
  unfold rngI
  rcases h1 with rfl | rfl <;> rcases h2 with rfl | rfl | rfl | rfl <;> decide
theorem f3_lt {n : Int} (h : rngI n 4294967296) : rngI (fieldE n 12 3) 8 := by
  obtain ⟨k, e, hk⟩ := field_lt h 12 3 (by omega) (by omega)
  have e' : fieldE n 12 3 = (k : Int) := e
  have hk : k < 8 := hk
  rw [e']; unfold rngI; omega
end Go.SX
set_option linter.unusedVariables false
set_option linter.unusedSimpArgs false
namespace Go.SX
theorem of32 (a : Nat) (h : a < 4294967296) : (BitVec.ofInt 32 (a : Int)).toNat = a := by
  rw [BitVec.toNat_ofInt]; simp; omega
theorem nat_wrap32 (a : Nat) (h : a < 4294967296) : IntKind.u32.wrap (a : Int) = (a : Int) := by
  simp [IntKind.wrap, IntKind.signed, IntKind.bits]; omega
theorem and3_u32 (a : Nat) (h : a < 4294967296) : bitI .and .u32 (a : Int) 3 = ((a % 4 : Nat) : Int) := by
  show IntKind.u32.wrap ((BitVec.ofInt 32 (a : Int) &&& BitVec.ofInt 32 3).toNat : Int) = _
  have e3 : (BitVec.ofInt 32 3).toNat = 2 ^ 2 - 1 := rfl
  rw [BitVec.toNat_and, of32 a h, e3, Nat.and_two_pow_sub_one_eq_mod, nat_wrap32 _ (by omega)]
theorem join_u32 (lo hi : Nat) (hl : lo < 65536) (hh : hi < 65536) : bitI .or .u32 (shlI .u32 (hi : Int) 16) (lo : Int) = ((lo + 65536 * hi : Nat) : Int) := by
  have e1 : shlI .u32 (hi : Int) 16 = ((hi * 65536 : Nat) : Int) := by
    show IntKind.u32.wrap ((hi : Int) * 65536) = _
    have : ((hi : Int) * 65536) = ((hi * 65536 : Nat) : Int) := by omega
    rw [this, nat_wrap32 _ (by omega)]
  rw [e1]
  show IntKind.u32.wrap ((BitVec.ofInt 32 ((hi * 65536 : Nat) : Int) ||| BitVec.ofInt 32 (lo : Int)).toNat : Int) = _
  have h4 := Nat.two_pow_add_eq_or_of_lt (i := 16) (b := lo) hl hi
  rw [BitVec.toNat_or, of32 _ (by omega), of32 _ (by omega)]
  have e2 : hi * 65536 ||| lo = lo + 65536 * hi := by
    rw [show hi * 65536 = 2 ^ 16 * hi by omega, ← h4]; omega
  rw [e2, nat_wrap32 _ (by omega)]
end Go.SX
