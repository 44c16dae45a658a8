/- Bytes of a word, and back; bits with a sign. Plain laws. -/
import Derived.Test.YtajfhnphhdoobaaSxOwn
import Derived.Test.YtajfhnphhdoobaaSxAtomBits
set_option linter.unusedVariables false
set_option linter.unusedSimpArgs false
namespace Go.SX
/-- the first 'n' bytes of 'x', least first. -/
def bytesOf (x n : Nat) : List Nat := (List.range n).map fun j => x / 256 ^ j % 256
def u8s (l : List Nat) : List Value := l.map fun b => .int .u8 (b : Nat)
def le : List Nat → Nat
  | [] => 0
  | b :: r => b + 256 * le r
theorem bytesOf_succ (x n : Nat) : bytesOf x (n + 1) = bytesOf x n ++ [x / 256 ^ n % 256] := by simp [bytesOf, List.range_succ]
theorem bytesOf_len (x n : Nat) : (bytesOf x n).length = n := by simp [bytesOf]
theorem u8s_len (l : List Nat) : (u8s l).length = l.length := by simp [u8s]
theorem u8s_app (l m : List Nat) : u8s (l ++ m) = u8s l ++ u8s m := by simp [u8s]
theorem le_app : ∀ (l : List Nat) (b : Nat), le (l ++ [b]) = le l + b * 256 ^ l.length
  | [], b => by simp [le]
  | c :: l, b => by
    have := le_app l b
    simp only [List.cons_append, le, this, List.length_cons, Nat.pow_succ, Nat.mul_add]
    rw [Nat.add_assoc]; congr 2
    rw [Nat.mul_left_comm, Nat.mul_comm 256 (256 ^ l.length)]
theorem le_bytes (x : Nat) : ∀ n, le (bytesOf x n) = x % 256 ^ n
  | 0 => by simp [bytesOf, le, Nat.mod_one]
  | n + 1 => by rw [bytesOf_succ, le_app, le_bytes x n, bytesOf_len, Nat.pow_succ, Nat.mod_mul, Nat.mul_comm (256 ^ n)]
theorem le_lt : ∀ (l : List Nat), (∀ b ∈ l, b < 256) → le l < 256 ^ l.length
  | [], _ => by simp [le]
  | b :: r, h => by
    have h1 := le_lt r fun c hc => h c (by simp [hc])
    have h2 := h b (by simp)
    simp only [le, List.length_cons, Nat.pow_succ]; omega
theorem bytesOf_lt {x n b : Nat} (h : b ∈ bytesOf x n) : b < 256 := by
  simp only [bytesOf, List.mem_map] at h; obtain ⟨j, _, rfl⟩ := h; exact Nat.mod_lt _ (by decide)
theorem pow_256 (n : Nat) : 256 ^ n = 2 ^ (8 * n) := by rw [Nat.pow_mul]
theorem wrap_u8 (n : Int) : IntKind.u8.wrap n = n % 256 := by simp [IntKind.wrap, IntKind.bits, IntKind.signed]
/-- byte(x >> 8i). -/
theorem byte_of (x : BitVec 64) (i : Nat) (hi : i ≤ 8) : IntKind.u8.wrap (shrI .u64 (x.toNat : Int) (8 * (i : Int))) = ((x.toNat / 256 ^ i % 256 : Nat) : Int) := by
  have : (8 * (i : Int)) = ((8 * i : Nat) : Int) := by omega
  rw [this, bv_shr x (8 * i) (by omega), wrap_u8, BitVec.toNat_ushiftRight, Nat.shiftRight_eq_div_pow, pow_256]; omega
/-- uint64(b) << 8i. -/
theorem shl_byte (b i : Nat) (hb : b < 256) (hi : i < 8) : shlI .u64 (b : Int) (8 * (i : Int)) = ((b * 256 ^ i : Nat) : Int) := by
  have e : (8 * (i : Int)) = ((8 * i : Nat) : Int) := by omega
  have h1 : b * 256 ^ i < 256 ^ 8 := by
    have : (256 : Nat) ^ i * 256 ≤ 256 ^ 8 := by rw [← Nat.pow_succ]; exact Nat.pow_le_pow_right (by decide) (by omega)
    have h2 : b * 256 ^ i ≤ 255 * 256 ^ i := Nat.mul_le_mul_right _ (by omega)
    have h3 : 0 < 256 ^ i := Nat.pow_pos (by decide)
    omega
  have h2 := bv_shl (BitVec.ofNat 64 b) (8 * i) (by omega)
  rw [e]
  have hb' : (BitVec.ofNat 64 b).toNat = b := by simp; omega
  rw [hb'] at h2
  rw [h2, pow_256]
  simp only [BitVec.toNat_shiftLeft, hb', Nat.shiftLeft_eq]
  rw [Nat.mod_eq_of_lt]
  rw [← pow_256]; omega
theorem msb_bit (x : BitVec 64) : decide (((x >>> 63 % 2#64).toNat : Int) = 1) = x.msb := by
  have h := x.isLt
  rw [BitVec.msb_eq_decide, BitVec.toNat_umod, BitVec.toNat_ushiftRight, Nat.shiftRight_eq_div_pow]
  simp
  omega
theorem less_split (x y : BitVec 64) : decide (SLt x y) = if x.msb = y.msb then decide (x < y) else x.msb := by
  have hs : SLt x y ↔ x.toInt < y.toInt := Iff.rfl
  have h1 := BitVec.toInt_eq_msb_cond x
  have h2 := BitVec.toInt_eq_msb_cond y
  have a1 := x.isLt
  have a2 := y.isLt
  have e : decide (SLt x y) = decide (x.toInt < y.toInt) := decide_eq_decide.2 hs
  rw [e]
  simp only [h1, h2]
  have m1 := BitVec.msb_eq_decide x
  have m2 := BitVec.msb_eq_decide y
  cases hx : x.msb <;> cases hy : y.msb <;> simp_all [BitVec.lt_def] <;> omega
theorem bit_val (x : BitVec 64) (i : Nat) : x >>> i % 2#64 = if x.getLsbD i then 1#64 else 0#64 := by
  apply BitVec.eq_of_toNat_eq
  rw [BitVec.toNat_umod, BitVec.toNat_ushiftRight, Nat.shiftRight_eq_div_pow]
  have := BitVec.testBit_toNat (x := x) (i := i)
  rw [← this, Nat.testBit_eq_decide_div_mod_eq]
  split <;> simp_all <;> omega
/-- a bit laid at a place. -/
theorem or_bit (o : BitVec 64) (b : Bool) (i j : Nat) (hj : j < 64) (hi : i < 64) : (o ||| ((if b then 1#64 else 0#64) <<< i)).getLsbD j = (o.getLsbD j || (decide (j = i) && b)) := by
  rw [BitVec.getLsbD_or, BitVec.getLsbD_shiftLeft]
  cases b
  · simp
  · by_cases h : j = i
    · subst h; simp [hj]
    · by_cases h2 : j < i
      · simp [h, h2]
      · have : j - i ≠ 0 := by omega
        simp [h, h2, hj, BitVec.getLsbD_one, this]
theorem sext_bits (x : BitVec 64) (n : Nat) (h0 : 1 ≤ n) (h1 : n ≤ 64) (o : BitVec 64) (h : ∀ j, j < 64 → o.getLsbD j = x.getLsbD (min j (n - 1))) : o = (x <<< (64 - n)).sshiftRight (64 - n) := by
  apply BitVec.eq_of_getLsbD_eq
  intro j hj
  rw [h j hj, BitVec.getLsbD_sshiftRight]
  simp only [BitVec.getLsbD_shiftLeft, BitVec.msb_eq_getLsbD_last]
  by_cases hn : j < n
  · have : min j (n - 1) = j := by omega
    have a : 64 - n + j < 64 := by omega
    have b : ¬ (64 - n + j < 64 - n) := by omega
    have c : 64 - n + j - (64 - n) = j := by omega
    simp [this, a, b, c, hj]
  · have : min j (n - 1) = n - 1 := by omega
    have a : ¬ 64 - n + j < 64 := by omega
    have b : ¬ 63 < 64 - n := by omega
    have c : 63 - (64 - n) = n - 1 := by omega
    have d : ¬ 64 ≤ j := by omega
    simp [this, a, b, c, d]
theorem cut4 (x : BitVec 64) : le (bytesOf x.toNat 4) = (x &&& M4).toNat := by
  rw [le_bytes, hM4c]; rfl
theorem cut8 (x : BitVec 64) : le (bytesOf x.toNat 8) = (x &&& M8).toNat := by
  rw [le_bytes, hM8]; rfl
theorem sxt4 (x : BitVec 64) : (x <<< (64 - 32)).sshiftRight (64 - 32) = sx4 x := rfl
theorem sxt8 (x : BitVec 64) : (x <<< (64 - 64)).sshiftRight (64 - 64) = sx8 x := rfl
section
variable {M : BitVec 64} {sx : BitVec 64 → BitVec 64} {A X : BitVec 64}
theorem mm65 : amo M 65 (A &&& M) (X &&& M) (sx (A &&& M)) (sx (X &&& M)) = some (X &&& M &&& M) := by simp [amo, and_mm]
theorem mm66 : amo M 66 (A &&& M) (X &&& M) (sx (A &&& M)) (sx (X &&& M)) = some (((A &&& M) + (X &&& M)) &&& M) := by simp [amo]
theorem mm67 : amo M 67 (A &&& M) (X &&& M) (sx (A &&& M)) (sx (X &&& M)) = some (((A &&& M) ^^^ (X &&& M)) &&& M) := by
  simp only [amo]; simp
  apply BitVec.eq_of_getLsbD_eq; intro i hi
  simp only [BitVec.getLsbD_and, BitVec.getLsbD_xor]
  cases A.getLsbD i <;> cases X.getLsbD i <;> cases M.getLsbD i <;> rfl
theorem mm68 : amo M 68 (A &&& M) (X &&& M) (sx (A &&& M)) (sx (X &&& M)) = some (((A &&& M) &&& (X &&& M)) &&& M) := by
  simp only [amo]; simp
  apply BitVec.eq_of_getLsbD_eq; intro i hi
  simp only [BitVec.getLsbD_and]
  cases A.getLsbD i <;> cases X.getLsbD i <;> cases M.getLsbD i <;> rfl
theorem mm69 : amo M 69 (A &&& M) (X &&& M) (sx (A &&& M)) (sx (X &&& M)) = some (((A &&& M) ||| (X &&& M)) &&& M) := by
  simp only [amo]; simp
  apply BitVec.eq_of_getLsbD_eq; intro i hi
  simp only [BitVec.getLsbD_and, BitVec.getLsbD_or]
  cases A.getLsbD i <;> cases X.getLsbD i <;> cases M.getLsbD i <;> rfl
theorem mm70a (h : SLt (sx (A &&& M)) (sx (X &&& M))) : amo M 70 (A &&& M) (X &&& M) (sx (A &&& M)) (sx (X &&& M)) = some (A &&& M &&& M) := by
  simp [amo, and_mm, slt_asymm h]
theorem mm70b (w : Wide M sx) (h : ¬ SLt (sx (A &&& M)) (sx (X &&& M))) : amo M 70 (A &&& M) (X &&& M) (sx (A &&& M)) (sx (X &&& M)) = some (X &&& M &&& M) := by
  by_cases h2 : SLt (sx (X &&& M)) (sx (A &&& M))
  · simp [amo, and_mm, h2]
  · simp [amo, and_mm, h2, nslt_eq w h h2]
theorem mm71a (h : SLt (sx (A &&& M)) (sx (X &&& M))) : amo M 71 (A &&& M) (X &&& M) (sx (A &&& M)) (sx (X &&& M)) = some (X &&& M &&& M) := by
  simp [amo, and_mm, h]
theorem mm71b (h : ¬ SLt (sx (A &&& M)) (sx (X &&& M))) : amo M 71 (A &&& M) (X &&& M) (sx (A &&& M)) (sx (X &&& M)) = some (A &&& M &&& M) := by
  simp [amo, and_mm, h]
theorem mm72a (h : A &&& M < X &&& M) : amo M 72 (A &&& M) (X &&& M) (sx (A &&& M)) (sx (X &&& M)) = some (A &&& M &&& M) := by
  have := lt_asymm' h
  simp only [amo, and_mm, if_neg this]; simp
theorem mm72b (h : ¬ A &&& M < X &&& M) : amo M 72 (A &&& M) (X &&& M) (sx (A &&& M)) (sx (X &&& M)) = some (X &&& M &&& M) := by
  by_cases h2 : X &&& M < A &&& M
  · simp only [amo, and_mm, if_pos h2]; simp
  · simp only [amo, and_mm, if_neg h2]; simp; exact nlt_eq h h2
theorem mm73a (h : X &&& M < A &&& M) : amo M 73 (A &&& M) (X &&& M) (sx (A &&& M)) (sx (X &&& M)) = some (A &&& M &&& M) := by
  have := lt_asymm' h
  simp only [amo, and_mm, if_neg this]; simp
theorem mm73b (h : ¬ X &&& M < A &&& M) : amo M 73 (A &&& M) (X &&& M) (sx (A &&& M)) (sx (X &&& M)) = some (X &&& M &&& M) := by
  by_cases h2 : A &&& M < X &&& M
  · simp only [amo, and_mm, if_pos h2]; simp
  · simp only [amo, and_mm, if_neg h2]; simp; exact (nlt_eq h h2).symm
theorem mm0 {k : Int} (h : k < 65 ∨ 73 < k) : amo M k (A &&& M) (X &&& M) (sx (A &&& M)) (sx (X &&& M)) = none := by
  simp only [amo]
  repeat' rw [if_neg (by omega)]
end
end Go.SX
