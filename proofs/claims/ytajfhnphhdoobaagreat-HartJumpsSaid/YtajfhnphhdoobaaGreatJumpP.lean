/- Fields of words as quotients and remainders: plain. No program. The words of HartJumps' program: what they are decoded to. No program. -/
import Derived.Test.YtajfhnphhdoobaaGreatPlainB
import Derived.Test.YtajfhnphhdoobaaGreatSxP
set_option linter.unusedVariables false
set_option linter.unusedSimpArgs false
namespace Go.SX
theorem fdiv_nat (a b : Nat) : ((a : Int)).fdiv (b : Int) = ((a / b : Nat) : Int) := by
  rw [Int.fdiv_eq_ediv_of_nonneg _ (by omega)]; simp
theorem two_nat (k : Nat) : (2 : Int) ^ k = ((2 ^ k : Nat) : Int) := by simp
theorem shr_nat (k : IntKind) (a f : Nat) (hf : f ≤ k.bits) : shrI k (a : Int) (f : Int) = ((a / 2 ^ f : Nat) : Int) := by
  unfold shrI
  rw [Int.toNat_natCast, Nat.min_eq_left hf, two_nat, fdiv_nat]
theorem wrap_i64n (a : Nat) (h : a < 2 ^ 63) : IntKind.i64.wrap (a : Int) = (a : Int) := by rw [wrap_i64]; omega
theorem wrap_u64n (a : Nat) (h : a < 2 ^ 64) : IntKind.u64.wrap (a : Int) = (a : Int) := by rw [wrap_u64]; omega
theorem mask_nat (c : Nat) (hc : c ≤ 32) : IntKind.i64.wrap (shlI .i64 1 (c : Int) - 1) = ((2 ^ c - 1 : Nat) : Int) := by
  have hp : 2 ^ c ≤ 2 ^ 32 := Nat.pow_le_pow_right (by decide) hc
  have h1 : 1 ≤ 2 ^ c := Nat.one_le_two_pow
  unfold shlI
  rw [Int.toNat_natCast, Nat.min_eq_left (show c ≤ IntKind.bits .i64 by show c ≤ 64; omega), Int.one_mul, two_nat, wrap_i64n _ (by omega)]
  rw [show (((2 ^ c : Nat) : Int) - 1) = ((2 ^ c - 1 : Nat) : Int) by omega, wrap_i64n _ (by omega)]
theorem and_nat (a b : Nat) (ha : a < 2 ^ 63) (hb : b < 2 ^ 63) : bitI .and .i64 (a : Int) (b : Int) = ((a &&& b : Nat) : Int) := by
  have e : bitI .and .i64 (a : Int) (b : Int) = IntKind.i64.wrap ((BitVec.ofInt 64 (a : Int) &&& BitVec.ofInt 64 (b : Int)).toNat : Int) := rfl
  rw [e, BitVec.ofInt_natCast, BitVec.ofInt_natCast, BitVec.toNat_and, BitVec.toNat_ofNat, BitVec.toNat_ofNat, Nat.mod_eq_of_lt (by omega), Nat.mod_eq_of_lt (by omega)]
  exact wrap_i64n _ (Nat.lt_of_le_of_lt Nat.and_le_left ha)
theorem or_nat (a b : Nat) (ha : a < 2 ^ 63) (hb : b < 2 ^ 63) : bitI .or .i64 (a : Int) (b : Int) = ((a ||| b : Nat) : Int) := by
  have e : bitI .or .i64 (a : Int) (b : Int) = IntKind.i64.wrap ((BitVec.ofInt 64 (a : Int) ||| BitVec.ofInt 64 (b : Int)).toNat : Int) := rfl
  rw [e, BitVec.ofInt_natCast, BitVec.ofInt_natCast, BitVec.toNat_or, BitVec.toNat_ofNat, BitVec.toNat_ofNat, Nat.mod_eq_of_lt (by omega), Nat.mod_eq_of_lt (by omega)]
  exact wrap_i64n _ (Nat.or_lt_two_pow ha hb)
theorem or_u32 (a b : Nat) (ha : a < 2 ^ 32) (hb : b < 2 ^ 32) : bitI .or .u32 (a : Int) (b : Int) = ((a ||| b : Nat) : Int) := by
  have e : bitI .or .u32 (a : Int) (b : Int) = IntKind.u32.wrap ((BitVec.ofInt 32 (a : Int) ||| BitVec.ofInt 32 (b : Int)).toNat : Int) := rfl
  rw [e, BitVec.ofInt_natCast, BitVec.ofInt_natCast, BitVec.toNat_or, BitVec.toNat_ofNat, BitVec.toNat_ofNat, Nat.mod_eq_of_lt (by omega), Nat.mod_eq_of_lt (by omega)]
  have := Nat.or_lt_two_pow ha hb
  have w : ∀ x : Nat, IntKind.u32.wrap (x : Int) = (x : Int) % 4294967296 := fun x => by simp [IntKind.wrap, IntKind.signed, IntKind.bits]
  rw [w]; omega
/-- what is laid side by side. -/
theorem or_sum {a b : Nat} (i : Nat) (ha : a % 2 ^ i = 0) (hb : b < 2 ^ i) : a ||| b = a + b := by
  obtain ⟨k, rfl⟩ := Nat.dvd_of_mod_eq_zero ha
  exact (Nat.two_pow_add_eq_or_of_lt hb k).symm
/-- a field of a word. -/
theorem field_nat (n f c : Nat) (hn : n < 2 ^ 32) (hf : f ≤ 32) (hc : c ≤ 32) : fieldE (n : Int) (f : Int) (c : Int) = ((n / 2 ^ f % 2 ^ c : Nat) : Int) := by
  have hp : 2 ^ c ≤ 2 ^ 32 := Nat.pow_le_pow_right (by decide) hc
  have h1 : 1 ≤ 2 ^ c := Nat.one_le_two_pow
  have hd : n / 2 ^ f ≤ n := Nat.div_le_self _ _
  unfold fieldE
  rw [shr_nat .u32 n f (by show f ≤ 32; omega), wrap_i64n _ (by omega), mask_nat c hc, and_nat _ _ (by omega) (by omega), Nat.and_two_pow_sub_one_eq_mod]
/-- a shift of what is small. -/
theorem shl_nat (a t : Nat) (ha : a < 2 ^ 31) (ht : t ≤ 31) : shlI .i64 (a : Int) (t : Int) = ((a * 2 ^ t : Nat) : Int) := by
  have hq : 2 ^ t ≤ 2 ^ 31 := Nat.pow_le_pow_right (by decide) ht
  have hx : a * 2 ^ t ≤ 2 ^ 31 * 2 ^ 31 := Nat.mul_le_mul (by omega) hq
  unfold shlI
  rw [Int.toNat_natCast, Nat.min_eq_left (show t ≤ IntKind.bits .i64 by show t ≤ 64; omega), two_nat, ← Int.natCast_mul, wrap_i64n _ (by omega)]
/-- a number with a sign. -/
theorem signed_nat (n w : Nat) (h1 : 1 ≤ w) (hw : w ≤ 32) (hn : n < 2 ^ w) : signedE (n : Int) (w : Int) = if n < 2 ^ (w - 1) then (n : Int) else (n : Int) - (2 ^ w : Nat) := by
  obtain ⟨v, rfl⟩ : ∃ v, w = v + 1 := ⟨w - 1, by omega⟩
  have hp : 2 ^ (v + 1) = 2 ^ v * 2 := Nat.pow_succ ..
  have hv : 2 ^ v ≤ 2 ^ 31 := Nat.pow_le_pow_right (by decide) (by omega)
  have hr : 2 ^ (v + 1) * 2 ^ (63 - v) = 2 ^ 64 := by rw [← Nat.pow_add]; congr 1; omega
  have hs : 2 ^ v * 2 ^ (63 - v) = 2 ^ 63 := by rw [← Nat.pow_add]; congr 1; omega
  have ks : (64 : Int) - ((v + 1 : Nat) : Int) = ((63 - v : Nat) : Int) := by omega
  unfold signedE sextE
  rw [wrap_u64n _ (by omega), ks]
  have e1 : shlI .u64 (n : Int) ((63 - v : Nat) : Int) = ((n * 2 ^ (63 - v) : Nat) : Int) := by
    have : n * 2 ^ (63 - v) < 2 ^ 64 := by rw [← hr]; exact Nat.mul_lt_mul_of_pos_right hn (Nat.two_pow_pos _)
    unfold shlI
    rw [Int.toNat_natCast, Nat.min_eq_left (show 63 - v ≤ IntKind.bits .u64 by show _ ≤ 64; omega), two_nat, ← Int.natCast_mul, wrap_u64n _ this]
  rw [e1]
  have e2 : ∀ x : Int, shrI .i64 x ((63 - v : Nat) : Int) = x / ((2 ^ (63 - v) : Nat) : Int) := fun x => by
    unfold shrI
    rw [Int.toNat_natCast, Nat.min_eq_left (show 63 - v ≤ IntKind.bits .i64 by show _ ≤ 64; omega), two_nat, Int.fdiv_eq_ediv_of_nonneg _ (Int.natCast_nonneg _)]
  have hpos : 0 < 2 ^ (63 - v) := Nat.two_pow_pos _
  rw [Nat.add_sub_cancel]
  by_cases q : n < 2 ^ v
  · have hb : n * 2 ^ (63 - v) < 2 ^ 63 := by rw [← hs]; exact Nat.mul_lt_mul_of_pos_right q hpos
    rw [if_pos q, wrap_i64n _ hb, e2, ← Int.natCast_ediv, Nat.mul_div_cancel _ hpos, wrap_u64n _ (by omega), wrap_i64n _ (by omega)]
  · have hb : 2 ^ 63 ≤ n * 2 ^ (63 - v) := by rw [← hs]; exact Nat.mul_le_mul_right _ (by omega)
    have hb2 : n * 2 ^ (63 - v) < 2 ^ 64 := by rw [← hr]; exact Nat.mul_lt_mul_of_pos_right hn hpos
    have w1 : IntKind.i64.wrap ((n * 2 ^ (63 - v) : Nat) : Int) = ((n : Int) - ((2 ^ (v + 1) : Nat) : Int)) * ((2 ^ (63 - v) : Nat) : Int) := by
      rw [wrap_i64, Int.sub_mul, ← Int.natCast_mul, ← Int.natCast_mul, hr]; omega
    have hne : ((2 ^ (63 - v) : Nat) : Int) ≠ 0 := Int.natCast_ne_zero.2 (Nat.pos_iff_ne_zero.1 hpos)
    rw [if_neg q, w1, e2, Int.mul_ediv_cancel _ hne, wrap_u64, wrap_i64]
    omega
end Go.SX
namespace Go.SX
/-- the word of a jump. -/
def jalN (d n : Nat) : Nat := n / 2 * 2 ^ 21 + d * 2 ^ 7 + 111
def jalE (d n : Int) : Int := bitI .or .u32 (bitI .or .u32 (IntKind.u32.wrap (bitI .or .i64 (bitI .or .i64 (bitI .or .i64 (shlI .i64 (bitI .and .i64 (shrI .i64 n 20) 1) 31) (shlI .i64 (bitI .and .i64 (shrI .i64 n 1) 1023) 21)) (shlI .i64 (bitI .and .i64 (shrI .i64 n 11) 1) 20)) (shlI .i64 (bitI .and .i64 (shrI .i64 n 12) 255) 12))) (shlI .u32 (IntKind.u32.wrap d) 7)) 111
theorem bytesOf_get (x n j : Nat) (h : j < n) : (bytesOf x n).getD j 0 = x / 256 ^ j % 256 := by
  unfold bytesOf; rw [List.getD_eq_getElem?_getD, List.getElem?_map, List.getElem?_range h]; rfl
theorem jalN_lt {d n : Nat} (hd : d < 32) (hn : n < 2048) : jalN d n < 4294967296 := by unfold jalN; omega
theorem jalN_mod (d n : Nat) : jalN d n % 4 = 3 := by unfold jalN; omega
theorem back_n {X : Int} {k : Nat} (h : X = ((4 * k : Nat) : Int) ∨ X = - ((4 * k : Nat) : Int)) (q : X < 0) : 0 - X + 8 = ((4 * (k + 2) : Nat) : Int) := by omega
theorem fore_n {X : Int} {k : Nat} (h : X = ((4 * k : Nat) : Int) ∨ X = - ((4 * k : Nat) : Int)) (q : 0 ≤ X) : X + 8 = ((4 * (k + 2) : Nat) : Int) := by omega
theorem reg_n (r : Nat) : (r : Int) % 31 + 1 = ((r % 31 + 1 : Nat) : Int) := by omega
theorem and_low (a c : Nat) (ha : a < 2 ^ 63) (hc : c ≤ 62) : bitI .and .i64 (a : Int) ((2 ^ c - 1 : Nat) : Int) = ((a % 2 ^ c : Nat) : Int) := and_i64 a c ha hc
theorem jal_eq (d n : Nat) (hd : d < 32) (hn : n < 2048) : jalE d n = (jalN d n : Nat) := by
  have s20 : shrI .i64 (n : Int) 20 = ((0 : Nat) : Int) := by have := shr_nat .i64 n 20 (by decide); rw [show ((20 : Nat) : Int) = 20 from rfl] at this; rw [this]; congr 1; omega
  have s12 : shrI .i64 (n : Int) 12 = ((0 : Nat) : Int) := by have := shr_nat .i64 n 12 (by decide); rw [show ((12 : Nat) : Int) = 12 from rfl] at this; rw [this]; congr 1; omega
  have s11 : shrI .i64 (n : Int) 11 = ((0 : Nat) : Int) := by have := shr_nat .i64 n 11 (by decide); rw [show ((11 : Nat) : Int) = 11 from rfl] at this; rw [this]; congr 1; omega
  have s1 : shrI .i64 (n : Int) 1 = ((n / 2 : Nat) : Int) := shr_nat .i64 n 1 (by decide)
  have a1 : bitI .and .i64 ((n / 2 : Nat) : Int) 1023 = ((n / 2 : Nat) : Int) := by
    have := and_low (n / 2) 10 (by omega) (by omega)
    rw [show ((2 ^ 10 - 1 : Nat) : Int) = 1023 from rfl] at this
    rw [this]; congr 1; omega
  have z1 : ∀ k : Int, k = 1 ∨ k = 255 → bitI .and .i64 ((0 : Nat) : Int) k = ((0 : Nat) : Int) := fun k hk => by rcases hk with rfl | rfl <;> decide
  have z2 : ∀ k : Int, k = 31 ∨ k = 20 ∨ k = 12 → shlI .i64 ((0 : Nat) : Int) k = ((0 : Nat) : Int) := fun k hk => by rcases hk with rfl | rfl | rfl <;> decide
  have h21 : shlI .i64 ((n / 2 : Nat) : Int) 21 = ((n / 2 * 2 ^ 21 : Nat) : Int) := shl_nat (n / 2) 21 (by omega) (by omega)
  have w32 : ∀ x : Nat, x < 2 ^ 32 → IntKind.u32.wrap (x : Int) = (x : Int) := fun x h => by
    have : IntKind.u32.wrap (x : Int) = (x : Int) % 4294967296 := by simp [IntKind.wrap, IntKind.signed, IntKind.bits]
    rw [this]; omega
  have d7 : shlI .u32 (IntKind.u32.wrap (d : Int)) 7 = ((d * 2 ^ 7 : Nat) : Int) := by
    rw [w32 d (by omega)]
    show IntKind.u32.wrap ((d : Int) * 2 ^ 7) = _
    rw [show ((d : Int) * 2 ^ 7) = ((d * 2 ^ 7 : Nat) : Int) by omega, w32 _ (by omega)]
  unfold jalE
  rw [s20, s12, s11, s1, a1, z1 1 (.inl rfl), z1 255 (.inr rfl), z2 31 (.inl rfl), z2 20 (.inr (.inl rfl)), z2 12 (.inr (.inr rfl)), h21]
  rw [or_nat _ _ (by omega) (by omega), Nat.zero_or, or_nat _ _ (by omega) (by omega), Nat.or_zero, or_nat _ _ (by omega) (by omega), Nat.or_zero, w32 _ (by omega), d7]
  rw [or_u32 _ _ (by omega) (by omega), or_sum 21 (by omega) (by omega)]
  rw [show (111 : Int) = ((111 : Nat) : Int) from rfl, or_u32 _ _ (by omega) (by omega), or_sum 7 (by omega) (by omega)]
  rfl
theorem shortN (w : Nat) (hw : w < 2 ^ 32) (h3 : w % 4 = 3) : bitI .and .u16 (IntKind.u16.wrap (w : Int)) 3 = 3 := by
  have e : IntKind.u16.wrap (w : Int) = ((w % 65536 : Nat) : Int) := by simp [IntKind.wrap, IntKind.signed, IntKind.bits]
  rw [e]
  show IntKind.u16.wrap ((BitVec.ofInt 16 ((w % 65536 : Nat) : Int) &&& BitVec.ofInt 16 ((3 : Nat) : Int)).toNat : Int) = 3
  rw [BitVec.ofInt_natCast, BitVec.ofInt_natCast, BitVec.toNat_and, BitVec.toNat_ofNat, BitVec.toNat_ofNat]
  rw [show 3 % 2 ^ 16 = 2 ^ 2 - 1 by decide, Nat.and_two_pow_sub_one_eq_mod, show w % 65536 % 2 ^ 16 % 2 ^ 2 = 3 by omega]
  decide
theorem fieldK (n f c : Nat) (hn : n < 2 ^ 32) (hf : f ≤ 32) (hc : c ≤ 32) (v : Nat) (e : n / 2 ^ f % 2 ^ c = v) : fieldE (n : Int) (f : Int) (c : Int) = (v : Int) := by rw [field_nat n f c hn hf hc, e]
theorem dec_jal (d m : Nat) (hd : d < 32) (hm : m < 256) : decodeL (jalN d (4 * m) : Nat) = ⟨3, d, 0, 0, ((4 * m : Nat) : Int), 0, 4⟩ := by
  have hl : jalN d (4 * m) < 2 ^ 32 := by unfold jalN; omega
  have o : fieldE (jalN d (4 * m) : Nat) 0 7 = 111 := fieldK _ 0 7 hl (by omega) (by omega) 111 (by unfold jalN; omega)
  have r : fieldE (jalN d (4 * m) : Nat) 7 5 = d := fieldK _ 7 5 hl (by omega) (by omega) d (by unfold jalN; omega)
  have i31 : fieldE (jalN d (4 * m) : Nat) 31 1 = ((0 : Nat) : Int) := fieldK _ 31 1 hl (by omega) (by omega) 0 (by unfold jalN; omega)
  have i12 : fieldE (jalN d (4 * m) : Nat) 12 8 = ((0 : Nat) : Int) := fieldK _ 12 8 hl (by omega) (by omega) 0 (by unfold jalN; omega)
  have i20 : fieldE (jalN d (4 * m) : Nat) 20 1 = ((0 : Nat) : Int) := fieldK _ 20 1 hl (by omega) (by omega) 0 (by unfold jalN; omega)
  have i21 : fieldE (jalN d (4 * m) : Nat) 21 10 = ((2 * m : Nat) : Int) := fieldK _ 21 10 hl (by omega) (by omega) (2 * m) (by unfold jalN; omega)
  have z2 : ∀ k : Int, k = 20 ∨ k = 12 ∨ k = 11 → shlI .i64 ((0 : Nat) : Int) k = ((0 : Nat) : Int) := fun k hk => by rcases hk with rfl | rfl | rfl <;> decide
  have h1 : shlI .i64 ((2 * m : Nat) : Int) 1 = ((2 * m * 2 ^ 1 : Nat) : Int) := shl_nat (2 * m) 1 (by omega) (by omega)
  have im : jImmE (jalN d (4 * m) : Nat) = ((4 * m : Nat) : Int) := by
    unfold jImmE
    rw [i31, i12, i20, i21, z2 20 (.inl rfl), z2 12 (.inr (.inl rfl)), z2 11 (.inr (.inr rfl)), h1, or_nat _ _ (by omega) (by omega), Nat.zero_or, or_nat _ _ (by omega) (by omega), Nat.zero_or, or_nat _ _ (by omega) (by omega), Nat.zero_or]
    have := signed_nat (2 * m * 2 ^ 1) 21 (by omega) (by omega) (by omega)
    rw [show ((21 : Nat) : Int) = 21 from rfl] at this
    rw [this, if_pos (by omega)]; omega
  unfold decodeL
  rw [if_pos (shortN _ hl (by unfold jalN; omega))]
  unfold wordL
  rw [o, r, im]
  rfl
/-- the word of a jump back. -/
def backN (d : Nat) : Nat := d * 2 ^ 15 + 103
theorem backN_lt {d : Nat} (hd : d < 32) : backN d < 4294967296 := by unfold backN; omega
theorem backN_mod (d : Nat) : backN d % 4 = 3 := by unfold backN; omega
theorem back_eq (d : Nat) (hd : d < 32) : bitI .or .u64 (shlI .u64 (d : Int) 15) 103 = (backN d : Nat) := by
  have h15 : shlI .u64 (d : Int) 15 = ((d * 2 ^ 15 : Nat) : Int) := by
    show IntKind.u64.wrap ((d : Int) * 2 ^ 15) = _
    rw [wrap_u64]; omega
  have e : bitI .or .u64 ((d * 2 ^ 15 : Nat) : Int) ((103 : Nat) : Int) = IntKind.u64.wrap ((BitVec.ofInt 64 ((d * 2 ^ 15 : Nat) : Int) ||| BitVec.ofInt 64 ((103 : Nat) : Int)).toNat : Int) := rfl
  rw [h15, show (103 : Int) = ((103 : Nat) : Int) from rfl, e, BitVec.ofInt_natCast, BitVec.ofInt_natCast, BitVec.toNat_or, BitVec.toNat_ofNat, BitVec.toNat_ofNat, Nat.mod_eq_of_lt (by omega), Nat.mod_eq_of_lt (by omega), or_sum 15 (by omega) (by omega), wrap_u64]
  unfold backN
  omega
theorem dec_back (d : Nat) (hd : d < 32) : decodeL (backN d : Nat) = ⟨4, 0, d, 0, 0, 0, 4⟩ := by
  have : d ∈ List.range 32 := List.mem_range.2 hd
  have key : ∀ d ∈ List.range 32, decodeL (backN d : Nat) = ⟨4, 0, d, 0, 0, 0, 4⟩ := by
    intro d hd
    have hd := List.mem_range.1 hd
    have hl : backN d < 2 ^ 32 := by unfold backN; omega
    have o : fieldE (backN d : Nat) 0 7 = 103 := fieldK _ 0 7 hl (by omega) (by omega) 103 (by unfold backN; omega)
    have r : fieldE (backN d : Nat) 7 5 = 0 := fieldK _ 7 5 hl (by omega) (by omega) 0 (by unfold backN; omega)
    have r1 : fieldE (backN d : Nat) 15 5 = d := fieldK _ 15 5 hl (by omega) (by omega) d (by unfold backN; omega)
    have f3 : fieldE (backN d : Nat) 12 3 = 0 := fieldK _ 12 3 hl (by omega) (by omega) 0 (by unfold backN; omega)
    have f20 : fieldE (backN d : Nat) 20 12 = 0 := fieldK _ 20 12 hl (by omega) (by omega) 0 (by unfold backN; omega)
    unfold decodeL
    rw [if_pos (shortN _ hl (by unfold backN; omega))]
    unfold wordL withImmL iImmE
    rw [o, r, r1, f3, f20]
    rfl
  exact key d this
theorem wf_i16 {n : Int} (h : (Lit.int .i16 n).wf = true) : -32768 ≤ n ∧ n ≤ 32767 := by
  simp [Lit.wf, IntKind.min, IntKind.max, IntKind.signed, IntKind.bits] at h; omega
end Go.SX
