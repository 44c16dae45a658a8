/- Instructions: what words stand for, as the program's functions say it; definitions alone. No program. Instructions: fields of words as quotients and remainders; their ranges. No program. Fetching: what is at a place, as one function of regions and bytes; cached instructions. No program. Instructions that words stand for: their registers are of 32. No program. What operators reckon, as the program's functions say it; definitions alone. No program. A machine's step, as one function of its state, of regions and of bytes; definitions. No program. -/
import Derived.Test.YtajfhnphhdoobaaGreatPlainA
import Derived.Test.YtajfhnphhdoobaaGreatSxP
set_option linter.unusedVariables false
set_option linter.unusedSimpArgs false
namespace Go.SX
def rngI (n m : Int) : Prop := 0 ≤ n ∧ n < m
structure InstR where
  op : Int
  rd : Int
  rs1 : Int
  rs2 : Int
  imm : Int
  order : Int
  size : Int
def InstR.v (i : InstR) : Value := .agg #[.int .i64 i.op, .int .i64 i.rd, .int .i64 i.rs1, .int .i64 i.rs2, .int .i64 i.imm, .int .i64 i.order, .int .i64 i.size]
def bitsE (n f c t : Int) : Int := shlI .i64 (bitI .and .i64 (IntKind.i64.wrap (shrI .u16 n f)) (IntKind.i64.wrap (shlI .i64 1 c - 1))) t
def fieldE (n f c : Int) : Int := bitI .and .i64 (IntKind.i64.wrap (shrI .u32 n f)) (IntKind.i64.wrap (shlI .i64 1 c - 1))
def sextE (n w : Int) : Int := IntKind.u64.wrap (shrI .i64 (IntKind.i64.wrap (shlI .u64 n (64 - w))) (64 - w))
def signedE (n w : Int) : Int := IntKind.i64.wrap (sextE (IntKind.u64.wrap n) w)
def tab8 (a0 a1 a2 a3 a4 a5 a6 a7 k : Int) : Int := if k = 0 then a0 else if k = 1 then a1 else if k = 2 then a2 else if k = 3 then a3 else if k = 4 then a4 else if k = 5 then a5 else if k = 6 then a6 else a7
def regE (n f : Int) : Int := bitI .or .i64 (bitsE n f 3 0) 8
def rdE (n : Int) : Int := bitsE n 7 5 0
def rs2E (n : Int) : Int := bitsE n 2 5 0
def sixE (n : Int) : Int := bitI .or .i64 (bitsE n 12 1 5) (bitsE n 2 5 0)
def shortE (n : Int) : Int := signedE (sixE n) 6
def wordsE (n : Int) : Int := bitI .or .i64 (bitI .or .i64 (bitsE n 5 1 6) (bitsE n 10 3 3)) (bitsE n 6 1 2)
def doublesE (n : Int) : Int := bitI .or .i64 (bitsE n 5 2 6) (bitsE n 10 3 3)
def jumpE (n : Int) : Int := signedE (bitI .or .i64 (bitI .or .i64 (bitI .or .i64 (bitI .or .i64 (bitI .or .i64 (bitI .or .i64 (bitI .or .i64 (bitsE n 12 1 11) (bitsE n 8 1 10)) (bitsE n 9 2 8)) (bitsE n 6 1 7)) (bitsE n 7 1 6)) (bitsE n 2 1 5)) (bitsE n 11 1 4)) (bitsE n 3 3 1)) 12
def branchE (n : Int) : Int := signedE (bitI .or .i64 (bitI .or .i64 (bitI .or .i64 (bitI .or .i64 (bitsE n 12 1 8) (bitsE n 5 2 6)) (bitsE n 2 1 5)) (bitsE n 10 2 3)) (bitsE n 3 2 1)) 9
def firstL (n : Int) : InstR := if bitsE n 13 3 0 = 0 then if 0 < bitI .or .i64 (bitI .or .i64 (bitI .or .i64 (bitsE n 7 4 6) (bitsE n 11 2 4)) (bitsE n 5 1 3)) (bitsE n 6 1 2) then (⟨22, regE n 2, 2, 0, bitI .or .i64 (bitI .or .i64 (bitI .or .i64 (bitsE n 7 4 6) (bitsE n 11 2 4)) (bitsE n 5 1 3)) (bitsE n 6 1 2), 0, 0⟩ : InstR) else (⟨0, 0, 0, 0, 0, 0, 0⟩ : InstR) else if bitsE n 13 3 0 = 2 then (⟨13, regE n 2, regE n 7, 0, wordsE n, 0, 0⟩ : InstR) else if bitsE n 13 3 0 = 3 then (⟨14, regE n 2, regE n 7, 0, doublesE n, 0, 0⟩ : InstR) else if bitsE n 13 3 0 = 6 then (⟨20, 0, regE n 7, regE n 2, wordsE n, 0, 0⟩ : InstR) else if bitsE n 13 3 0 = 7 then (⟨21, 0, regE n 7, regE n 2, doublesE n, 0, 0⟩ : InstR) else (⟨0, 0, 0, 0, 0, 0, 0⟩ : InstR)
def luiL (n : Int) : InstR := if rdE n = 2 then if signedE (bitI .or .i64 (bitI .or .i64 (bitI .or .i64 (bitI .or .i64 (bitsE n 12 1 9) (bitsE n 3 2 7)) (bitsE n 5 1 6)) (bitsE n 2 1 5)) (bitsE n 6 1 4)) 10 = 0 then (⟨0, 0, 0, 0, 0, 0, 0⟩ : InstR) else (⟨22, 2, 2, 0, signedE (bitI .or .i64 (bitI .or .i64 (bitI .or .i64 (bitI .or .i64 (bitsE n 12 1 9) (bitsE n 3 2 7)) (bitsE n 5 1 6)) (bitsE n 2 1 5)) (bitsE n 6 1 4)) 10, 0, 0⟩ : InstR) else if shlI .i64 (shortE n) 12 = 0 then (⟨0, 0, 0, 0, 0, 0, 0⟩ : InstR) else (⟨1, rdE n, 0, 0, shlI .i64 (shortE n) 12, 0, 0⟩ : InstR)
def reckonL (n : Int) : InstR := if bitsE n 10 2 0 = 0 then (⟨29, regE n 7, regE n 7, 0, sixE n, 0, 0⟩ : InstR) else if bitsE n 10 2 0 = 1 then (⟨30, regE n 7, regE n 7, 0, sixE n, 0, 0⟩ : InstR) else if bitsE n 10 2 0 = 2 then (⟨27, regE n 7, regE n 7, 0, shortE n, 0, 0⟩ : InstR) else if tab8 32 36 39 40 46 45 0 0 (bitI .or .i64 (bitsE n 12 1 2) (bitsE n 5 2 0)) = 0 then (⟨0, 0, 0, 0, 0, 0, 0⟩ : InstR) else (⟨tab8 32 36 39 40 46 45 0 0 (bitI .or .i64 (bitsE n 12 1 2) (bitsE n 5 2 0)), regE n 7, regE n 7, regE n 2, 0, 0, 0⟩ : InstR)
def secondL (n : Int) : InstR := if bitsE n 13 3 0 = 0 then (⟨22, rdE n, rdE n, 0, shortE n, 0, 0⟩ : InstR) else if bitsE n 13 3 0 = 1 then if 0 < rdE n then (⟨41, rdE n, rdE n, 0, shortE n, 0, 0⟩ : InstR) else (⟨0, 0, 0, 0, 0, 0, 0⟩ : InstR) else if bitsE n 13 3 0 = 2 then (⟨22, rdE n, 0, 0, shortE n, 0, 0⟩ : InstR) else if bitsE n 13 3 0 = 3 then (luiL n) else if bitsE n 13 3 0 = 4 then (reckonL n) else if bitsE n 13 3 0 = 5 then (⟨3, 0, 0, 0, jumpE n, 0, 0⟩ : InstR) else if bitsE n 13 3 0 = 6 then (⟨5, 0, regE n 7, 0, branchE n, 0, 0⟩ : InstR) else (⟨6, 0, regE n 7, 0, branchE n, 0, 0⟩ : InstR)
def movesL (n : Int) : InstR := if 0 < rs2E n then (⟨31, rdE n, IntKind.i64.wrap (rdE n * bitsE n 12 1 0), rs2E n, 0, 0, 0⟩ : InstR) else if 0 < rdE n then (⟨4, IntKind.i64.wrap (1 * bitsE n 12 1 0), rdE n, 0, 0, 0, 0⟩ : InstR) else if 0 < bitsE n 12 1 0 then (⟨88, 0, 0, 0, 0, 0, 0⟩ : InstR) else (⟨0, 0, 0, 0, 0, 0, 0⟩ : InstR)
def thirdL (n : Int) : InstR := if bitsE n 13 3 0 = 0 then (⟨28, rdE n, rdE n, 0, sixE n, 0, 0⟩ : InstR) else if bitsE n 13 3 0 = 2 then if 0 < rdE n then (⟨13, rdE n, 2, 0, bitI .or .i64 (bitI .or .i64 (bitsE n 2 2 6) (bitsE n 12 1 5)) (bitsE n 4 3 2), 0, 0⟩ : InstR) else (⟨0, 0, 0, 0, 0, 0, 0⟩ : InstR) else if bitsE n 13 3 0 = 3 then if 0 < rdE n then (⟨14, rdE n, 2, 0, bitI .or .i64 (bitI .or .i64 (bitsE n 2 3 6) (bitsE n 12 1 5)) (bitsE n 5 2 3), 0, 0⟩ : InstR) else (⟨0, 0, 0, 0, 0, 0, 0⟩ : InstR) else if bitsE n 13 3 0 = 4 then (movesL n) else if bitsE n 13 3 0 = 6 then (⟨20, 0, 2, rs2E n, bitI .or .i64 (bitsE n 7 2 6) (bitsE n 9 4 2), 0, 0⟩ : InstR) else if bitsE n 13 3 0 = 7 then (⟨21, 0, 2, rs2E n, bitI .or .i64 (bitsE n 7 3 6) (bitsE n 10 3 3), 0, 0⟩ : InstR) else (⟨0, 0, 0, 0, 0, 0, 0⟩ : InstR)
def iImmE (n : Int) : Int := signedE (fieldE n 20 12) 12
def sImmE (n : Int) : Int := signedE (bitI .or .i64 (shlI .i64 (fieldE n 25 7) 5) (fieldE n 7 5)) 12
def bImmE (n : Int) : Int := signedE (bitI .or .i64 (bitI .or .i64 (bitI .or .i64 (shlI .i64 (fieldE n 31 1) 12) (shlI .i64 (fieldE n 7 1) 11)) (shlI .i64 (fieldE n 25 6) 5)) (shlI .i64 (fieldE n 8 4) 1)) 13
def uImmE (n : Int) : Int := signedE (shlI .i64 (fieldE n 12 20) 12) 32
def jImmE (n : Int) : Int := signedE (bitI .or .i64 (bitI .or .i64 (bitI .or .i64 (shlI .i64 (fieldE n 31 1) 20) (shlI .i64 (fieldE n 12 8) 12)) (shlI .i64 (fieldE n 20 1) 11)) (shlI .i64 (fieldE n 21 10) 1)) 21
def branchesT (k : Int) : Int := (tab8 5 6 0 0 7 8 9 10 k)
def loadsT (k : Int) : Int := (tab8 11 12 13 14 15 16 17 0 k)
def storesT (k : Int) : Int := (tab8 18 19 20 21 0 0 0 0 k)
def plainImmT (k : Int) : Int := (tab8 22 0 23 24 25 0 26 27 k)
def plainRegT (k : Int) : Int := (tab8 31 33 34 35 36 37 39 40 k)
def mulRegT (k : Int) : Int := (tab8 50 51 52 53 54 55 56 57 k)
def r0T (k : Int) : Int := (tab8 45 47 0 0 0 48 0 0 k)
def r32T (k : Int) : Int := (tab8 46 0 0 0 0 49 0 0 k)
def r1T (k : Int) : Int := (tab8 58 0 0 0 59 60 61 62 k)
def regOpL (s k : Int) : Int := if s = 0 then (plainRegT k) else if s = 1 then (mulRegT k) else if s = 32 then if k = 0 then (32) else if k = 5 then (38) else (0) else (0)
def reg32OpL (s k : Int) : Int := if s = 0 then (r0T k) else if s = 32 then (r32T k) else if s = 1 then (r1T k) else (0)
def amoOpL (k : Int) : Int := if k = 2 then (63) else if k = 3 then (64) else if k = 1 then (65) else if k = 0 then (66) else if k = 4 then (67) else if k = 12 then (68) else if k = 8 then (69) else if k = 16 then (70) else if k = 20 then (71) else if k = 24 then (72) else if k = 28 then (73) else (0)
def atomicL (n : Int) : InstR := if amoOpL (fieldE n 27 5) = 0 then (⟨0, 0, 0, 0, 0, 0, 0⟩ : InstR) else if fieldE n 12 3 = 2 then if amoOpL (fieldE n 27 5) = 63 then if fieldE n 20 5 = 0 then (⟨amoOpL (fieldE n 27 5), 0, 0, fieldE n 20 5, 0, fieldE n 25 2, 0⟩ : InstR) else (⟨0, 0, 0, 0, 0, 0, 0⟩ : InstR) else (⟨amoOpL (fieldE n 27 5), 0, 0, fieldE n 20 5, 0, fieldE n 25 2, 0⟩ : InstR) else if fieldE n 12 3 = 3 then if amoOpL (fieldE n 27 5) = 63 then if fieldE n 20 5 = 0 then (⟨IntKind.i64.wrap (amoOpL (fieldE n 27 5) + 11), 0, 0, fieldE n 20 5, 0, fieldE n 25 2, 0⟩ : InstR) else (⟨0, 0, 0, 0, 0, 0, 0⟩ : InstR) else (⟨IntKind.i64.wrap (amoOpL (fieldE n 27 5) + 11), 0, 0, fieldE n 20 5, 0, fieldE n 25 2, 0⟩ : InstR) else (⟨0, 0, 0, 0, 0, 0, 0⟩ : InstR)
def shift6L (n : Int) : InstR := if fieldE n 12 3 = 1 then if fieldE n 26 6 = 0 then (⟨28, 0, 0, 0, fieldE n 20 6, 0, 0⟩ : InstR) else (⟨0, 0, 0, 0, 0, 0, 0⟩ : InstR) else if fieldE n 12 3 = 5 then if fieldE n 26 6 = 0 then (⟨29, 0, 0, 0, fieldE n 20 6, 0, 0⟩ : InstR) else if fieldE n 26 6 = 16 then (⟨30, 0, 0, 0, fieldE n 20 6, 0, 0⟩ : InstR) else (⟨0, 0, 0, 0, 0, 0, 0⟩ : InstR) else (⟨0, 0, 0, 0, 0, 0, 0⟩ : InstR)
def shift5L (n : Int) : InstR := if fieldE n 12 3 = 1 then if fieldE n 25 7 = 0 then (⟨42, 0, 0, 0, fieldE n 20 5, 0, 0⟩ : InstR) else (⟨0, 0, 0, 0, 0, 0, 0⟩ : InstR) else if fieldE n 12 3 = 5 then if fieldE n 25 7 = 0 then (⟨43, 0, 0, 0, fieldE n 20 5, 0, 0⟩ : InstR) else if fieldE n 25 7 = 32 then (⟨44, 0, 0, 0, fieldE n 20 5, 0, 0⟩ : InstR) else (⟨0, 0, 0, 0, 0, 0, 0⟩ : InstR) else (⟨0, 0, 0, 0, 0, 0, 0⟩ : InstR)
def withImmL (n : Int) : InstR := if fieldE n 0 7 = 103 then if fieldE n 12 3 = 0 then (⟨4, 0, 0, 0, iImmE n, 0, 0⟩ : InstR) else (⟨0, 0, 0, 0, 0, 0, 0⟩ : InstR) else if fieldE n 0 7 = 3 then (⟨loadsT (fieldE n 12 3), 0, 0, 0, iImmE n, 0, 0⟩ : InstR) else if fieldE n 0 7 = 19 then if fieldE n 12 3 = 1 then (shift6L n) else if fieldE n 12 3 = 5 then (shift6L n) else (⟨plainImmT (fieldE n 12 3), 0, 0, 0, iImmE n, 0, 0⟩ : InstR) else if fieldE n 0 7 = 27 then if fieldE n 12 3 = 0 then (⟨41, 0, 0, 0, iImmE n, 0, 0⟩ : InstR) else (shift5L n) else (⟨0, 0, 0, 0, 0, 0, 0⟩ : InstR)
def otherL (n : Int) : InstR := if n = 115 then (⟨87, 0, 0, 0, 0, 0, 0⟩ : InstR) else if n = 1048691 then (⟨88, 0, 0, 0, 0, 0, 0⟩ : InstR) else if fieldE n 0 7 = 15 then if fieldE n 12 3 = 0 then (⟨85, 0, 0, 0, 0, 0, 0⟩ : InstR) else if fieldE n 12 3 = 1 then (⟨86, 0, 0, 0, 0, 0, 0⟩ : InstR) else (⟨0, 0, 0, 0, 0, 0, 0⟩ : InstR) else (⟨0, 0, 0, 0, 0, 0, 0⟩ : InstR)
def wordL (n : Int) : InstR := if fieldE n 0 7 = 55 then (⟨1, fieldE n 7 5, 0, 0, uImmE n, 0, 4⟩ : InstR) else if fieldE n 0 7 = 23 then (⟨2, fieldE n 7 5, 0, 0, uImmE n, 0, 4⟩ : InstR) else if fieldE n 0 7 = 111 then (⟨3, fieldE n 7 5, 0, 0, jImmE n, 0, 4⟩ : InstR) else if fieldE n 0 7 = 99 then if branchesT (fieldE n 12 3) = 0 then (⟨0, 0, 0, 0, 0, 0, 0⟩ : InstR) else (⟨branchesT (fieldE n 12 3), 0, fieldE n 15 5, fieldE n 20 5, bImmE n, 0, 4⟩ : InstR) else if fieldE n 0 7 = 35 then if storesT (fieldE n 12 3) = 0 then (⟨0, 0, 0, 0, 0, 0, 0⟩ : InstR) else (⟨storesT (fieldE n 12 3), 0, fieldE n 15 5, fieldE n 20 5, sImmE n, 0, 4⟩ : InstR) else if fieldE n 0 7 = 51 then if regOpL (fieldE n 25 7) (fieldE n 12 3) = 0 then (⟨0, 0, 0, 0, 0, 0, 0⟩ : InstR) else (⟨regOpL (fieldE n 25 7) (fieldE n 12 3), fieldE n 7 5, fieldE n 15 5, fieldE n 20 5, 0, 0, 4⟩ : InstR) else if fieldE n 0 7 = 59 then if reg32OpL (fieldE n 25 7) (fieldE n 12 3) = 0 then (⟨0, 0, 0, 0, 0, 0, 0⟩ : InstR) else (⟨reg32OpL (fieldE n 25 7) (fieldE n 12 3), fieldE n 7 5, fieldE n 15 5, fieldE n 20 5, 0, 0, 4⟩ : InstR) else if fieldE n 0 7 = 47 then if (atomicL n).op = 0 then (⟨0, 0, 0, 0, 0, 0, 0⟩ : InstR) else (⟨(atomicL n).op, fieldE n 7 5, fieldE n 15 5, (atomicL n).rs2, (atomicL n).imm, (atomicL n).order, 4⟩ : InstR) else if fieldE n 0 7 = 15 then if (otherL n).op = 0 then (⟨0, 0, 0, 0, 0, 0, 0⟩ : InstR) else (⟨(otherL n).op, (otherL n).rd, (otherL n).rs1, (otherL n).rs2, (otherL n).imm, (otherL n).order, 4⟩ : InstR) else if fieldE n 0 7 = 115 then if (otherL n).op = 0 then (⟨0, 0, 0, 0, 0, 0, 0⟩ : InstR) else (⟨(otherL n).op, (otherL n).rd, (otherL n).rs1, (otherL n).rs2, (otherL n).imm, (otherL n).order, 4⟩ : InstR) else if (withImmL n).op = 0 then (⟨0, 0, 0, 0, 0, 0, 0⟩ : InstR) else (⟨(withImmL n).op, fieldE n 7 5, fieldE n 15 5, (withImmL n).rs2, (withImmL n).imm, (withImmL n).order, 4⟩ : InstR)
end Go.SX
namespace Go.SX
theorem nat_wrap64 (a : Nat) (h : a < 9223372036854775808) : IntKind.i64.wrap (a : Int) = (a : Int) := by rw [wrap_i64]; omega
theorem shrI_nat (k : IntKind) (n f : Nat) (hf : f ≤ k.bits) : shrI k (n : Int) (f : Int) = ((n / 2 ^ f : Nat) : Int) := by
  simp only [shrI]
  rw [Int.toNat_natCast, Nat.min_eq_left hf, Int.fdiv_eq_ediv_of_nonneg _ (Int.pow_nonneg (by decide))]
  simp
theorem shlI_nat (n f : Nat) (hf : f ≤ 64) (h : n * 2 ^ f < 9223372036854775808) : shlI .i64 (n : Int) (f : Int) = ((n * 2 ^ f : Nat) : Int) := by
  have e : ((n : Int) * 2 ^ f) = ((n * 2 ^ f : Nat) : Int) := by simp
  simp only [shlI]
  rw [Int.toNat_natCast, Nat.min_eq_left (show f ≤ IntKind.i64.bits from hf), e, nat_wrap64 _ h]
theorem of64 (a : Nat) (h : a < 18446744073709551616) : (BitVec.ofInt 64 (a : Int)).toNat = a := by
  rw [BitVec.toNat_ofInt]; simp; omega
theorem and_i64 (x c : Nat) (hx : x < 9223372036854775808) (hc : c ≤ 62) : bitI .and .i64 (x : Int) ((2 ^ c - 1 : Nat) : Int) = ((x % 2 ^ c : Nat) : Int) := by
  have hp : 2 ^ c ≤ 2 ^ 62 := Nat.pow_le_pow_right (by decide) hc
  have hp2 : (2 : Nat) ^ 62 = 4611686018427387904 := by decide
  show IntKind.i64.wrap ((BitVec.ofInt 64 (x : Int) &&& BitVec.ofInt 64 ((2 ^ c - 1 : Nat) : Int)).toNat : Int) = _
  rw [BitVec.toNat_and, of64 x (by omega), of64 _ (by omega), Nat.and_two_pow_sub_one_eq_mod]
  have := Nat.mod_le x (2 ^ c)
  exact nat_wrap64 _ (by omega)
theorem mask_i64 (c : Nat) (hc : c ≤ 62) : IntKind.i64.wrap (shlI .i64 1 (c : Int) - 1) = ((2 ^ c - 1 : Nat) : Int) := by
  have hp : 2 ^ c ≤ 2 ^ 62 := Nat.pow_le_pow_right (by decide) hc
  have hp2 : (2 : Nat) ^ 62 = 4611686018427387904 := by decide
  have hp3 : 0 < 2 ^ c := Nat.pow_pos (by decide)
  have := shlI_nat 1 c (by omega) (by omega)
  have e1 : ((1 : Nat) : Int) = 1 := rfl
  rw [e1] at this
  rw [this, Nat.one_mul, wrap_i64]
  omega
theorem or_i64 (a b : Nat) (ha : a < 9223372036854775808) (hb : b < 9223372036854775808) : bitI .or .i64 (a : Int) (b : Int) = ((a ||| b : Nat) : Int) := by
  show IntKind.i64.wrap ((BitVec.ofInt 64 (a : Int) ||| BitVec.ofInt 64 (b : Int)).toNat : Int) = _
  rw [BitVec.toNat_or, of64 a (by omega), of64 b (by omega)]
  exact nat_wrap64 _ (Nat.or_lt_two_pow (n := 63) ha hb)
theorem bitsE_nat (m f c t : Nat) (hm : m < 65536) (hf : f ≤ 16) (hc : c ≤ 16) (ht : t ≤ 16) : bitsE m f c t = ((m / 2 ^ f % 2 ^ c * 2 ^ t : Nat) : Int) := by
  unfold bitsE
  have h1 : m / 2 ^ f ≤ m := Nat.div_le_self _ _
  have h2 : m / 2 ^ f % 2 ^ c ≤ m / 2 ^ f := Nat.mod_le _ _
  have h3 : 2 ^ t ≤ 2 ^ 16 := Nat.pow_le_pow_right (by decide) ht
  have h4 : m / 2 ^ f % 2 ^ c * 2 ^ t ≤ 65536 * 2 ^ 16 := Nat.mul_le_mul (by omega) h3
  have h5 : 65536 * 2 ^ 16 = 4294967296 := by decide
  rw [shrI_nat .u16 m f hf, nat_wrap64 _ (by omega), mask_i64 c (by omega), and_i64 _ _ (by omega) (by omega), shlI_nat _ _ (by omega) (by omega)]
theorem fieldE_nat (m f c : Nat) (hm : m < 4294967296) (hf : f ≤ 32) (hc : c ≤ 32) : fieldE m f c = ((m / 2 ^ f % 2 ^ c : Nat) : Int) := by
  unfold fieldE
  have h1 : m / 2 ^ f ≤ m := Nat.div_le_self _ _
  rw [shrI_nat .u32 m f hf, nat_wrap64 _ (by omega), mask_i64 c (by omega), and_i64 _ _ (by omega) (by omega)]
theorem rngI.nat {n m : Int} (h : rngI n m) : ∃ k : Nat, n = k ∧ (k : Int) < m := ⟨n.toNat, by have := h.1; omega, by have := h.1; have := h.2; omega⟩
/-- a field of a short word. -/
theorem bits_lt {n : Int} (h : rngI n 65536) (f c t : Nat) (hf : f ≤ 16) (hc : c ≤ 16) (ht : t ≤ 16) : ∃ k : Nat, bitsE n f c t = ((k * 2 ^ t : Nat) : Int) ∧ k < 2 ^ c := by
  obtain ⟨m, rfl, hm⟩ := h.nat
  exact ⟨_, bitsE_nat m f c t (by omega) hf hc ht, Nat.mod_lt _ (Nat.pow_pos (by decide))⟩
theorem field_lt {n : Int} (h : rngI n 4294967296) (f c : Nat) (hf : f ≤ 32) (hc : c ≤ 32) : ∃ k : Nat, fieldE n f c = (k : Int) ∧ k < 2 ^ c := by
  obtain ⟨m, rfl, hm⟩ := h.nat
  exact ⟨_, fieldE_nat m f c (by omega) hf hc, Nat.mod_lt _ (Nat.pow_pos (by decide))⟩
theorem eight_idx (n : Int) (h : rngI n 65536) : rngI (bitI .or .i64 (bitsE n 12 1 2) (bitsE n 5 2 0)) 8 := by
  obtain ⟨a, ea, ha⟩ := bits_lt h 12 1 2 (by omega) (by omega) (by omega)
  obtain ⟨b, eb, hb⟩ := bits_lt h 5 2 0 (by omega) (by omega) (by omega)
  have ea' : bitsE n 12 1 2 = ((a * 2 ^ 2 : Nat) : Int) := ea
  have eb' : bitsE n 5 2 0 = ((b * 2 ^ 0 : Nat) : Int) := eb
  rw [ea', eb', or_i64 _ _ (by omega) (by omega)]
  have ha : a < 2 := ha
  have hb : b < 4 := hb
  have h1 : a = 0 ∨ a = 1 := by omega
  have h2 : b = 0 ∨ b = 1 ∨ b = 2 ∨ b = 3 := by omega
  unfold rngI
  rcases h1 with rfl | rfl <;> rcases h2 with rfl | rfl | rfl | rfl <;> decide
theorem f3_lt {n : Int} (h : rngI n 4294967296) : rngI (fieldE n 12 3) 8 := by
  obtain ⟨k, e, hk⟩ := field_lt h 12 3 (by omega) (by omega)
  have e' : fieldE n 12 3 = (k : Int) := e
  have hk : k < 8 := hk
  rw [e']; unfold rngI; omega
end Go.SX
namespace Go.SX
theorem of32 (a : Nat) (h : a < 4294967296) : (BitVec.ofInt 32 (a : Int)).toNat = a := by
  rw [BitVec.toNat_ofInt]; simp; omega
theorem nat_wrap32 (a : Nat) (h : a < 4294967296) : IntKind.u32.wrap (a : Int) = (a : Int) := by
  simp [IntKind.wrap, IntKind.signed, IntKind.bits]; omega
theorem and3_u32 (a : Nat) (h : a < 4294967296) : bitI .and .u32 (a : Int) 3 = ((a % 4 : Nat) : Int) := by
  show IntKind.u32.wrap ((BitVec.ofInt 32 (a : Int) &&& BitVec.ofInt 32 3).toNat : Int) = _
  have e3 : (BitVec.ofInt 32 3).toNat = 2 ^ 2 - 1 := rfl
  rw [BitVec.toNat_and, of32 a h, e3, Nat.and_two_pow_sub_one_eq_mod, nat_wrap32 _ (by omega)]
theorem join_u32 (lo hi : Nat) (hl : lo < 65536) (hh : hi < 65536) : bitI .or .u32 (shlI .u32 (hi : Int) 16) (lo : Int) = ((lo + 65536 * hi : Nat) : Int) := by
  have e1 : shlI .u32 (hi : Int) 16 = ((hi * 65536 : Nat) : Int) := by
    show IntKind.u32.wrap ((hi : Int) * 65536) = _
    have : ((hi : Int) * 65536) = ((hi * 65536 : Nat) : Int) := by omega
    rw [this, nat_wrap32 _ (by omega)]
  rw [e1]
  show IntKind.u32.wrap ((BitVec.ofInt 32 ((hi * 65536 : Nat) : Int) ||| BitVec.ofInt 32 (lo : Int)).toNat : Int) = _
  have h4 := Nat.two_pow_add_eq_or_of_lt (i := 16) (b := lo) hl hi
  rw [BitVec.toNat_or, of32 _ (by omega), of32 _ (by omega)]
  have e2 : hi * 65536 ||| lo = lo + 65536 * hi := by
    rw [show hi * 65536 = 2 ^ 16 * hi by omega, ← h4]; omega
  rw [e2, nat_wrap32 _ (by omega)]
end Go.SX
namespace Go.SX
theorem FirstN.same {rs : List Reg} {a n p : Nat} {o o' : Option Nat} (x : FirstN rs a n p o) (y : FirstN rs a n p o') : o = o' := by
  cases x with
  | none h =>
    cases y with
    | none h' => rfl
    | some i hi h1 h' => exact absurd (h i hi) h1
  | some i hi h1 h =>
    cases y with
    | none h' => exact absurd (h' i hi) h1
    | some j hj h2 h' =>
      by_cases e : i = j
      · rw [e]
      · exfalso
        rcases Nat.lt_or_gt_of_ne e with q | q
        · exact h1 (h' i q)
        · exact h2 (h j q)
noncomputable def okB (rs : List Reg) (p a : Nat) : Bool := @decide (okAt rs p a) (Classical.propDecidable _)
theorem okB_true {rs : List Reg} {p a : Nat} : okB rs p a = true ↔ okAt rs p a := by
  unfold okB; simp
/-- the first of 'n' places that may not be used so. -/
noncomputable def firstF (rs : List Reg) (a n p : Nat) : Option Nat := ((List.range n).find? fun i => !okB rs p (adr a i)).map (adr a)
theorem firstF_ok (rs : List Reg) (a n p : Nat) : FirstN rs a n p (firstF rs a n p) := by
  unfold firstF
  cases hf : (List.range n).find? (fun i => !okB rs p (adr a i)) with
  | none =>
    rw [List.find?_eq_none] at hf
    refine .none fun i hi => ?_
    have := hf i (List.mem_range.2 hi)
    rw [← okB_true]
    simpa using this
  | some i =>
    rw [List.find?_range_eq_some] at hf
    obtain ⟨h1, h2, h3⟩ := hf
    refine .some i (List.mem_range.1 h2) (by rw [← okB_true]; simpa using h1) fun j hj => ?_
    have := h3 j hj
    rw [← okB_true]
    simpa using this
theorem FirstN.eqF {rs : List Reg} {a n p : Nat} {o : Option Nat} (x : FirstN rs a n p o) : o = firstF rs a n p := x.same (firstF_ok rs a n p)
def zI : InstR := ⟨0, 0, 0, 0, 0, 0, 0⟩
/-- what a decoder answers. -/
def decV (i : InstR) : Value := if i.op = 0 then .tuple #[zI.v, .bool false] else .tuple #[i.v, .bool true]
structure StopR where
  kind : Int
  fk : Int
  fa : Nat
def StopR.v (s : StopR) : Value := .agg #[.int .i64 s.kind, .int .i64 s.fk, .int .u64 s.fa]
def sOk : StopR := ⟨0, 0, 0⟩
/-- the bits at a place, or the place that may not be done. -/
noncomputable def fetchF (rs : List Reg) (B : Nat → Nat) (a : Nat) : Nat × Option Nat :=
  if a % 2 ≠ 0 then (0, some a) else
  match firstF rs a 2 4 with
  | some b => (0, some b)
  | none =>
    if (B a + 256 * B (a + 1)) % 4 ≠ 3 then (B a + 256 * B (a + 1), none) else
    match firstF rs (adr a 2) 2 4 with
    | some b => (0, some b)
    | none => (B a + 256 * B (a + 1) + 65536 * (B (a + 2) + 256 * B (a + 3)), none)
theorem firstF_far {rs : List Reg} {a n p : Nat} (w : wfR rs) (h : firstF rs a n p = none) (hn : 0 < n) (ha : a < 18446744073709551616) (hn2 : n ≤ 4194304) : a + n ≤ 274877906944 := by
  have F := firstF_ok rs a n p
  rw [h] at F
  cases F with
  | none q => exact (FirstN.far w q hn ha hn2).1
theorem le_two (M : MemD) (a : Nat) : le (peekL M a 2) = memAt M a + 256 * memAt M (a + 1) := by
  simp [peekL, le, List.range_succ]
end Go.SX
namespace Go.SX
def pickL (n : Int) : InstR := if bitI .and .u16 n 3 = 0 then firstL n else if bitI .and .u16 n 3 = 1 then secondL n else if bitI .and .u16 n 3 = 2 then thirdL n else zI
def expandL (n : Int) : InstR := if (pickL n).op = 0 then zI else { pickL n with size := 2 }
def decodeL (n : Int) : InstR := if bitI .and .u16 (IntKind.u16.wrap n) 3 = 3 then wordL n else expandL (IntKind.u16.wrap n)
noncomputable def readF (rs : List Reg) (B : Nat → Nat) (a : Nat) : InstR × StopR :=
  match fetchF rs B a with
  | (_, some b) => (zI, ⟨4, 3, b⟩)
  | (w, none) => if (decodeL w).op = 0 then (zI, ⟨3, 3, a⟩) else (decodeL w, sOk)
structure CE where
  pc : Nat
  i : InstR
  f : Nat
  l : Nat
  born : Nat
def CE.v (e : CE) : Value := .agg #[.int .i64 e.i.op, .int .i64 e.i.rd, .int .i64 e.i.rs1, .int .i64 e.i.rs2, .int .i64 e.i.imm, .int .i64 e.i.order, .int .i64 e.i.size, .int .u64 e.f, .int .u64 e.l]
def lastP (a : Nat) (size : Int) : Nat := (a + size.toNat - 1) / 4096
structure CE.ok (M : MemD) (e : CE) : Prop where
  pc : e.pc < 274877906944
  sz : e.i.size = 2 ∨ e.i.size = 4
  f : e.f ≤ stampV M.D (e.pc / 4096)
  l : e.l ≤ stampV M.D (lastP e.pc e.i.size)
  now : e.f = stampV M.D (e.pc / 4096) → e.l = stampV M.D (lastP e.pc e.i.size) → readF M.rs (memAt M) e.pc = (e.i, sOk)
theorem expandL_size (n : Int) (h : (expandL n).op ≠ 0) : (expandL n).size = 2 := by
  unfold expandL at *
  split
  · rename_i q; rw [if_pos q] at h; exact absurd rfl h
  · rfl
theorem ite_size {c : Prop} [Decidable c] {a b : InstR} (ha : a.op ≠ 0 → a.size = 4) (hb : b.op ≠ 0 → b.size = 4) : (if c then a else b).op ≠ 0 → (if c then a else b).size = 4 := by
  split
  · exact ha
  · exact hb
theorem wordL_size (n : Int) : (wordL n).op ≠ 0 → (wordL n).size = 4 := by
  unfold wordL
  repeat' refine ite_size ?_ ?_
  all_goals first | exact fun _ => rfl | exact fun h => absurd rfl h
theorem decodeL_size (n : Int) (h : (decodeL n).op ≠ 0) : (decodeL n).size = 2 ∨ (decodeL n).size = 4 := by
  unfold decodeL at *
  split
  · rename_i q; rw [if_pos q] at h; exact .inr (wordL_size n h)
  · rename_i q; rw [if_neg q] at h; exact .inl (expandL_size _ h)
theorem readF_ok {rs : List Reg} {B : Nat → Nat} {a : Nat} {i : InstR} (w : wfR rs) (ha : a < 18446744073709551616) (h : readF rs B a = (i, sOk)) : a + 2 ≤ 274877906944 ∧ (i.size = 2 ∨ i.size = 4) ∧ i.op ≠ 0 ∧ ∃ n : Nat, i = decodeL n ∧ fetchF rs B a = (n, none) := by
  unfold readF at h
  split at h
  · simp [sOk] at h
  · rename_i w0 hw
    split at h
    · simp [sOk] at h
    · rename_i q
      have e : decodeL w0 = i := (Prod.mk.inj h).1
      subst e
      refine ⟨?_, decodeL_size _ q, q, w0, rfl, hw⟩
      unfold fetchF at hw
      split at hw
      · simp at hw
      · split at hw
        · simp at hw
        · rename_i q2
          exact firstF_far w q2 (by omega) ha (by omega)
end Go.SX
namespace Go.SX
structure InstR.ok (i : InstR) : Prop where
  rd : rngI i.rd 32
  rs1 : rngI i.rs1 32
  rs2 : rngI i.rs2 32
theorem iteOk {c : Prop} [Decidable c] {a b : InstR} (ha : a.ok) (hb : b.ok) : (if c then a else b).ok := by split <;> assumption
theorem zero32 : rngI 0 32 := by unfold rngI; omega
theorem one32 : rngI 1 32 := by unfold rngI; omega
theorem two32 : rngI 2 32 := by unfold rngI; omega
theorem zI_ok : zI.ok := ⟨zero32, zero32, zero32⟩
theorem rd32 {n : Int} (h : rngI n 65536) : rngI (rdE n) 32 := by
  obtain ⟨k, e, hk⟩ := bits_lt h 7 5 0 (by omega) (by omega) (by omega)
  have e' : rdE n = ((k * 2 ^ 0 : Nat) : Int) := e
  have hk : k < 32 := hk
  rw [e']; unfold rngI; omega
theorem rs32 {n : Int} (h : rngI n 65536) : rngI (rs2E n) 32 := by
  obtain ⟨k, e, hk⟩ := bits_lt h 2 5 0 (by omega) (by omega) (by omega)
  have e' : rs2E n = ((k * 2 ^ 0 : Nat) : Int) := e
  have hk : k < 32 := hk
  rw [e']; unfold rngI; omega
theorem or8 (k : Nat) (hk : k < 8) : rngI (bitI .or .i64 (k : Int) 8) 32 := by
  have h1 : k = 0 ∨ k = 1 ∨ k = 2 ∨ k = 3 ∨ k = 4 ∨ k = 5 ∨ k = 6 ∨ k = 7 := by omega
  unfold rngI
  rcases h1 with rfl | rfl | rfl | rfl | rfl | rfl | rfl | rfl <;> decide
theorem reg2 {n : Int} (h : rngI n 65536) : rngI (regE n 2) 32 := by
  obtain ⟨k, e, hk⟩ := bits_lt h 2 3 0 (by omega) (by omega) (by omega)
  have e' : bitsE n 2 3 0 = ((k * 2 ^ 0 : Nat) : Int) := e
  unfold regE
  rw [e', Nat.pow_zero, Nat.mul_one]
  exact or8 k hk
theorem reg7 {n : Int} (h : rngI n 65536) : rngI (regE n 7) 32 := by
  obtain ⟨k, e, hk⟩ := bits_lt h 7 3 0 (by omega) (by omega) (by omega)
  have e' : bitsE n 7 3 0 = ((k * 2 ^ 0 : Nat) : Int) := e
  unfold regE
  rw [e', Nat.pow_zero, Nat.mul_one]
  exact or8 k hk
theorem bit12 {n : Int} (h : rngI n 65536) : bitsE n 12 1 0 = 0 ∨ bitsE n 12 1 0 = 1 := by
  obtain ⟨k, e, hk⟩ := bits_lt h 12 1 0 (by omega) (by omega) (by omega)
  have e' : bitsE n 12 1 0 = ((k * 2 ^ 0 : Nat) : Int) := e
  have hk : k < 2 := hk
  rw [e']; omega
theorem wrap32 {a : Int} (h : rngI a 32) : rngI (IntKind.i64.wrap a) 32 := by
  obtain ⟨h1, h2⟩ := h
  have : IntKind.i64.wrap a = a := by rw [wrap_i64]; omega
  rw [this]; exact ⟨h1, h2⟩
theorem movA {n : Int} (h : rngI n 65536) : rngI (IntKind.i64.wrap (rdE n * bitsE n 12 1 0)) 32 := by
  apply wrap32
  rcases bit12 h with e | e
  · rw [e, Int.mul_zero]; exact zero32
  · rw [e, Int.mul_one]; exact rd32 h
theorem movB {n : Int} (h : rngI n 65536) : rngI (IntKind.i64.wrap (1 * bitsE n 12 1 0)) 32 := by
  apply wrap32
  rcases bit12 h with e | e
  · rw [e]; exact zero32
  · rw [e]; exact one32
theorem luiL_ok {n : Int} (h : rngI n 65536) : (luiL n).ok := by
  unfold luiL
  repeat' (with_reducible refine iteOk ?_ ?_)
  all_goals refine ⟨?_, ?_, ?_⟩ <;> dsimp only <;> with_reducible first | exact zero32 | exact two32 | exact rd32 h
theorem reckonL_ok {n : Int} (h : rngI n 65536) : (reckonL n).ok := by
  unfold reckonL
  repeat' (with_reducible refine iteOk ?_ ?_)
  all_goals refine ⟨?_, ?_, ?_⟩ <;> dsimp only <;> with_reducible first | exact zero32 | exact reg7 h | exact reg2 h
theorem movesL_ok {n : Int} (h : rngI n 65536) : (movesL n).ok := by
  unfold movesL
  repeat' (with_reducible refine iteOk ?_ ?_)
  all_goals refine ⟨?_, ?_, ?_⟩ <;> dsimp only <;> with_reducible first | exact zero32 | exact rd32 h | exact rs32 h | exact movA h | exact movB h
theorem firstL_ok {n : Int} (h : rngI n 65536) : (firstL n).ok := by
  unfold firstL
  repeat' (with_reducible refine iteOk ?_ ?_)
  all_goals refine ⟨?_, ?_, ?_⟩ <;> dsimp only <;> with_reducible first | exact zero32 | exact two32 | exact reg7 h | exact reg2 h
theorem secondL_ok {n : Int} (h : rngI n 65536) : (secondL n).ok := by
  unfold secondL
  repeat' (with_reducible refine iteOk ?_ ?_)
  all_goals with_reducible first | exact luiL_ok h | exact reckonL_ok h | (refine ⟨?_, ?_, ?_⟩ <;> dsimp only <;> with_reducible first | exact zero32 | exact reg7 h | exact rd32 h)
theorem thirdL_ok {n : Int} (h : rngI n 65536) : (thirdL n).ok := by
  unfold thirdL
  repeat' (with_reducible refine iteOk ?_ ?_)
  all_goals with_reducible first | exact movesL_ok h | (refine ⟨?_, ?_, ?_⟩ <;> dsimp only <;> with_reducible first | exact zero32 | exact two32 | exact rd32 h | exact rs32 h)
theorem pickL_ok {n : Int} (h : rngI n 65536) : (pickL n).ok := by
  unfold pickL
  repeat' (with_reducible refine iteOk ?_ ?_)
  · exact firstL_ok h
  · exact secondL_ok h
  · exact thirdL_ok h
  · exact zI_ok
theorem expandL_ok {n : Int} (h : rngI n 65536) : (expandL n).ok := by
  unfold expandL
  refine iteOk zI_ok ?_
  have := pickL_ok h
  exact ⟨this.rd, this.rs1, this.rs2⟩
theorem fld32 {n : Int} (h : rngI n 4294967296) (f : Nat) (hf : f ≤ 32) : rngI (fieldE n f 5) 32 := by
  obtain ⟨k, e, hk⟩ := field_lt h f 5 hf (by omega)
  have e' : fieldE n f 5 = (k : Int) := e
  have hk : k < 32 := hk
  rw [e']; unfold rngI; omega
theorem fld7 {n : Int} (h : rngI n 4294967296) : rngI (fieldE n 7 5) 32 := fld32 h 7 (by omega)
theorem fld15 {n : Int} (h : rngI n 4294967296) : rngI (fieldE n 15 5) 32 := fld32 h 15 (by omega)
theorem fld20 {n : Int} (h : rngI n 4294967296) : rngI (fieldE n 20 5) 32 := fld32 h 20 (by omega)
theorem atomicL_ok {n : Int} (h : rngI n 4294967296) : (atomicL n).ok := by
  unfold atomicL
  repeat' (with_reducible refine iteOk ?_ ?_)
  all_goals refine ⟨?_, ?_, ?_⟩ <;> dsimp only <;> with_reducible first | exact zero32 | exact fld20 h
theorem otherL_ok (n : Int) : (otherL n).ok := by
  unfold otherL
  repeat' (with_reducible refine iteOk ?_ ?_)
  all_goals exact ⟨zero32, zero32, zero32⟩
theorem shift6L_ok (n : Int) : (shift6L n).ok := by
  unfold shift6L
  repeat' (with_reducible refine iteOk ?_ ?_)
  all_goals exact ⟨zero32, zero32, zero32⟩
theorem shift5L_ok (n : Int) : (shift5L n).ok := by
  unfold shift5L
  repeat' (with_reducible refine iteOk ?_ ?_)
  all_goals exact ⟨zero32, zero32, zero32⟩
theorem withImmL_ok (n : Int) : (withImmL n).ok := by
  unfold withImmL
  repeat' (with_reducible refine iteOk ?_ ?_)
  all_goals with_reducible first | exact shift6L_ok n | exact shift5L_ok n | (refine ⟨?_, ?_, ?_⟩ <;> dsimp only <;> exact zero32)
theorem wordL_ok {n : Int} (h : rngI n 4294967296) : (wordL n).ok := by
  have h1 := atomicL_ok h
  have h2 := otherL_ok n
  have h3 := withImmL_ok n
  unfold wordL
  repeat' (with_reducible refine iteOk ?_ ?_)
  all_goals refine ⟨?_, ?_, ?_⟩ <;> dsimp only <;> with_reducible first | exact zero32 | exact fld7 h | exact fld15 h | exact fld20 h | exact h1.rs2 | exact h2.rd | exact h2.rs1 | exact h2.rs2 | exact h3.rs2
theorem wrap16 (n : Int) : rngI (IntKind.u16.wrap n) 65536 := by
  have : IntKind.u16.wrap n = n % 65536 := by simp [IntKind.wrap, IntKind.signed, IntKind.bits]
  rw [this]; unfold rngI; omega
theorem decodeL_ok {n : Int} (h : rngI n 4294967296) : (decodeL n).ok := by
  unfold decodeL
  exact iteOk (wordL_ok h) (expandL_ok (wrap16 n))
end Go.SX
namespace Go.SX
def lessE (a b : Int) : Bool := decide (IntKind.i64.wrap a < IntKind.i64.wrap b)
def truthE (b : Bool) : Int := if b = true then 1 else 0
/-- what is reckoned, and whether. -/
def okV : Option Int → Value
  | some x => .tuple #[.int .u64 x, .bool true]
  | none => .tuple #[.int .u64 0, .bool false]
def plainE (op a b : Int) : Option Int := if op = 1 then some (b) else if op = 22 ∨ op = 31 then some (IntKind.u64.wrap (a + b)) else if op = 32 then some (IntKind.u64.wrap (a - b)) else if op = 25 ∨ op = 36 then some (bitI .xor .u64 a b) else if op = 26 ∨ op = 39 then some (bitI .or .u64 a b) else if op = 27 ∨ op = 40 then some (bitI .and .u64 a b) else if op = 23 ∨ op = 34 then some (truthE (lessE a b)) else if op = 24 ∨ op = 35 then some (truthE (decide (a < b))) else none
def shiftsE (op a b : Int) : Option Int := if op = 28 ∨ op = 33 then some (shlI .u64 a (bitI .and .u64 b 63)) else if op = 29 ∨ op = 37 then some (shrI .u64 a (bitI .and .u64 b 63)) else if op = 30 ∨ op = 38 then some (IntKind.u64.wrap (shrI .i64 (IntKind.i64.wrap a) (bitI .and .u64 b 63))) else none
def halvesE (op a b : Int) : Option Int := if op = 41 ∨ op = 45 then some (sextE (IntKind.u64.wrap (a + b)) 32) else if op = 46 then some (sextE (IntKind.u64.wrap (a - b)) 32) else if op = 58 then some (sextE (IntKind.u64.wrap (a * b)) 32) else if op = 42 ∨ op = 47 then some (sextE (shlI .u64 a (bitI .and .u64 b 31)) 32) else if op = 43 ∨ op = 48 then some (sextE (IntKind.u64.wrap (shrI .u32 (IntKind.u32.wrap a) (bitI .and .u64 b 31))) 32) else if op = 44 ∨ op = 49 then some (sextE (IntKind.u64.wrap (shrI .i64 (IntKind.i64.wrap (IntKind.i32.wrap a)) (bitI .and .u64 b 31))) 32) else none
def mulhuE (x y : Int) : Int := IntKind.u64.wrap (IntKind.u64.wrap (IntKind.u64.wrap (shrI .u64 x 32 * shrI .u64 y 32) + shrI .u64 (IntKind.u64.wrap (IntKind.u64.wrap (shrI .u64 x 32 * bitI .and .u64 y 4294967295) + shrI .u64 (IntKind.u64.wrap (bitI .and .u64 x 4294967295 * bitI .and .u64 y 4294967295)) 32)) 32) + shrI .u64 (IntKind.u64.wrap (bitI .and .u64 (IntKind.u64.wrap (IntKind.u64.wrap (shrI .u64 x 32 * bitI .and .u64 y 4294967295) + shrI .u64 (IntKind.u64.wrap (bitI .and .u64 x 4294967295 * bitI .and .u64 y 4294967295)) 32)) 4294967295 + IntKind.u64.wrap (bitI .and .u64 x 4294967295 * shrI .u64 y 32))) 32)
def u64R (x : Int) : Prop := 0 ≤ x ∧ x < 18446744073709551616
def minusE (x : Int) : Bool := decide (IntKind.i64.wrap x < 0)
def mulhsuE (a b : Int) : Int := if minusE a = true then IntKind.u64.wrap (mulhuE a b - b) else mulhuE a b
def mulhE (a b : Int) : Int := if minusE b = true then IntKind.u64.wrap (mulhsuE a b - a) else mulhsuE a b
def divuE (a b : Int) : Int := if b = 0 then 18446744073709551615 else IntKind.u64.wrap (a.tdiv b)
def remuE (a b : Int) : Int := if b = 0 then a else a.tmod b
def divE (a b : Int) : Int := if b = 0 then 18446744073709551615 else if a = 9223372036854775808 then if b = 18446744073709551615 then a else IntKind.u64.wrap (IntKind.i64.wrap ((IntKind.i64.wrap a).tdiv (IntKind.i64.wrap b))) else IntKind.u64.wrap (IntKind.i64.wrap ((IntKind.i64.wrap a).tdiv (IntKind.i64.wrap b)))
def remE (a b : Int) : Int := if b = 0 then a else if a = 9223372036854775808 then if b = 18446744073709551615 then 0 else IntKind.u64.wrap ((IntKind.i64.wrap a).tmod (IntKind.i64.wrap b)) else IntKind.u64.wrap ((IntKind.i64.wrap a).tmod (IntKind.i64.wrap b))
def productsE (op a b : Int) : Option Int := if op = 50 then some (IntKind.u64.wrap (a * b)) else if op = 51 then some (mulhE a b) else if op = 52 then some (mulhsuE a b) else if op = 53 then some (mulhuE a b) else if op = 54 then some (divE a b) else if op = 55 then some (divuE a b) else if op = 56 then some (remE a b) else if op = 57 then some (remuE a b) else none
def quotientsE (op a b : Int) : Option Int := if op = 59 then some (sextE (divE (sextE a 32) (sextE b 32)) 32) else if op = 60 then some (sextE (divuE (IntKind.u64.wrap (IntKind.u32.wrap a)) (IntKind.u64.wrap (IntKind.u32.wrap b))) 32) else if op = 61 then some (sextE (remE (sextE a 32) (sextE b 32)) 32) else if op = 62 then some (sextE (remuE (IntKind.u64.wrap (IntKind.u32.wrap a)) (IntKind.u64.wrap (IntKind.u32.wrap b))) 32) else none
def aluE (op a b : Int) : Option Int := match plainE op a b with | some x => some x | none => match shiftsE op a b with | some x => some x | none => match halvesE op a b with | some x => some x | none => match productsE op a b with | some x => some x | none => quotientsE op a b
end Go.SX
namespace Go.SX
structure HS where
  pc : Int
  x : Nat → Int
  ha : Int
  hn : Int
def HS.cell (t : HS) (i : Nat) : Value := if i = 0 then .int .u64 t.pc else if i < 33 then .int .u64 (t.x (i - 1)) else if i = 33 then .int .u64 t.ha else .int .i64 t.hn
def HS.get (t : HS) (r : Int) : Int := t.x r.toNat
def HS.set (t : HS) (r v : Int) : HS := { t with x := fun j => if j = r.toNat then v else t.x j }
structure HS.ok (t : HS) : Prop where
  pc : u64R t.pc
  x : ∀ i, u64R (t.x i)
  ha : u64R t.ha
  hn : 0 ≤ t.hn
def w64 (x : Int) : Int := IntKind.u64.wrap x
theorem w64_R (x : Int) : u64R (w64 x) := by unfold w64 u64R; rw [wrap_u64]; omega
theorem HS.cell0 (t : HS) : t.cell 0 = .int .u64 t.pc := rfl
theorem HS.cellX (t : HS) (r : Nat) (h : r < 32) : t.cell (1 + r) = .int .u64 (t.x r) := by
  unfold HS.cell
  rw [if_neg (by omega), if_pos (by omega), show 1 + r - 1 = r by omega]
theorem HS.cell_set (t : HS) (r : Nat) (v : Int) (h : r < 32) : (fun i => if i = 1 + r then .int .u64 v else t.cell i) = (t.set r v).cell := by
  funext i
  unfold HS.cell HS.set
  rw [Int.toNat_natCast]
  by_cases q : i = 1 + r
  · rw [if_pos q, if_neg (by omega), if_pos (by omega)]
    show Value.int .u64 v = Value.int .u64 (if i - 1 = r then v else t.x (i - 1))
    rw [if_pos (by omega)]
  · rw [if_neg q]
    by_cases q0 : i = 0
    · rw [if_pos q0, if_pos q0]
    · rw [if_neg q0, if_neg q0]
      by_cases q1 : i < 33
      · rw [if_pos q1, if_pos q1]
        show Value.int .u64 (t.x (i - 1)) = Value.int .u64 (if i - 1 = r then v else t.x (i - 1))
        rw [if_neg (by omega)]
      · rw [if_neg q1, if_neg q1]
theorem HS.cell_pc (t : HS) (v : Int) : (fun i => if i = 0 then .int .u64 v else t.cell i) = ({ t with pc := v } : HS).cell := by
  funext i
  unfold HS.cell
  by_cases q : i = 0
  · rw [if_pos q, if_pos q]
  · rw [if_neg q, if_neg q, if_neg q]
theorem HS.set_ok {t : HS} (k : t.ok) (r v : Int) (hv : u64R v) : (t.set r v).ok := ⟨k.pc, fun i => by
  unfold HS.set
  show u64R (if i = r.toNat then v else t.x i)
  split
  · exact hv
  · exact k.x i, k.ha, k.hn⟩
def takenE (op a b : Int) : Bool × Bool := if op = 5 then (decide (a = b), true) else if op = 6 then (!decide (a = b), true) else if op = 7 then (lessE a b, true) else if op = 8 then (!lessE a b, true) else if op = 9 then (decide (a < b), true) else if op = 10 then (decide (b ≤ a), true) else (false, false)
def accE (op : Int) : Int × Bool := if op = 11 then (1, true) else if op = 18 then (1, true) else if op = 12 then (2, true) else if op = 19 then (2, true) else if op = 13 then (4, true) else if op = 20 then (4, true) else if op = 14 then (8, true) else if op = 21 then (8, true) else if op = 15 then (1, false) else if op = 16 then (2, false) else if op = 17 then (4, false) else (0, false)
structure JO where
  to : Int
  ok : Bool
  t : HS
def jumpF (t : HS) (i : InstR) : JO :=
  if i.op = 3 then ⟨w64 (t.pc + w64 i.imm), true, t.set i.rd (w64 (t.pc + w64 i.size))⟩
  else if i.op = 4 then ⟨bitI .andNot .u64 (w64 (t.get i.rs1 + w64 i.imm)) 1, true, t.set i.rd (w64 (t.pc + w64 i.size))⟩
  else if (takenE i.op (t.get i.rs1) (t.get i.rs2)).1 = true then ⟨w64 (t.pc + w64 i.imm), true, t⟩
  else ⟨w64 (t.pc + w64 i.size), (takenE i.op (t.get i.rs1) (t.get i.rs2)).2, t⟩
end Go.SX
