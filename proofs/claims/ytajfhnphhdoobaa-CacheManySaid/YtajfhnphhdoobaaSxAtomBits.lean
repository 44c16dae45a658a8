/- Plain laws of words: what atomic operators compute. No program. -/
import Derived.Test.YtajfhnphhdoobaaSxSimp
set_option linter.unusedVariables false
set_option linter.unusedSimpArgs false
namespace Go.SX
def M4 : BitVec 64 := 4294967295#64
def M8 : BitVec 64 := BitVec.allOnes 64
theorem mask4 : shrI .u64 18446744073709551615 32 = (M4.toNat : Int) := by decide
theorem mask8 : shrI .u64 18446744073709551615 0 = (M8.toNat : Int) := by decide
def sx4 (a : BitVec 64) : BitVec 64 := (a <<< 32).sshiftRight 32
def sx8 (a : BitVec 64) : BitVec 64 := (a <<< 0).sshiftRight 0
/-- what an operator stores; 'a', 'b': cut to size; 's', 't': the same with their sign. -/
def amo (M : BitVec 64) (k : Int) (a b s t : BitVec 64) : Option (BitVec 64) :=
  if k = 65 then some b else if k = 66 then some ((a + b) &&& M) else if k = 67 then some (a ^^^ b) else if k = 68 then some (a &&& b) else if k = 69 then some (a ||| b)
  else if k = 70 then some (if SLt t s then b else a) else if k = 71 then some (if SLt s t then b else a)
  else if k = 72 then some (if b < a then b else a) else if k = 73 then some (if a < b then b else a) else none
def told : Option (BitVec 64) → Value
  | some r => .tuple #[U r, .bool true]
  | none => .tuple #[.int .u64 0, .bool false]
theorem told_some (r : BitVec 64) : told (some r) = .tuple #[U r, .bool true] := rfl
theorem told_none : told none = .tuple #[.int .u64 0, .bool false] := rfl
theorem hM4 : M4 = (BitVec.allOnes 32).setWidth 64 := by decide
theorem tmin {a b : BitVec 64} : (if (b.toNat : Int) < a.toNat then (b.toNat : Int) else a.toNat) = (((if b < a then b else a) : BitVec 64).toNat : Int) := by
  simp only [bv_ltu]; split <;> rfl
theorem tmax {a b : BitVec 64} : (if (a.toNat : Int) < b.toNat then (b.toNat : Int) else a.toNat) = (((if a < b then b else a) : BitVec 64).toNat : Int) := by
  simp only [bv_ltu]; split <;> rfl
/-- how wide 'M' and 'sx' go together. -/
structure Wide (M : BitVec 64) (sx : BitVec 64 → BitVec 64) : Prop where
  back : ∀ x, sx (x &&& M) &&& M = x &&& M
theorem wide8 : Wide M8 sx8 := ⟨fun x => by
  have e : sx8 (x &&& M8) = x &&& M8 := by simp [sx8]
  rw [e, BitVec.and_assoc, BitVec.and_self]⟩
theorem wide4 : Wide M4 sx4 := ⟨fun x => by
  rw [hM4]
  apply BitVec.eq_of_getLsbD_eq
  intro i hi
  simp only [sx4, BitVec.getLsbD_and, BitVec.getLsbD_sshiftRight, BitVec.getLsbD_shiftLeft, BitVec.getLsbD_setWidth, BitVec.getLsbD_allOnes]
  by_cases h32 : i < 32
  · have h1 : 32 + i < 64 := by omega
    have h2 : ¬ (32 + i < 32) := by omega
    simp [h1, h2, h32, hi]
  · simp [h32]⟩
/-- the operators that are asked for. -/
def amoT (M : BitVec 64) (k : Int) (a b s t : BitVec 64) : BitVec 64 :=
  if k = 65 then b else if k = 66 then (a + b) &&& M else if k = 67 then a ^^^ b else if k = 68 then a &&& b else if k = 69 then a ||| b
  else if k = 70 then (if SLt t s then b else a) else if k = 71 then (if SLt s t then b else a)
  else if k = 72 then (if b < a then b else a) else (if a < b then b else a)
theorem amo_T {M : BitVec 64} {k : Int} {a b s t : BitVec 64} (h0 : 65 ≤ k) (h1 : k ≤ 73) : amo M k a b s t = some (amoT M k a b s t) := by
  unfold amo amoT
  repeat' split
  all_goals first | rfl | omega
section
variable {M : BitVec 64} {sx : BitVec 64 → BitVec 64}
def G (M : BitVec 64) (sx : BitVec 64 → BitVec 64) (k : Int) (a b : BitVec 64) : BitVec 64 := amoT M k (a &&& M) (b &&& M) (sx (a &&& M)) (sx (b &&& M))
theorem and_mm (x : BitVec 64) : x &&& M &&& M = x &&& M := by rw [BitVec.and_assoc, BitVec.and_self]
theorem nslt_eq (w : Wide M sx) {a b : BitVec 64} (h1 : ¬ SLt (sx (a &&& M)) (sx (b &&& M))) (h2 : ¬ SLt (sx (b &&& M)) (sx (a &&& M))) : a &&& M = b &&& M := by
  have h : (sx (a &&& M)).toInt = (sx (b &&& M)).toInt := by unfold SLt at h1 h2; omega
  have := BitVec.eq_of_toInt_eq h
  rw [← w.back a, ← w.back b, this]
theorem nlt_eq {a b : BitVec 64} (h1 : ¬ a < b) (h2 : ¬ b < a) : a = b := by
  rw [BitVec.lt_def] at h1 h2; apply BitVec.eq_of_toNat_eq; omega
theorem slt_asymm {a b : BitVec 64} (h : SLt a b) : ¬ SLt b a := by unfold SLt at *; omega
theorem lt_asymm' {a b : BitVec 64} (h : a < b) : ¬ b < a := by rw [BitVec.lt_def] at *; omega
theorem G_68 (a b : BitVec 64) : G M sx 68 a b = (a &&& M) &&& (b &&& M) := by simp [G, amoT]
theorem G_69 (a b : BitVec 64) : G M sx 69 a b = (a &&& M) ||| (b &&& M) := by simp [G, amoT]
theorem G_70 (a b : BitVec 64) : G M sx 70 a b = if SLt (sx (b &&& M)) (sx (a &&& M)) then b &&& M else a &&& M := by simp [G, amoT]
theorem G_71 (a b : BitVec 64) : G M sx 71 a b = if SLt (sx (a &&& M)) (sx (b &&& M)) then b &&& M else a &&& M := by simp [G, amoT]
theorem G_72 (a b : BitVec 64) : G M sx 72 a b = if b &&& M < a &&& M then b &&& M else a &&& M := by simp [G, amoT]
theorem G_73 (a b : BitVec 64) : G M sx 73 a b = if a &&& M < b &&& M then b &&& M else a &&& M := by simp [G, amoT]
theorem G_comm (w : Wide M sx) {k : Int} (hk : k = 70 ∨ k = 71 ∨ k = 72 ∨ k = 73 ∨ k = 68 ∨ k = 69) (a b : BitVec 64) : G M sx k a b = G M sx k b a := by
  rcases hk with rfl | rfl | rfl | rfl | rfl | rfl
  · rw [G_70, G_70]; split <;> split <;> first | rfl | (exfalso; exact slt_asymm ‹_› ‹_›) | exact nslt_eq w ‹_› ‹_› | exact (nslt_eq w ‹_› ‹_›).symm
  · rw [G_71, G_71]; split <;> split <;> first | rfl | (exfalso; exact slt_asymm ‹_› ‹_›) | exact nslt_eq w ‹_› ‹_› | exact (nslt_eq w ‹_› ‹_›).symm
  · rw [G_72, G_72]; split <;> split <;> first | rfl | (exfalso; exact lt_asymm' ‹_› ‹_›) | exact nlt_eq ‹_› ‹_› | exact (nlt_eq ‹_› ‹_›).symm
  · rw [G_73, G_73]; split <;> split <;> first | rfl | (exfalso; exact lt_asymm' ‹_› ‹_›) | exact nlt_eq ‹_› ‹_› | exact (nlt_eq ‹_› ‹_›).symm
  · rw [G_68, G_68, BitVec.and_comm]
  · rw [G_69, G_69, BitVec.or_comm]
theorem G_one {k : Int} (hk : k = 70 ∨ k = 71 ∨ k = 72 ∨ k = 73) (a b : BitVec 64) : G M sx k a b = a &&& M ∨ G M sx k a b = b &&& M := by
  rcases hk with rfl | rfl | rfl | rfl
  · rw [G_70]; split <;> simp
  · rw [G_71]; split <;> simp
  · rw [G_72]; split <;> simp
  · rw [G_73]; split <;> simp
theorem G_self {k : Int} (hk : k = 70 ∨ k = 71 ∨ k = 72 ∨ k = 73 ∨ k = 68 ∨ k = 69) (b : BitVec 64) : G M sx k b b = b &&& M := by
  rcases hk with rfl | rfl | rfl | rfl | rfl | rfl
  · rw [G_70]; split <;> rfl
  · rw [G_71]; split <;> rfl
  · rw [G_72]; split <;> rfl
  · rw [G_73]; split <;> rfl
  · rw [G_68, BitVec.and_self]
  · rw [G_69, BitVec.or_self]
theorem G_cut (k : Int) (a b : BitVec 64) : G M sx k (a &&& M) b = G M sx k a b := by unfold G; rw [and_mm]
theorem G_idem {k : Int} (hk : k = 70 ∨ k = 71 ∨ k = 72 ∨ k = 73 ∨ k = 68 ∨ k = 69) (a b : BitVec 64) : G M sx k (G M sx k a b) b = G M sx k a b := by
  by_cases h4 : k = 70 ∨ k = 71 ∨ k = 72 ∨ k = 73
  · rcases G_one (M := M) (sx := sx) h4 a b with h | h
    · rw [h, G_cut, h]
    · rw [h, G_cut, G_self hk]
  · rcases hk with h | h | h | h | rfl | rfl
    · exact absurd (.inl h) h4
    · exact absurd (.inr (.inl h)) h4
    · exact absurd (.inr (.inr (.inl h))) h4
    · exact absurd (.inr (.inr (.inr h))) h4
    · rw [G_68, G_68]
      apply BitVec.eq_of_getLsbD_eq; intro i hi
      simp only [BitVec.getLsbD_and]
      cases a.getLsbD i <;> cases b.getLsbD i <;> cases M.getLsbD i <;> rfl
    · rw [G_69, G_69]
      apply BitVec.eq_of_getLsbD_eq; intro i hi
      simp only [BitVec.getLsbD_and, BitVec.getLsbD_or]
      cases a.getLsbD i <;> cases b.getLsbD i <;> cases M.getLsbD i <;> rfl
theorem G_65 (a b : BitVec 64) : G M sx 65 a b = b &&& M := by simp [G, amoT]
theorem G_66 (a b : BitVec 64) : G M sx 66 a b = ((a &&& M) + (b &&& M)) &&& M := by simp [G, amoT]
theorem G_67 (a b : BitVec 64) : G M sx 67 a b = (a &&& M) ^^^ (b &&& M) := by simp [G, amoT]
theorem G_swap (a b : BitVec 64) : G M sx 65 a b = b &&& M := G_65 a b
theorem G_xor (a b : BitVec 64) : G M sx 67 (G M sx 67 a b) b = a &&& M := by
  rw [G_67, G_67]
  apply BitVec.eq_of_getLsbD_eq; intro i hi
  simp only [BitVec.getLsbD_and, BitVec.getLsbD_xor]
  cases a.getLsbD i <;> cases b.getLsbD i <;> cases M.getLsbD i <;> rfl
theorem G_back (hM : ∀ x : BitVec 64, (x &&& M).toNat = x.toNat % (M.toNat + 1)) (a b : BitVec 64) (hd : (M.toNat + 1) ∣ 2 ^ 64 := by decide) : G M sx 66 (G M sx 66 a b) (-b) = a &&& M := by
  rw [G_66, G_66]
  apply BitVec.eq_of_toNat_eq
  obtain ⟨c, hc⟩ := hd
  have hm : ∀ x : Nat, x % 2 ^ 64 % (M.toNat + 1) = x % (M.toNat + 1) := fun x => by rw [hc, Nat.mod_mul_right_mod]
  simp only [hM, BitVec.toNat_add, BitVec.toNat_neg, hm, Nat.mod_mod, Nat.mod_add_mod, Nat.add_mod_mod]
  have hb := b.isLt
  have e : a.toNat + b.toNat + (2 ^ 64 - b.toNat) = a.toNat + (M.toNat + 1) * c := by rw [← hc]; omega
  rw [e, Nat.add_mul_mod_self_left]
theorem hM8 (x : BitVec 64) : (x &&& M8).toNat = x.toNat % (M8.toNat + 1) := by
  have e : x &&& M8 = x := BitVec.and_allOnes
  have e2 : M8.toNat + 1 = 2 ^ 64 := by decide
  rw [e, e2, Nat.mod_eq_of_lt x.isLt]
theorem hM4c (x : BitVec 64) : (x &&& M4).toNat = x.toNat % (M4.toNat + 1) := by
  have e2 : M4.toNat = 2 ^ 32 - 1 := by decide
  rw [BitVec.toNat_and, e2, Nat.and_two_pow_sub_one_eq_mod]
end
end Go.SX
