/- Words as bytes; the space: what it is made of, small functions. No condition but on sizes. -/
import Derived.Test.YtajfhnphhdoobaaPageF
import Derived.Test.YtajfhnphhdoobaaRegG
import Derived.Test.YtajfhnphhdoobaaSxBytes
set_option linter.unusedVariables false
set_option linter.unusedSimpArgs false
namespace Go.SX.G
open Go Go.SX Go.Proofs
set_option maxRecDepth 100000
set_option maxHeartbeats 2000000
theorem shr8 (y : Nat) : shrI .u64 (y : Int) 8 = ((y / 256 : Nat) : Int) := by
  simp only [shrI, IntKind.bits]
  rw [Int.fdiv_eq_ediv_of_nonneg _ (by decide)]
  rfl
theorem or_le (a b i : Nat) (hi : i < 8) (ha : a < 256 ^ i) (hb : b < 256) : bitI .or .u64 (a : Int) ((b * 256 ^ i : Nat) : Int) = ((a + b * 256 ^ i : Nat) : Int) := by
  have h1 : 256 ^ (i + 1) ≤ 256 ^ 8 := Nat.pow_le_pow_right (by decide) (by omega)
  have h2 : b * 256 ^ i + 256 ^ i ≤ 256 ^ (i + 1) := by rw [Nat.pow_succ]; have : (b + 1) * 256 ^ i ≤ 256 * 256 ^ i := Nat.mul_le_mul_right _ (by omega); rw [Nat.add_mul] at this; omega
  have h3 : a + b * 256 ^ i < 18446744073709551616 := by have : 256 ^ 8 = 18446744073709551616 := by decide
                                                         omega
  have h4 := Nat.two_pow_add_eq_or_of_lt (i := 8 * i) (b := a) (by rw [Nat.pow_mul]; exact ha) b
  rw [Nat.pow_mul] at h4
  have h5 : (2 ^ 8) ^ i = 256 ^ i := rfl
  rw [h5] at h4
  have ea : (a : Int) = ((BitVec.ofNat 64 a).toNat : Int) := by simp; omega
  have eb : ((b * 256 ^ i : Nat) : Int) = ((BitVec.ofNat 64 (b * 256 ^ i)).toNat : Int) := by rw [BitVec.toNat_ofNat, Nat.mod_eq_of_lt (by omega)]
  rw [ea, eb, bv_or, BitVec.toNat_or, BitVec.toNat_ofNat, BitVec.toNat_ofNat, Nat.mod_eq_of_lt (by omega), Nat.mod_eq_of_lt (by omega), Nat.or_comm, Nat.mul_comm, ← h4]
  congr 1; rw [Nat.mul_comm]; omega
theorem wput_c (x n : Nat) (h0 : 1 ≤ n) (h8 : n ≤ 8) (hx : x < 18446744073709551616) (h : Heap) : Fn Try.prog 81 [.slice none 0 0, .int .u64 x, .int .i64 n] h fun v h' => Ss h' h.size v 5 encB 1 (bytesOf x n) ∧ Keeps h.size h h' := by
  have hd1 : decide ((n : Int) < 1) = false := decide_eq_false (by omega)
  have hd2 : decide ((8 : Int) < n) = false := decide_eq_false (by omega)
  refine Fn_c Try.func81 mixed c81 (by kernel_rfl) ?_; rw [r81]
  simp -implicitDefEqProofs (disch := first | omega | (simp only [h_szP, h_szS]; done) | (simp only [h_szP, h_szS]; omega)) only [go_sem, Nat.reduceBEq, reduceCtorEq, Nat.reduceAdd, Int.reduceEq, Int.reduceLT, Int.reduceLE, Int.reduceMul, Int.reduceAdd, Int.reduceSub, reduceIte, Nat.reduceLeDiff, Nat.reduceLT, Nat.reduceMul, Nat.reduceSub, Int.reduceToNat, s81, sl22, ze5, by5, sz5, Try.underlying22, Try.underlying3, Try.underlying26, Try.underlying5]
  have s0 : Ss (h.push (.cells #[] 5)) h.size (.slice (some ⟨h.size, 0, none⟩) 0 0) 5 encB 1 [] := Ss.mk encB_len [] (h_pushE _ _ _ rfl) rfl rfl (Nat.le_refl _) (Nat.le_refl _) (Nat.le_refl _)
  refine app_sl (m := 0) (n := 0) (lo := h.size) (L := []) (new := []) elB s0 rfl rfl rfl rfl (by omega) rfl (by simp) ?_
  intro v1 h1 S1 G1
  have K1 : Keeps h.size h h1 := (Keeps.push h _ (Nat.le_refl _)).trans (G1.keeps (lo := h.size) (fun b hb => by simp [blk] at hb; omega) (by simp))
  simp -implicitDefEqProofs (disch := first | omega | (simp only [h_szP, h_szS]; done) | (simp only [h_szP, h_szS]; omega)) only [go_sem, Nat.reduceBEq, reduceCtorEq, Nat.reduceAdd, Int.reduceEq, Int.reduceLT, Int.reduceLE, Int.reduceMul, Int.reduceAdd, Int.reduceSub, reduceIte, Nat.reduceLeDiff, Nat.reduceLT, Nat.reduceMul, Nat.reduceSub, Int.reduceToNat, s81, sl22, ze5, by5, sz5, Try.underlying22, Try.underlying3, Try.underlying26, Try.underlying5, hd1, hd2]
  obtain ⟨I, hI⟩ : ∃ I : Nat → Fr → Heap → Prop, I = fun k fr hh => ∃ (i : Nat) (vo : Value), i + k = n ∧ Ss hh h.size vo 5 encB 1 (bytesOf x i) ∧ Keeps h.size h hh ∧
      fr = ((((fr0.up 19 (.int .i64 i)).up 18 (.int .i64 n)).up 7 vo).up 1 (.int .u64 ((x / 256 ^ i : Nat) : Int))) := ⟨_, rfl⟩
  refine LoopK.use I n (by rw [hI]; exact ⟨0, v1, by omega, S1, K1, by simp⟩) ?_
  intro k fr hh hK
  rw [hI] at hK
  obtain ⟨i, vo, hk, S2, K2, hf⟩ := hK
  subst hf
  by_cases hi : i < n
  · have hdi : decide ((i : Int) < n) = true := decide_eq_true (by omega)
    have hxi : x / 256 ^ i < 18446744073709551616 := Nat.lt_of_le_of_lt (Nat.div_le_self _ _) hx
    have hw8 : IntKind.u8.wrap ((x / 256 ^ i : Nat) : Int) = ((x / 256 ^ i % 256 : Nat) : Int) := by rw [wrap_u8]; omega
    have hsh := shr8 (x / 256 ^ i)
    have hdd : x / 256 ^ i / 256 = x / 256 ^ (i + 1) := by rw [Nat.div_div_eq_div_mul, Nat.pow_succ]
    rw [hdd] at hsh
    simp -implicitDefEqProofs (disch := first | omega | (simp only [h_szP, h_szS]; done) | (simp only [h_szP, h_szS]; omega)) only [go_sem, Nat.reduceBEq, reduceCtorEq, Nat.reduceAdd, Int.reduceEq, Int.reduceLT, Int.reduceLE, Int.reduceMul, Int.reduceAdd, Int.reduceSub, reduceIte, Nat.reduceLeDiff, Nat.reduceLT, Nat.reduceMul, Nat.reduceSub, Int.reduceToNat, s81, sl22, ze5, by5, sz5, Try.underlying22, Try.underlying3, Try.underlying26, Try.underlying5, hdi, hw8, hsh]
    have hbl := bytesOf_len x i
    refine app_push (x / 256 ^ i % 256) elB encB_len S2 rfl rfl rfl (by rw [hbl]; omega) K2.size ?_
    intro v3 h3 S3 K3 _ _
    simp -implicitDefEqProofs (disch := first | omega | (simp only [h_szP, h_szS]; done) | (simp only [h_szP, h_szS]; omega)) only [go_sem, Nat.reduceBEq, reduceCtorEq, Nat.reduceAdd, Int.reduceEq, Int.reduceLT, Int.reduceLE, Int.reduceMul, Int.reduceAdd, Int.reduceSub, reduceIte, Nat.reduceLeDiff, Nat.reduceLT, Nat.reduceMul, Nat.reduceSub, Int.reduceToNat, s81, sl22, ze5, by5, sz5, Try.underlying22, Try.underlying3, Try.underlying26, Try.underlying5]
    rw [← bytesOf_succ] at S3
    refine ⟨k - 1, by omega, ?_⟩
    rw [hI]
    exact ⟨i + 1, v3, by omega, S3, K2.trans K3, by rw [hsh]; rfl⟩
  · have e1 : i = n := by omega
    subst e1
    simp -implicitDefEqProofs (disch := first | omega | (simp only [h_szP, h_szS]; done) | (simp only [h_szP, h_szS]; omega)) only [go_sem, Nat.reduceBEq, reduceCtorEq, Nat.reduceAdd, Int.reduceEq, Int.reduceLT, Int.reduceLE, Int.reduceMul, Int.reduceAdd, Int.reduceSub, reduceIte, Nat.reduceLeDiff, Nat.reduceLT, Nat.reduceMul, Nat.reduceSub, Int.reduceToNat, s81, sl22, ze5, by5, sz5, Try.underlying22, Try.underlying3, Try.underlying26, Try.underlying5]
    exact ⟨S2, K2⟩
theorem wget_c {h : Heap} {v : Value} {bs : List Nat} (n : Nat) (h0 : 1 ≤ n) (h8 : n ≤ 8) (hv : Vs h v encB 1 bs) (hn : bs.length = n) (hb : ∀ b ∈ bs, b < 256) :
    Fn Try.prog 66 [v, .int .i64 n] h fun x h' => x = .int .u64 (le bs : Nat) ∧ h' = h := by
  obtain ⟨vb, vo, cap, e1, hcap, hvb⟩ := hv.open (i := 0) (by omega)
  rw [hn] at e1 hcap
  subst e1
  have hd1 : decide ((n : Int) < 1) = false := decide_eq_false (by omega)
  have hd2 : decide ((8 : Int) < n) = false := decide_eq_false (by omega)
  refine Fn_c Try.func66 mixed c66 (by kernel_rfl) ?_; rw [r66]
  simp -implicitDefEqProofs (disch := first | omega | (simp only [h_szP, h_szS]; done) | (simp only [h_szP, h_szS]; omega)) only [go_sem, Nat.reduceBEq, reduceCtorEq, Nat.reduceAdd, Int.reduceEq, Int.reduceLT, Int.reduceLE, Int.reduceMul, Int.reduceAdd, Int.reduceSub, reduceIte, Nat.reduceLeDiff, Nat.reduceLT, Nat.reduceMul, Nat.reduceSub, Int.reduceToNat, s66, Try.underlying3, Try.underlying22, sl22, ze5, by5, sz5, sh5, Try.underlying5, Try.underlying26, hd1, hd2]
  obtain ⟨I, hI⟩ : ∃ I : Nat → Fr → Heap → Prop, I = fun k fr hh => hh = h ∧ ∃ (i : Nat), i + k = n ∧
      fr = ((((fr0.up 21 (.int .i64 i)).up 20 (.int .i64 n)).up 19 (.slice (some ⟨vb, vo, none⟩) n cap)).up 5 (.int .u64 (le (bs.take i) : Nat))) := ⟨_, rfl⟩
  refine LoopK.use I n (by rw [hI]; exact ⟨rfl, 0, by omega, by simp [le]⟩) ?_
  intro k fr hh hK
  rw [hI] at hK
  obtain ⟨e0, i, hk, hf⟩ := hK
  have e0 := e0.symm
  subst e0
  subst hf
  by_cases hi : i < n
  · have hdi : decide ((i : Int) < n) = true := decide_eq_true (by omega)
    have hib : i < bs.length := by omega
    have hE : cellO (vo + i) h[vb]? = some (.int .u8 (bs[i] : Nat)) := by
      have := hv.field encB_len hib (j := 0) (by omega)
      simpa [encB] using this
    have hb1 := hb bs[i] (List.getElem_mem hib)
    have hsh := shl_byte bs[i] i hb1 (by omega)
    have htk := le_lt (bs.take i) fun b q => hb b (List.mem_of_mem_take q)
    rw [List.length_take, Nat.min_eq_left (by omega)] at htk
    have hor := or_le (le (bs.take i)) bs[i] i (by omega) htk hb1
    have hle : le (bs.take (i + 1)) = le (bs.take i) + bs[i] * 256 ^ i := by
      rw [take_snoc _ _ hib, le_app, List.length_take, Nat.min_eq_left (by omega)]
    simp -implicitDefEqProofs (disch := first | omega | (simp only [h_szP, h_szS]; done) | (simp only [h_szP, h_szS]; omega)) only [go_sem, Nat.reduceBEq, reduceCtorEq, Nat.reduceAdd, Int.reduceEq, Int.reduceLT, Int.reduceLE, Int.reduceMul, Int.reduceAdd, Int.reduceSub, reduceIte, Nat.reduceLeDiff, Nat.reduceLT, Nat.reduceMul, Nat.reduceSub, Int.reduceToNat, s66, Try.underlying3, Try.underlying22, sl22, ze5, by5, sz5, sh5, Try.underlying5, Try.underlying26, hdi, hE, hsh, hor, Nat.mul_one]
    refine ⟨k - 1, by omega, ?_⟩
    rw [hI]
    exact ⟨rfl, i + 1, by omega, by rw [hle]; rfl⟩
  · have e1 : i = n := by omega
    subst e1
    simp -implicitDefEqProofs (disch := first | omega | (simp only [h_szP, h_szS]; done) | (simp only [h_szP, h_szS]; omega)) only [go_sem, Nat.reduceBEq, reduceCtorEq, Nat.reduceAdd, Int.reduceEq, Int.reduceLT, Int.reduceLE, Int.reduceMul, Int.reduceAdd, Int.reduceSub, reduceIte, Nat.reduceLeDiff, Nat.reduceLT, Nat.reduceMul, Nat.reduceSub, Int.reduceToNat, s66, Try.underlying3, Try.underlying22, sl22, ze5, by5, sz5, sh5, Try.underlying5, Try.underlying26]
    rw [List.take_of_length_le (by omega)]
end Go.SX.G
