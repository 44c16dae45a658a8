/- An instruction through a cache that is off. No condition. -/
import Derived.Test.YteoiokeiddlchaaGreatHB
import Derived.Test.YteoiokeiddlchaaGreatHE
set_option linter.unusedVariables false
set_option linter.unusedSimpArgs false
namespace Go.SX.G
open Go Go.SX Go.Proofs
set_option maxRecDepth 100000
set_option maxHeartbeats 2000000
theorem cread_c {h : Heap} {s : Nat} {M : MemD} (a : Nat) (r : MR h s M) (ha : a < 18446744073709551616) (ha2 : a % 2 = 0) (F : FirstN M.rs a 2 4 none) (hw : le (peekL M a 2) = 17669) :
    Fn Tryz.prog 31 [ptr s 0, .int .u64 a] h fun x h' => x = .tuple #[.agg #[.int .i64 22, .int .i64 10, .int .i64 0, .int .i64 0, .int .i64 1, .int .i64 0, .int .i64 2], .agg #[.int .i64 0, .int .i64 0, .int .u64 0]] ∧ Keeps h.size h h' := by
  have K0 : Keeps h.size h ((h.push (.cells #[.int .i64 0, .int .i64 0, .int .i64 0, .int .i64 0, .int .i64 0, .int .i64 0, .int .i64 0] 63)).push (.cells #[.int .i64 0, .int .i64 0, .int .u64 0] 33)) := (Keeps.push _ _ (Nat.le_refl _)).push' (Nat.le_refl _)
  refine Fn_c Tryz.func31 mixed c31 (by kernel_rfl) ?_; rw [r31]
  simp -implicitDefEqProofs (disch := first | omega | (simp only [h_szP, h_szS]; done) | (simp only [h_szP, h_szS]; omega)) only [go_sem, Nat.reduceBEq, reduceCtorEq, Nat.reduceAdd, Int.reduceEq, Int.reduceLT, Int.reduceLE, Int.reduceMul, Int.reduceAdd, Int.reduceSub, reduceIte, Nat.reduceLeDiff, Nat.reduceLT, Nat.reduceMul, Nat.reduceSub, Int.reduceToNat, s31, zc63, zc33, zc31, sz31, fo31_0, sh3, Tryz.underlying3, sd63, sh31, sd33, pl33_0, pl33_1, sz63, sz33, sd31, pl31_0, pl31_1, sh63, sh33]
  refine FnK.use (fetch_c a (r.ext K0) ha ha2 F hw) ?_
  intro x h1 ⟨e1, K1⟩
  rw [e1]
  simp -implicitDefEqProofs (disch := first | omega | (simp only [h_szP, h_szS]; done) | (simp only [h_szP, h_szS]; omega)) only [go_sem, Nat.reduceBEq, reduceCtorEq, Nat.reduceAdd, Int.reduceEq, Int.reduceLT, Int.reduceLE, Int.reduceMul, Int.reduceAdd, Int.reduceSub, reduceIte, Nat.reduceLeDiff, Nat.reduceLT, Nat.reduceMul, Nat.reduceSub, Int.reduceToNat, s31, zc63, zc33, zc31, sz31, fo31_0, sh3, Tryz.underlying3, sd63, sh31, sd33, pl33_0, pl33_1, sz63, sz33, sd31, pl31_0, pl31_1, sh63, sh33]
  refine FnK.use (decode_c _) ?_
  intro x h2 ⟨e2, K2⟩
  have s1 := K1.size
  have s2 := K2.size
  simp only [Array.size_push] at s1 s2
  have q4 : h2[h.size]? = some (.cells #[.int .i64 0, .int .i64 0, .int .i64 0, .int .i64 0, .int .i64 0, .int .i64 0, .int .i64 0] 63 (0, 0)) := by
    rw [K2.old _ (by simp; omega), h_pushL _ _ _ (by omega), K1.old _ (by simp; omega), h_pushL _ _ _ (by simp)]; exact h_pushE _ _ _ rfl
  have q5 : h2[h.size + 1]? = some (.cells #[.int .i64 0, .int .i64 0, .int .u64 0] 33 (0, 0)) := by
    rw [K2.old _ (by simp; omega), h_pushL _ _ _ (by omega), K1.old _ (by simp)]; exact h_pushE _ _ _ (by simp)
  have l4 := getElem?_lt q4
  have l5 := getElem?_lt q5
  have KK : Keeps h.size h h2 := ((K0.of_ext K1 (Nat.le_refl _)).push' (Nat.le_refl _)).of_ext K2 (Nat.le_refl _)
  rw [e2]
  simp -implicitDefEqProofs (disch := first | omega | (simp only [h_szP, h_szS]; done) | (simp only [h_szP, h_szS]; omega)) only [go_sem, Nat.reduceBEq, reduceCtorEq, Nat.reduceAdd, Int.reduceEq, Int.reduceLT, Int.reduceLE, Int.reduceMul, Int.reduceAdd, Int.reduceSub, reduceIte, Nat.reduceLeDiff, Nat.reduceLT, Nat.reduceMul, Nat.reduceSub, Int.reduceToNat, s31, zc63, zc33, zc31, sz31, fo31_0, sh3, Tryz.underlying3, sd63, sh31, sd33, pl33_0, pl33_1, sz63, sz33, sd31, pl31_0, pl31_1, sh63, sh33, q4, q5]
  exact ((KK.set' (Nat.le_refl _)).set' (by omega)).push' (Nat.le_refl _)
theorem cfetch_c {h : Heap} {s cb : Nat} {M : MemD} {mv pv : Value} (a : Nat) (r : MR h s M) (hc : h[cb]? = some (.cells #[.bool false, mv, pv] 91 (0, 0))) (ha : a < 18446744073709551616) (ha2 : a % 2 = 0) (F : FirstN M.rs a 2 4 none) (hw : le (peekL M a 2) = 17669) :
    Fn Tryz.prog 19 [ptr cb 0, ptr s 0, .int .u64 a] h fun x h' => x = .tuple #[.agg #[.int .i64 22, .int .i64 10, .int .i64 0, .int .i64 0, .int .i64 1, .int .i64 0, .int .i64 2], .agg #[.int .i64 0, .int .i64 0, .int .u64 0]] ∧ Keeps h.size h h' := by
  have K0 : Keeps h.size h ((h.push (.cells #[.int .i64 0, .int .i64 0, .int .i64 0, .int .i64 0, .int .i64 0, .int .i64 0, .int .i64 0] 63)).push (.cells #[.int .i64 0, .int .i64 0, .int .u64 0] 33)) := (Keeps.push _ _ (Nat.le_refl _)).push' (Nat.le_refl _)
  have lc := getElem?_lt hc
  refine Fn_c Tryz.func19 mixed c19 (by kernel_rfl) ?_; rw [r19]
  simp -implicitDefEqProofs (disch := first | omega | (simp only [h_szP, h_szS]; done) | (simp only [h_szP, h_szS]; omega)) only [go_sem, Nat.reduceBEq, reduceCtorEq, Nat.reduceAdd, Int.reduceEq, Int.reduceLT, Int.reduceLE, Int.reduceMul, Int.reduceAdd, Int.reduceSub, reduceIte, Nat.reduceLeDiff, Nat.reduceLT, Nat.reduceMul, Nat.reduceSub, Int.reduceToNat, s19, zc63, zc33, Tryz.underlying45, fo91_0, sh4, sz63, sz33, fo91_2, sh42, Tryz.underlying42, sz42, fo91_1, sh89, Tryz.underlying89, Tryz.underlying22, ze93, zc93, sz93, fo93_0, fo63_6, sh3, fo93_1, sh22, fo93_2, sh63, sd33, fo33_0, Tryz.underlying3, sh33, sd93, pl93_0, pl93_1, pl93_2, hc]
  refine FnK.use (cread_c a (r.ext K0) ha ha2 F hw) ?_
  intro x h1 ⟨e1, K1⟩
  have s1 := K1.size
  simp only [Array.size_push] at s1
  have q4 : h1[h.size]? = some (.cells #[.int .i64 0, .int .i64 0, .int .i64 0, .int .i64 0, .int .i64 0, .int .i64 0, .int .i64 0] 63 (0, 0)) := by
    rw [K1.old _ (by simp; omega), h_pushL _ _ _ (by simp)]; exact h_pushE _ _ _ rfl
  have q5 : h1[h.size + 1]? = some (.cells #[.int .i64 0, .int .i64 0, .int .u64 0] 33 (0, 0)) := by
    rw [K1.old _ (by simp)]; exact h_pushE _ _ _ (by simp)
  have l4 := getElem?_lt q4
  have l5 := getElem?_lt q5
  have KK : Keeps h.size h h1 := K0.of_ext K1 (Nat.le_refl _)
  rw [e1]
  simp -implicitDefEqProofs (disch := first | omega | (simp only [h_szP, h_szS]; done) | (simp only [h_szP, h_szS]; omega)) only [go_sem, Nat.reduceBEq, reduceCtorEq, Nat.reduceAdd, Int.reduceEq, Int.reduceLT, Int.reduceLE, Int.reduceMul, Int.reduceAdd, Int.reduceSub, reduceIte, Nat.reduceLeDiff, Nat.reduceLT, Nat.reduceMul, Nat.reduceSub, Int.reduceToNat, s19, zc63, zc33, Tryz.underlying45, fo91_0, sh4, sz63, sz33, fo91_2, sh42, Tryz.underlying42, sz42, fo91_1, sh89, Tryz.underlying89, Tryz.underlying22, ze93, zc93, sz93, fo93_0, fo63_6, sh3, fo93_1, sh22, fo93_2, sh63, sd33, fo33_0, Tryz.underlying3, sh33, sd93, pl93_0, pl93_1, pl93_2, q4, q5]
  exact (KK.set' (Nat.le_refl _)).set' (by omega)
end Go.SX.G
