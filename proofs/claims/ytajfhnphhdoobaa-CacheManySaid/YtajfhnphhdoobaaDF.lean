/- Bits are decoded. Printed by a program of this session. No condition but on the ranges of arguments. -/
import Derived.Test.YtajfhnphhdoobaaDE
set_option linter.unusedVariables false
set_option linter.unusedSimpArgs false
namespace Go.SX.G
open Go Go.SX Go.Proofs
set_option maxRecDepth 100000
set_option maxHeartbeats 8000000
theorem cshort_c (n : Int) (h : Heap) : Fn Try.prog 76 [.int .u16 n] h fun x h' => x = .bool (!decide (bitI .and .u16 n 3 = 3)) ∧ h' = h := by
  refine Fn_c Try.func76 mixed c76 (by kernel_rfl) ?_; rw [r76]
  simp -implicitDefEqProofs (disch := first | omega | (simp only [h_szP, h_szS]; done) | (simp only [h_szP, h_szS]; omega)) only [go_sem, Nat.reduceBEq, reduceCtorEq, Nat.reduceAdd, Int.reduceEq, Int.reduceLT, Int.reduceLE, Int.reduceMul, Int.reduceAdd, Int.reduceSub, reduceIte, Nat.reduceLeDiff, Nat.reduceLT, Nat.reduceMul, Nat.reduceSub, Int.reduceToNat, s76, Try.underlying42]
  first | done | rfl | exact ⟨rfl, rfl⟩ | (congr 1; simp)
theorem cdecode_c (n : Int) (hn : rngI n 4294967296) (h : Heap) : Fn Try.prog 58 [.int .u32 n] h fun x h' => x = decV (decodeL n) ∧ Keeps h.size h h' := by
  have hw : rngI (IntKind.u16.wrap n) 65536 := by
    unfold rngI
    have : IntKind.u16.wrap n = n % 65536 := by simp [IntKind.wrap, IntKind.signed, IntKind.bits]
    rw [this]; omega
  by_cases q : bitI .and .u16 (IntKind.u16.wrap n) 3 = 3
  · have e : decodeL n = wordL n := by unfold decodeL; rw [if_pos q]
    have d : (!decide (bitI .and .u16 (IntKind.u16.wrap n) 3 = 3)) = false := by simp [q]
    rw [e]
    refine Fn_c Try.func58 mixed c58 (by kernel_rfl) ?_; rw [r58]
    simp -implicitDefEqProofs (disch := first | omega | (simp only [h_szP, h_szS]; done) | (simp only [h_szP, h_szS]; omega)) only [go_sem, Nat.reduceBEq, reduceCtorEq, Nat.reduceAdd, Int.reduceEq, Int.reduceLT, Int.reduceLE, Int.reduceMul, Int.reduceAdd, Int.reduceSub, reduceIte, Nat.reduceLeDiff, Nat.reduceLT, Nat.reduceMul, Nat.reduceSub, Int.reduceToNat, s58, zc34, Try.underlying133, Try.underlying42, sz34, sh34]
    refine FnK.val (cshort_c _ _) ?_
    rw [d]
    simp -implicitDefEqProofs (disch := first | omega | (simp only [h_szP, h_szS]; done) | (simp only [h_szP, h_szS]; omega)) only [go_sem, Nat.reduceBEq, reduceCtorEq, Nat.reduceAdd, Int.reduceEq, Int.reduceLT, Int.reduceLE, Int.reduceMul, Int.reduceAdd, Int.reduceSub, reduceIte, Nat.reduceLeDiff, Nat.reduceLT, Nat.reduceMul, Nat.reduceSub, Int.reduceToNat, s58, zc34, Try.underlying133, Try.underlying42, sz34, sh34]
    refine FnK.use (idecode_c n hn _) ?_
    intro x1 h1 ⟨e1, K1⟩
    have b0 : h1[h.size]? = some (.cells #[.int .i64 0, .int .i64 0, .int .i64 0, .int .i64 0, .int .i64 0, .int .i64 0, .int .i64 0] 34 (0, 0)) := by (rw [K1.old _ (by simp <;> omega)]; simp -implicitDefEqProofs (disch := first | omega | (simp only [h_szP, h_szS]; done) | (simp only [h_szP, h_szS]; omega)) only [go_sem, Nat.reduceBEq, reduceCtorEq, Nat.reduceAdd, Int.reduceEq, Int.reduceLT, Int.reduceLE, Int.reduceMul, Int.reduceAdd, Int.reduceSub, reduceIte, Nat.reduceLeDiff, Nat.reduceLT, Nat.reduceMul, Nat.reduceSub, Int.reduceToNat])
    have l0 := getElem?_lt b0
    have K2 := (Keeps.push h _ (Nat.le_refl _)).of_ext K1 (Nat.le_refl _)
    rw [e1]
    unfold decV
    split
    all_goals
      simp -implicitDefEqProofs (disch := first | omega | (simp only [h_szP, h_szS]; done) | (simp only [h_szP, h_szS]; omega)) only [go_sem, Nat.reduceBEq, reduceCtorEq, Nat.reduceAdd, Int.reduceEq, Int.reduceLT, Int.reduceLE, Int.reduceMul, Int.reduceAdd, Int.reduceSub, reduceIte, Nat.reduceLeDiff, Nat.reduceLT, Nat.reduceMul, Nat.reduceSub, Int.reduceToNat, s58, zc34, Try.underlying133, Try.underlying42, sz34, sh34, b0, InstR.v, zI]
      first | done | (refine ⟨rfl, ?_⟩; (repeat (first | refine Keeps.set' ?_ (by first | exact Nat.le_refl _ | omega) | refine Keeps.push' ?_ (by first | exact Nat.le_refl _ | omega))); exact K2) | ((repeat (first | refine Keeps.set' ?_ (by first | exact Nat.le_refl _ | omega) | refine Keeps.push' ?_ (by first | exact Nat.le_refl _ | omega))); exact K2)
  · have e : decodeL n = expandL (IntKind.u16.wrap n) := by unfold decodeL; rw [if_neg q]
    have d : (!decide (bitI .and .u16 (IntKind.u16.wrap n) 3 = 3)) = true := by simp [q]
    rw [e]
    refine Fn_c Try.func58 mixed c58 (by kernel_rfl) ?_; rw [r58]
    simp -implicitDefEqProofs (disch := first | omega | (simp only [h_szP, h_szS]; done) | (simp only [h_szP, h_szS]; omega)) only [go_sem, Nat.reduceBEq, reduceCtorEq, Nat.reduceAdd, Int.reduceEq, Int.reduceLT, Int.reduceLE, Int.reduceMul, Int.reduceAdd, Int.reduceSub, reduceIte, Nat.reduceLeDiff, Nat.reduceLT, Nat.reduceMul, Nat.reduceSub, Int.reduceToNat, s58, zc34, Try.underlying133, Try.underlying42, sz34, sh34]
    refine FnK.val (cshort_c _ _) ?_
    rw [d]
    simp -implicitDefEqProofs (disch := first | omega | (simp only [h_szP, h_szS]; done) | (simp only [h_szP, h_szS]; omega)) only [go_sem, Nat.reduceBEq, reduceCtorEq, Nat.reduceAdd, Int.reduceEq, Int.reduceLT, Int.reduceLE, Int.reduceMul, Int.reduceAdd, Int.reduceSub, reduceIte, Nat.reduceLeDiff, Nat.reduceLT, Nat.reduceMul, Nat.reduceSub, Int.reduceToNat, s58, zc34, Try.underlying133, Try.underlying42, sz34, sh34]
    refine FnK.use (expand_c _ hw _) ?_
    intro x1 h1 ⟨e1, K1⟩
    have b0 : h1[h.size]? = some (.cells #[.int .i64 0, .int .i64 0, .int .i64 0, .int .i64 0, .int .i64 0, .int .i64 0, .int .i64 0] 34 (0, 0)) := by (rw [K1.old _ (by simp <;> omega)]; simp -implicitDefEqProofs (disch := first | omega | (simp only [h_szP, h_szS]; done) | (simp only [h_szP, h_szS]; omega)) only [go_sem, Nat.reduceBEq, reduceCtorEq, Nat.reduceAdd, Int.reduceEq, Int.reduceLT, Int.reduceLE, Int.reduceMul, Int.reduceAdd, Int.reduceSub, reduceIte, Nat.reduceLeDiff, Nat.reduceLT, Nat.reduceMul, Nat.reduceSub, Int.reduceToNat])
    have l0 := getElem?_lt b0
    have K2 := (Keeps.push h _ (Nat.le_refl _)).of_ext K1 (Nat.le_refl _)
    rw [e1]
    unfold decV
    split
    all_goals
      simp -implicitDefEqProofs (disch := first | omega | (simp only [h_szP, h_szS]; done) | (simp only [h_szP, h_szS]; omega)) only [go_sem, Nat.reduceBEq, reduceCtorEq, Nat.reduceAdd, Int.reduceEq, Int.reduceLT, Int.reduceLE, Int.reduceMul, Int.reduceAdd, Int.reduceSub, reduceIte, Nat.reduceLeDiff, Nat.reduceLT, Nat.reduceMul, Nat.reduceSub, Int.reduceToNat, s58, zc34, Try.underlying133, Try.underlying42, sz34, sh34, b0, InstR.v, zI]
      first | done | (refine ⟨rfl, ?_⟩; (repeat (first | refine Keeps.set' ?_ (by first | exact Nat.le_refl _ | omega) | refine Keeps.push' ?_ (by first | exact Nat.le_refl _ | omega))); exact K2) | ((repeat (first | refine Keeps.set' ?_ (by first | exact Nat.le_refl _ | omega) | refine Keeps.push' ?_ (by first | exact Nat.le_refl _ | omega))); exact K2)
end Go.SX.G
