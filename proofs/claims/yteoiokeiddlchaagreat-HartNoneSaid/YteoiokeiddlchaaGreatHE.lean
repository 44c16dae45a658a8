/- c.li is expanded, and what it does. No condition. -/
import Derived.Test.YteoiokeiddlchaaGreatGen
import Derived.Test.YteoiokeiddlchaaGreatSxHeap
set_option linter.unusedVariables false
set_option linter.unusedSimpArgs false
namespace Go.SX.G
open Go Go.SX Go.Proofs
set_option maxRecDepth 100000
set_option maxHeartbeats 2000000
theorem bits1_c (h : Heap) : Fn Tryz.prog 122 [.int .u16 17669, .int .i64 13, .int .i64 3, .int .i64 0] h fun x h' => x = .int .i64 2 ∧ h' = h := by
  refine Fn_c Tryz.func122 mixed c122 (by kernel_rfl) ?_; rw [r122]
  simp -implicitDefEqProofs (disch := first | omega | (simp only [h_szP, h_szS]; done) | (simp only [h_szP, h_szS]; omega)) only [go_sem, Nat.reduceBEq, reduceCtorEq, Nat.reduceAdd, Int.reduceEq, Int.reduceLT, Int.reduceLE, Int.reduceMul, Int.reduceAdd, Int.reduceSub, reduceIte, Nat.reduceLeDiff, Nat.reduceLT, Nat.reduceMul, Nat.reduceSub, Int.reduceToNat, s122, Tryz.underlying157, Tryz.underlying3]
  exact congrArg (Value.int .i64) (by decide)
theorem bits2_c (h : Heap) : Fn Tryz.prog 122 [.int .u16 17669, .int .i64 7, .int .i64 5, .int .i64 0] h fun x h' => x = .int .i64 10 ∧ h' = h := by
  refine Fn_c Tryz.func122 mixed c122 (by kernel_rfl) ?_; rw [r122]
  simp -implicitDefEqProofs (disch := first | omega | (simp only [h_szP, h_szS]; done) | (simp only [h_szP, h_szS]; omega)) only [go_sem, Nat.reduceBEq, reduceCtorEq, Nat.reduceAdd, Int.reduceEq, Int.reduceLT, Int.reduceLE, Int.reduceMul, Int.reduceAdd, Int.reduceSub, reduceIte, Nat.reduceLeDiff, Nat.reduceLT, Nat.reduceMul, Nat.reduceSub, Int.reduceToNat, s122, Tryz.underlying157, Tryz.underlying3]
  exact congrArg (Value.int .i64) (by decide)
theorem bits3_c (h : Heap) : Fn Tryz.prog 122 [.int .u16 17669, .int .i64 12, .int .i64 1, .int .i64 5] h fun x h' => x = .int .i64 0 ∧ h' = h := by
  refine Fn_c Tryz.func122 mixed c122 (by kernel_rfl) ?_; rw [r122]
  simp -implicitDefEqProofs (disch := first | omega | (simp only [h_szP, h_szS]; done) | (simp only [h_szP, h_szS]; omega)) only [go_sem, Nat.reduceBEq, reduceCtorEq, Nat.reduceAdd, Int.reduceEq, Int.reduceLT, Int.reduceLE, Int.reduceMul, Int.reduceAdd, Int.reduceSub, reduceIte, Nat.reduceLeDiff, Nat.reduceLT, Nat.reduceMul, Nat.reduceSub, Int.reduceToNat, s122, Tryz.underlying157, Tryz.underlying3]
  exact congrArg (Value.int .i64) (by decide)
theorem bits4_c (h : Heap) : Fn Tryz.prog 122 [.int .u16 17669, .int .i64 2, .int .i64 5, .int .i64 0] h fun x h' => x = .int .i64 1 ∧ h' = h := by
  refine Fn_c Tryz.func122 mixed c122 (by kernel_rfl) ?_; rw [r122]
  simp -implicitDefEqProofs (disch := first | omega | (simp only [h_szP, h_szS]; done) | (simp only [h_szP, h_szS]; omega)) only [go_sem, Nat.reduceBEq, reduceCtorEq, Nat.reduceAdd, Int.reduceEq, Int.reduceLT, Int.reduceLE, Int.reduceMul, Int.reduceAdd, Int.reduceSub, reduceIte, Nat.reduceLeDiff, Nat.reduceLT, Nat.reduceMul, Nat.reduceSub, Int.reduceToNat, s122, Tryz.underlying157, Tryz.underlying3]
  exact congrArg (Value.int .i64) (by decide)
theorem rd_c (h : Heap) : Fn Tryz.prog 125 [.int .u16 17669] h fun x h' => x = .int .i64 10 ∧ h' = h := by
  refine Fn_c Tryz.func125 mixed c125 (by kernel_rfl) ?_; rw [r125]
  simp -implicitDefEqProofs (disch := first | omega | (simp only [h_szP, h_szS]; done) | (simp only [h_szP, h_szS]; omega)) only [go_sem, Nat.reduceBEq, reduceCtorEq, Nat.reduceAdd, Int.reduceEq, Int.reduceLT, Int.reduceLE, Int.reduceMul, Int.reduceAdd, Int.reduceSub, reduceIte, Nat.reduceLeDiff, Nat.reduceLT, Nat.reduceMul, Nat.reduceSub, Int.reduceToNat, s125]
  refine FnK.val (bits2_c h) ?_
  simp -implicitDefEqProofs (disch := first | omega | (simp only [h_szP, h_szS]; done) | (simp only [h_szP, h_szS]; omega)) only [go_sem, Nat.reduceBEq, reduceCtorEq, Nat.reduceAdd, Int.reduceEq, Int.reduceLT, Int.reduceLE, Int.reduceMul, Int.reduceAdd, Int.reduceSub, reduceIte, Nat.reduceLeDiff, Nat.reduceLT, Nat.reduceMul, Nat.reduceSub, Int.reduceToNat, s125]
theorem six_c (h : Heap) : Fn Tryz.prog 131 [.int .u16 17669] h fun x h' => x = .int .i64 1 ∧ h' = h := by
  refine Fn_c Tryz.func131 mixed c131 (by kernel_rfl) ?_; rw [r131]
  simp -implicitDefEqProofs (disch := first | omega | (simp only [h_szP, h_szS]; done) | (simp only [h_szP, h_szS]; omega)) only [go_sem, Nat.reduceBEq, reduceCtorEq, Nat.reduceAdd, Int.reduceEq, Int.reduceLT, Int.reduceLE, Int.reduceMul, Int.reduceAdd, Int.reduceSub, reduceIte, Nat.reduceLeDiff, Nat.reduceLT, Nat.reduceMul, Nat.reduceSub, Int.reduceToNat, s131, Tryz.underlying3]
  refine FnK.val (bits3_c h) ?_
  simp -implicitDefEqProofs (disch := first | omega | (simp only [h_szP, h_szS]; done) | (simp only [h_szP, h_szS]; omega)) only [go_sem, Nat.reduceBEq, reduceCtorEq, Nat.reduceAdd, Int.reduceEq, Int.reduceLT, Int.reduceLE, Int.reduceMul, Int.reduceAdd, Int.reduceSub, reduceIte, Nat.reduceLeDiff, Nat.reduceLT, Nat.reduceMul, Nat.reduceSub, Int.reduceToNat, s131, Tryz.underlying3]
  refine FnK.val (bits4_c h) ?_
  simp -implicitDefEqProofs (disch := first | omega | (simp only [h_szP, h_szS]; done) | (simp only [h_szP, h_szS]; omega)) only [go_sem, Nat.reduceBEq, reduceCtorEq, Nat.reduceAdd, Int.reduceEq, Int.reduceLT, Int.reduceLE, Int.reduceMul, Int.reduceAdd, Int.reduceSub, reduceIte, Nat.reduceLeDiff, Nat.reduceLT, Nat.reduceMul, Nat.reduceSub, Int.reduceToNat, s131, Tryz.underlying3]
  exact congrArg (Value.int .i64) (by decide)
theorem sext1_c (h : Heap) : Fn Tryz.prog 57 [.int .u64 1, .int .i64 6] h fun x h' => x = .int .u64 1 ∧ h' = h := by
  refine Fn_c Tryz.func57 mixed c57 (by kernel_rfl) ?_; rw [r57]
  simp -implicitDefEqProofs (disch := first | omega | (simp only [h_szP, h_szS]; done) | (simp only [h_szP, h_szS]; omega)) only [go_sem, Nat.reduceBEq, reduceCtorEq, Nat.reduceAdd, Int.reduceEq, Int.reduceLT, Int.reduceLE, Int.reduceMul, Int.reduceAdd, Int.reduceSub, reduceIte, Nat.reduceLeDiff, Nat.reduceLT, Nat.reduceMul, Nat.reduceSub, Int.reduceToNat, s57, Tryz.underlying3, Tryz.underlying22, Tryz.underlying2]
  exact congrArg (Value.int .u64) (by decide)
theorem signed_c (h : Heap) : Fn Tryz.prog 145 [.int .i64 1, .int .i64 6] h fun x h' => x = .int .i64 1 ∧ h' = h := by
  refine Fn_c Tryz.func145 mixed c145 (by kernel_rfl) ?_; rw [r145]
  simp -implicitDefEqProofs (disch := first | omega | (simp only [h_szP, h_szS]; done) | (simp only [h_szP, h_szS]; omega)) only [go_sem, Nat.reduceBEq, reduceCtorEq, Nat.reduceAdd, Int.reduceEq, Int.reduceLT, Int.reduceLE, Int.reduceMul, Int.reduceAdd, Int.reduceSub, reduceIte, Nat.reduceLeDiff, Nat.reduceLT, Nat.reduceMul, Nat.reduceSub, Int.reduceToNat, s145, Tryz.underlying3, Tryz.underlying22, Tryz.underlying2]
  refine FnK.val (sext1_c h) ?_
  simp -implicitDefEqProofs (disch := first | omega | (simp only [h_szP, h_szS]; done) | (simp only [h_szP, h_szS]; omega)) only [go_sem, Nat.reduceBEq, reduceCtorEq, Nat.reduceAdd, Int.reduceEq, Int.reduceLT, Int.reduceLE, Int.reduceMul, Int.reduceAdd, Int.reduceSub, reduceIte, Nat.reduceLeDiff, Nat.reduceLT, Nat.reduceMul, Nat.reduceSub, Int.reduceToNat, s145, Tryz.underlying3, Tryz.underlying22, Tryz.underlying2]
theorem shortI_c (h : Heap) : Fn Tryz.prog 126 [.int .u16 17669] h fun x h' => x = .int .i64 1 ∧ h' = h := by
  refine Fn_c Tryz.func126 mixed c126 (by kernel_rfl) ?_; rw [r126]
  simp -implicitDefEqProofs (disch := first | omega | (simp only [h_szP, h_szS]; done) | (simp only [h_szP, h_szS]; omega)) only [go_sem, Nat.reduceBEq, reduceCtorEq, Nat.reduceAdd, Int.reduceEq, Int.reduceLT, Int.reduceLE, Int.reduceMul, Int.reduceAdd, Int.reduceSub, reduceIte, Nat.reduceLeDiff, Nat.reduceLT, Nat.reduceMul, Nat.reduceSub, Int.reduceToNat, s126]
  refine FnK.val (six_c h) ?_
  simp -implicitDefEqProofs (disch := first | omega | (simp only [h_szP, h_szS]; done) | (simp only [h_szP, h_szS]; omega)) only [go_sem, Nat.reduceBEq, reduceCtorEq, Nat.reduceAdd, Int.reduceEq, Int.reduceLT, Int.reduceLE, Int.reduceMul, Int.reduceAdd, Int.reduceSub, reduceIte, Nat.reduceLeDiff, Nat.reduceLT, Nat.reduceMul, Nat.reduceSub, Int.reduceToNat, s126]
  refine FnK.val (signed_c h) ?_
  simp -implicitDefEqProofs (disch := first | omega | (simp only [h_szP, h_szS]; done) | (simp only [h_szP, h_szS]; omega)) only [go_sem, Nat.reduceBEq, reduceCtorEq, Nat.reduceAdd, Int.reduceEq, Int.reduceLT, Int.reduceLE, Int.reduceMul, Int.reduceAdd, Int.reduceSub, reduceIte, Nat.reduceLeDiff, Nat.reduceLT, Nat.reduceMul, Nat.reduceSub, Int.reduceToNat, s126]
theorem second_c (h : Heap) : Fn Tryz.prog 97 [.int .u16 17669] h fun x h' => x = .agg #[.int .i64 22, .int .i64 10, .int .i64 0, .int .i64 0, .int .i64 1, .int .i64 0, .int .i64 0] ∧ Keeps h.size h h' := by
  refine Fn_c Tryz.func97 mixed c97 (by kernel_rfl) ?_; rw [r97]
  simp -implicitDefEqProofs (disch := first | omega | (simp only [h_szP, h_szS]; done) | (simp only [h_szP, h_szS]; omega)) only [go_sem, Nat.reduceBEq, reduceCtorEq, Nat.reduceAdd, Int.reduceEq, Int.reduceLT, Int.reduceLE, Int.reduceMul, Int.reduceAdd, Int.reduceSub, reduceIte, Nat.reduceLeDiff, Nat.reduceLT, Nat.reduceMul, Nat.reduceSub, Int.reduceToNat, s97, zc63, Tryz.underlying3, sd63, pl63_0, pl63_1, pl63_2, pl63_4, sz63, sh63]
  refine FnK.val (rd_c _) ?_
  simp -implicitDefEqProofs (disch := first | omega | (simp only [h_szP, h_szS]; done) | (simp only [h_szP, h_szS]; omega)) only [go_sem, Nat.reduceBEq, reduceCtorEq, Nat.reduceAdd, Int.reduceEq, Int.reduceLT, Int.reduceLE, Int.reduceMul, Int.reduceAdd, Int.reduceSub, reduceIte, Nat.reduceLeDiff, Nat.reduceLT, Nat.reduceMul, Nat.reduceSub, Int.reduceToNat, s97, zc63, Tryz.underlying3, sd63, pl63_0, pl63_1, pl63_2, pl63_4, sz63, sh63]
  refine FnK.val (bits1_c _) ?_
  simp -implicitDefEqProofs (disch := first | omega | (simp only [h_szP, h_szS]; done) | (simp only [h_szP, h_szS]; omega)) only [go_sem, Nat.reduceBEq, reduceCtorEq, Nat.reduceAdd, Int.reduceEq, Int.reduceLT, Int.reduceLE, Int.reduceMul, Int.reduceAdd, Int.reduceSub, reduceIte, Nat.reduceLeDiff, Nat.reduceLT, Nat.reduceMul, Nat.reduceSub, Int.reduceToNat, s97, zc63, Tryz.underlying3, sd63, pl63_0, pl63_1, pl63_2, pl63_4, sz63, sh63]
  refine FnK.val (shortI_c _) ?_
  simp -implicitDefEqProofs (disch := first | omega | (simp only [h_szP, h_szS]; done) | (simp only [h_szP, h_szS]; omega)) only [go_sem, Nat.reduceBEq, reduceCtorEq, Nat.reduceAdd, Int.reduceEq, Int.reduceLT, Int.reduceLE, Int.reduceMul, Int.reduceAdd, Int.reduceSub, reduceIte, Nat.reduceLeDiff, Nat.reduceLT, Nat.reduceMul, Nat.reduceSub, Int.reduceToNat, s97, zc63, Tryz.underlying3, sd63, pl63_0, pl63_1, pl63_2, pl63_4, sz63, sh63]
  first | done | exact Keeps.push _ _ (Nat.le_refl _)
theorem expand_c (h : Heap) : Fn Tryz.prog 71 [.int .u16 17669] h fun x h' => x = .tuple #[.agg #[.int .i64 22, .int .i64 10, .int .i64 0, .int .i64 0, .int .i64 1, .int .i64 0, .int .i64 2], .bool true] ∧ Keeps h.size h h' := by
  have a3 : bitI .and .u16 17669 3 = 1 := by decide
  refine Fn_c Tryz.func71 mixed c71 (by kernel_rfl) ?_; rw [r71]
  simp -implicitDefEqProofs (disch := first | omega | (simp only [h_szP, h_szS]; done) | (simp only [h_szP, h_szS]; omega)) only [go_sem, Nat.reduceBEq, reduceCtorEq, Nat.reduceAdd, Int.reduceEq, Int.reduceLT, Int.reduceLE, Int.reduceMul, Int.reduceAdd, Int.reduceSub, reduceIte, Nat.reduceLeDiff, Nat.reduceLT, Nat.reduceMul, Nat.reduceSub, Int.reduceToNat, s71, zc63, Tryz.underlying145, sz63, fo63_0, sh3, Tryz.underlying3, sd63, fo63_6, sz3, sh63, a3]
  refine FnK.use (second_c _) ?_
  intro x h1 ⟨e1, K1⟩
  have b0 : h1[h.size + 1]? = some (.cells #[.int .i64 0, .int .i64 0, .int .i64 0, .int .i64 0, .int .i64 0, .int .i64 0, .int .i64 0] 63 (0, 0)) := by
    rw [K1.old _ (by simp)]; exact h_pushE _ _ _ (by simp)
  have l0 := getElem?_lt b0
  have K2 : Keeps h.size h h1 := ((Keeps.push _ _ (Nat.le_refl _)).push' (Nat.le_refl _)).of_ext K1 (Nat.le_refl _)
  rw [e1]
  have b1 : h1[h.size]? = some (.cells #[.int .i64 0, .int .i64 0, .int .i64 0, .int .i64 0, .int .i64 0, .int .i64 0, .int .i64 0] 63 (0, 0)) := by
    rw [K1.old _ (by simp; omega), h_pushL _ _ _ (by simp)]; exact h_pushE _ _ _ rfl
  simp -implicitDefEqProofs (disch := first | omega | (simp only [h_szP, h_szS]; done) | (simp only [h_szP, h_szS]; omega)) only [go_sem, Nat.reduceBEq, reduceCtorEq, Nat.reduceAdd, Int.reduceEq, Int.reduceLT, Int.reduceLE, Int.reduceMul, Int.reduceAdd, Int.reduceSub, reduceIte, Nat.reduceLeDiff, Nat.reduceLT, Nat.reduceMul, Nat.reduceSub, Int.reduceToNat, s71, zc63, Tryz.underlying145, sz63, fo63_0, sh3, Tryz.underlying3, sd63, fo63_6, sz3, sh63, b0, b1]
  exact (K2.set' (by omega)).set' (Nat.le_refl _)
theorem short_c (h : Heap) : Fn Tryz.prog 70 [.int .u16 17669] h fun x h' => x = .bool true ∧ h' = h := by
  have a3 : bitI .and .u16 17669 3 = 1 := by decide
  refine Fn_c Tryz.func70 mixed c70 (by kernel_rfl) ?_; rw [r70]
  simp -implicitDefEqProofs (disch := first | omega | (simp only [h_szP, h_szS]; done) | (simp only [h_szP, h_szS]; omega)) only [go_sem, Nat.reduceBEq, reduceCtorEq, Nat.reduceAdd, Int.reduceEq, Int.reduceLT, Int.reduceLE, Int.reduceMul, Int.reduceAdd, Int.reduceSub, reduceIte, Nat.reduceLeDiff, Nat.reduceLT, Nat.reduceMul, Nat.reduceSub, Int.reduceToNat, s70, Tryz.underlying145, a3]
theorem decode_c (h : Heap) : Fn Tryz.prog 51 [.int .u32 17669] h fun x h' => x = .tuple #[.agg #[.int .i64 22, .int .i64 10, .int .i64 0, .int .i64 0, .int .i64 1, .int .i64 0, .int .i64 2], .bool true] ∧ Keeps h.size h h' := by
  refine Fn_c Tryz.func51 mixed c51 (by kernel_rfl) ?_; rw [r51]
  simp -implicitDefEqProofs (disch := first | omega | (simp only [h_szP, h_szS]; done) | (simp only [h_szP, h_szS]; omega)) only [go_sem, Nat.reduceBEq, reduceCtorEq, Nat.reduceAdd, Int.reduceEq, Int.reduceLT, Int.reduceLE, Int.reduceMul, Int.reduceAdd, Int.reduceSub, reduceIte, Nat.reduceLeDiff, Nat.reduceLT, Nat.reduceMul, Nat.reduceSub, Int.reduceToNat, s51, zc63, Tryz.underlying121, Tryz.underlying145, sz63, sh63]
  refine FnK.val (short_c _) ?_
  simp -implicitDefEqProofs (disch := first | omega | (simp only [h_szP, h_szS]; done) | (simp only [h_szP, h_szS]; omega)) only [go_sem, Nat.reduceBEq, reduceCtorEq, Nat.reduceAdd, Int.reduceEq, Int.reduceLT, Int.reduceLE, Int.reduceMul, Int.reduceAdd, Int.reduceSub, reduceIte, Nat.reduceLeDiff, Nat.reduceLT, Nat.reduceMul, Nat.reduceSub, Int.reduceToNat, s51, zc63, Tryz.underlying121, Tryz.underlying145, sz63, sh63]
  refine FnK.use (expand_c _) ?_
  intro x h1 ⟨e1, K1⟩
  have b0 : h1[h.size]? = some (.cells #[.int .i64 0, .int .i64 0, .int .i64 0, .int .i64 0, .int .i64 0, .int .i64 0, .int .i64 0] 63 (0, 0)) := by
    rw [K1.old _ (by simp)]; exact h_pushE _ _ _ rfl
  have l0 := getElem?_lt b0
  have K2 : Keeps h.size h h1 := (Keeps.push _ _ (Nat.le_refl _)).of_ext K1 (Nat.le_refl _)
  rw [e1]
  simp -implicitDefEqProofs (disch := first | omega | (simp only [h_szP, h_szS]; done) | (simp only [h_szP, h_szS]; omega)) only [go_sem, Nat.reduceBEq, reduceCtorEq, Nat.reduceAdd, Int.reduceEq, Int.reduceLT, Int.reduceLE, Int.reduceMul, Int.reduceAdd, Int.reduceSub, reduceIte, Nat.reduceLeDiff, Nat.reduceLT, Nat.reduceMul, Nat.reduceSub, Int.reduceToNat, s51, zc63, Tryz.underlying121, Tryz.underlying145, sz63, sh63, b0]
  exact K2.set' (Nat.le_refl _)
theorem plain_c (h : Heap) (a b : Nat) (hab : a + b < 18446744073709551616) : Fn Tryz.prog 81 [.int .i64 22, .int .u64 a, .int .u64 b] h fun x h' => x = .tuple #[.int .u64 ((a + b : Nat) : Int), .bool true] ∧ h' = h := by
  have hw : IntKind.u64.wrap ((a : Int) + b) = ((a + b : Nat) : Int) := by rw [wrap_u64]; omega
  refine Fn_c Tryz.func81 mixed c81 (by kernel_rfl) ?_; rw [r81]
  simp -implicitDefEqProofs (disch := first | omega | (simp only [h_szP, h_szS]; done) | (simp only [h_szP, h_szS]; omega)) only [go_sem, Nat.reduceBEq, reduceCtorEq, Nat.reduceAdd, Int.reduceEq, Int.reduceLT, Int.reduceLE, Int.reduceMul, Int.reduceAdd, Int.reduceSub, reduceIte, Nat.reduceLeDiff, Nat.reduceLT, Nat.reduceMul, Nat.reduceSub, Int.reduceToNat, s81, Tryz.underlying3, Tryz.underlying22, hw]
theorem ado_c (h : Heap) (a b : Nat) (hab : a + b < 18446744073709551616) : Fn Tryz.prog 58 [.int .i64 22, .int .u64 a, .int .u64 b] h fun x h' => x = .tuple #[.int .u64 ((a + b : Nat) : Int), .bool true] ∧ h' = h := by
  refine Fn_c Tryz.func58 mixed c58 (by kernel_rfl) ?_; rw [r58]
  simp -implicitDefEqProofs (disch := first | omega | (simp only [h_szP, h_szS]; done) | (simp only [h_szP, h_szS]; omega)) only [go_sem, Nat.reduceBEq, reduceCtorEq, Nat.reduceAdd, Int.reduceEq, Int.reduceLT, Int.reduceLE, Int.reduceMul, Int.reduceAdd, Int.reduceSub, reduceIte, Nat.reduceLeDiff, Nat.reduceLT, Nat.reduceMul, Nat.reduceSub, Int.reduceToNat, s58]
  refine FnK.val (plain_c h a b hab) ?_
  simp -implicitDefEqProofs (disch := first | omega | (simp only [h_szP, h_szS]; done) | (simp only [h_szP, h_szS]; omega)) only [go_sem, Nat.reduceBEq, reduceCtorEq, Nat.reduceAdd, Int.reduceEq, Int.reduceLT, Int.reduceLE, Int.reduceMul, Int.reduceAdd, Int.reduceSub, reduceIte, Nat.reduceLeDiff, Nat.reduceLT, Nat.reduceMul, Nat.reduceSub, Int.reduceToNat, s58]
theorem taken_c (h : Heap) (a b : Int) : Fn Tryz.prog 53 [.int .i64 22, .int .u64 a, .int .u64 b] h fun x h' => x = .tuple #[.bool false, .bool false] ∧ h' = h := by
  refine Fn_c Tryz.func53 mixed c53 (by kernel_rfl) ?_; rw [r53]
  simp -implicitDefEqProofs (disch := first | omega | (simp only [h_szP, h_szS]; done) | (simp only [h_szP, h_szS]; omega)) only [go_sem, Nat.reduceBEq, reduceCtorEq, Nat.reduceAdd, Int.reduceEq, Int.reduceLT, Int.reduceLE, Int.reduceMul, Int.reduceAdd, Int.reduceSub, reduceIte, Nat.reduceLeDiff, Nat.reduceLT, Nat.reduceMul, Nat.reduceSub, Int.reduceToNat, s53, Tryz.underlying3, Tryz.underlying22]
theorem access_c (h : Heap) : Fn Tryz.prog 35 [.int .i64 22] h fun x h' => x = .tuple #[.int .i64 0, .bool false] ∧ h' = h := by
  refine Fn_c Tryz.func35 mixed c35 (by kernel_rfl) ?_; rw [r35]
  simp -implicitDefEqProofs (disch := first | omega | (simp only [h_szP, h_szS]; done) | (simp only [h_szP, h_szS]; omega)) only [go_sem, Nat.reduceBEq, reduceCtorEq, Nat.reduceAdd, Int.reduceEq, Int.reduceLT, Int.reduceLE, Int.reduceMul, Int.reduceAdd, Int.reduceSub, reduceIte, Nat.reduceLeDiff, Nat.reduceLT, Nat.reduceMul, Nat.reduceSub, Int.reduceToNat, s35, Tryz.underlying3]
end Go.SX.G
