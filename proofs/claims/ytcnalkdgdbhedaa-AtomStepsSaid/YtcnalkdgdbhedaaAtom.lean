/- Walks of the simulated operators (Width, Do) and their contracts. No condition. -/
import Derived.Test.YtcnalkdgdbhedaaSxAtomBits
import Derived.Test.YtcnalkdgdbhedaaGen
set_option linter.unusedVariables false
set_option linter.unusedSimpArgs false
namespace Go.SX.G
open Go Go.SX Go.Proofs
set_option maxRecDepth 100000
set_option maxHeartbeats 400000
def widthI (op : Int) : Int := if 63 ≤ op ∧ op ≤ 73 then 4 else if 74 ≤ op ∧ op ≤ 84 then 8 else 0
theorem width_c (op : Int) (h : Heap) : Fn Try.prog 14 [.int .i64 op] h fun v h' => v = .int .i64 (widthI op) ∧ h' = h := by
  refine Fn_c Try.func14 mixed c14 (by kernel_rfl) ?_; rw [r14]
  simp -implicitDefEqProofs (disch := first | omega | (simp only [h_szP, h_szS]; done) | (simp only [h_szP, h_szS]; omega)) only [go_sem, Nat.reduceBEq, reduceCtorEq, Nat.reduceAdd, Int.reduceEq, Int.reduceLT, Int.reduceLE, Int.reduceMul, Int.reduceAdd, Int.reduceSub, reduceIte, Nat.reduceLeDiff, Nat.reduceLT, Nat.reduceMul, Nat.reduceSub, Int.reduceToNat, s14, Try.underlying3, Value.int.injEq]
  unfold widthI
  refine ⟨fun a => ⟨fun b => ?_, fun b => ⟨fun c => ⟨fun d => ?_, fun d => ?_⟩, fun c => ?_⟩⟩, fun a => ⟨fun c => ⟨fun d => ?_, fun d => ?_⟩, fun c => ?_⟩⟩ <;> (split <;> (try split) <;> omega)
theorem base_c (op : Int) (h : Heap) (h1 : op ≤ 84) : Fn Try.prog 37 [.int .i64 op] h fun v h' => v = .int .i64 (if 74 ≤ op then op - 11 else op) ∧ h' = h := by
  refine Fn_c Try.func37 mixed c37 (by kernel_rfl) ?_; rw [r37]
  simp -implicitDefEqProofs (disch := first | omega | (simp only [h_szP, h_szS]; done) | (simp only [h_szP, h_szS]; omega)) only [go_sem, Nat.reduceBEq, reduceCtorEq, Nat.reduceAdd, Int.reduceEq, Int.reduceLT, Int.reduceLE, Int.reduceMul, Int.reduceAdd, Int.reduceSub, reduceIte, Nat.reduceLeDiff, Nat.reduceLT, Nat.reduceMul, Nat.reduceSub, Int.reduceToNat, s37, Try.underlying3, Value.int.injEq]
  refine ⟨fun a => ?_, fun a => ?_⟩
  · simp -implicitDefEqProofs (disch := first | omega | (simp only [h_szP, h_szS]; done) | (simp only [h_szP, h_szS]; omega)) only [go_sem, Nat.reduceBEq, reduceCtorEq, Nat.reduceAdd, Int.reduceEq, Int.reduceLT, Int.reduceLE, Int.reduceMul, Int.reduceAdd, Int.reduceSub, reduceIte, Nat.reduceLeDiff, Nat.reduceLT, Nat.reduceMul, Nat.reduceSub, Int.reduceToNat, Value.int.injEq]; omega
  · simp -implicitDefEqProofs (disch := first | omega | (simp only [h_szP, h_szS]; done) | (simp only [h_szP, h_szS]; omega)) only [go_sem, Nat.reduceBEq, reduceCtorEq, Nat.reduceAdd, Int.reduceEq, Int.reduceLT, Int.reduceLE, Int.reduceMul, Int.reduceAdd, Int.reduceSub, reduceIte, Nat.reduceLeDiff, Nat.reduceLT, Nat.reduceMul, Nat.reduceSub, Int.reduceToNat]
theorem sext_c (x : BitVec 64) (n : Int) (h0 : 1 ≤ n) (h1 : n ≤ 64) (h : Heap) : Fn Try.prog 36 [U x, .int .i64 n] h fun v h' => v = U ((x <<< (64 - n).toNat).sshiftRight (64 - n).toNat) ∧ h' = h := by
  obtain ⟨m, hm⟩ : ∃ m : Nat, (64 : Int) - n = m := ⟨(64 - n).toNat, by omega⟩
  have hm' : m ≤ 64 := by omega
  refine Fn_c Try.func36 mixed c36 (by kernel_rfl) ?_; rw [r36]
  simp -implicitDefEqProofs (disch := first | omega | (simp only [h_szP, h_szS]; done) | (simp only [h_szP, h_szS]; omega)) only [go_sem, Nat.reduceBEq, reduceCtorEq, Nat.reduceAdd, Int.reduceEq, Int.reduceLT, Int.reduceLE, Int.reduceMul, Int.reduceAdd, Int.reduceSub, reduceIte, Nat.reduceLeDiff, Nat.reduceLT, Nat.reduceMul, Nat.reduceSub, Int.reduceToNat, s36, Try.underlying3, Try.underlying22, Try.underlying2, Value.int.injEq, hm, bv_shl, bv_i64, bv_sar, bv_u64]
  exact ⟨fun a => absurd a (by omega), fun _ a => absurd a (by omega)⟩
theorem do_4 (op : Int) (h0 : 63 ≤ op) (h1 : op ≤ 73) (A X : BitVec 64) (h : Heap) : Fn Try.prog 11 [.int .i64 op, U A, U X] h fun v h' => v = told (amo M4 op (A &&& M4) (X &&& M4) (sx4 (A &&& M4)) (sx4 (X &&& M4))) ∧ h' = h := by
  have hw : widthI op = 4 := by unfold widthI; rw [if_pos ⟨h0, h1⟩]
  refine Fn_c Try.func11 mixed c11 (by kernel_rfl) ?_; rw [r11]
  simp -implicitDefEqProofs (disch := first | omega | (simp only [h_szP, h_szS]; done) | (simp only [h_szP, h_szS]; omega)) only [go_sem, Nat.reduceBEq, reduceCtorEq, Nat.reduceAdd, Int.reduceEq, Int.reduceLT, Int.reduceLE, Int.reduceMul, Int.reduceAdd, Int.reduceSub, reduceIte, Nat.reduceLeDiff, Nat.reduceLT, Nat.reduceMul, Nat.reduceSub, Int.reduceToNat, s11, Try.underlying3, Try.underlying22, Try.underlying2]
  refine FnK.val (width_c op _) ?_
  rw [hw]
  simp -implicitDefEqProofs (disch := first | omega | (simp only [h_szP, h_szS]; done) | (simp only [h_szP, h_szS]; omega)) only [go_sem, Nat.reduceBEq, reduceCtorEq, Nat.reduceAdd, Int.reduceEq, Int.reduceLT, Int.reduceLE, Int.reduceMul, Int.reduceAdd, Int.reduceSub, reduceIte, Nat.reduceLeDiff, Nat.reduceLT, Nat.reduceMul, Nat.reduceSub, Int.reduceToNat, s11, Try.underlying3, Try.underlying22, Try.underlying2, mask4, bv_and]
  refine FnK.val (sext_c _ 32 (by omega) (by omega) _) ?_
  simp -implicitDefEqProofs (disch := first | omega | (simp only [h_szP, h_szS]; done) | (simp only [h_szP, h_szS]; omega)) only [go_sem, Nat.reduceBEq, reduceCtorEq, Nat.reduceAdd, Int.reduceEq, Int.reduceLT, Int.reduceLE, Int.reduceMul, Int.reduceAdd, Int.reduceSub, reduceIte, Nat.reduceLeDiff, Nat.reduceLT, Nat.reduceMul, Nat.reduceSub, Int.reduceToNat, s11, Try.underlying3, Try.underlying22, Try.underlying2, mask4, bv_and]
  refine FnK.val (sext_c _ 32 (by omega) (by omega) _) ?_
  simp -implicitDefEqProofs (disch := first | omega | (simp only [h_szP, h_szS]; done) | (simp only [h_szP, h_szS]; omega)) only [go_sem, Nat.reduceBEq, reduceCtorEq, Nat.reduceAdd, Int.reduceEq, Int.reduceLT, Int.reduceLE, Int.reduceMul, Int.reduceAdd, Int.reduceSub, reduceIte, Nat.reduceLeDiff, Nat.reduceLT, Nat.reduceMul, Nat.reduceSub, Int.reduceToNat, s11, Try.underlying3, Try.underlying22, Try.underlying2, mask4, bv_and, bv_i64, bv_lti, bv_lei]
  refine ⟨fun a => ⟨fun b => ?_, fun b => ?_⟩, fun a => ⟨fun b => ?_, fun b => ?_⟩⟩ <;>
    (refine FnK.val (base_c op _ (by omega)) ?_
     simp -implicitDefEqProofs (disch := first | omega | (simp only [h_szP, h_szS]; done) | (simp only [h_szP, h_szS]; omega)) only [go_sem, Nat.reduceBEq, reduceCtorEq, Nat.reduceAdd, Int.reduceEq, Int.reduceLT, Int.reduceLE, Int.reduceMul, Int.reduceAdd, Int.reduceSub, reduceIte, Nat.reduceLeDiff, Nat.reduceLT, Nat.reduceMul, Nat.reduceSub, Int.reduceToNat, s11, Try.underlying3, Try.underlying22, Try.underlying2, mask4, bv_and, bv_i64, bv_add, bv_xor, bv_or, tmin, tmax])
  all_goals
    repeat' first | (refine And.intro ?_ ?_) | (intro hh)
  all_goals simp only [amo, told, sx4, *, if_true, if_false, reduceIte, Int.reduceEq]
theorem do_8 (op : Int) (h0 : 74 ≤ op) (h1 : op ≤ 84) (A X : BitVec 64) (h : Heap) : Fn Try.prog 11 [.int .i64 op, U A, U X] h fun v h' => v = told (amo M8 (op - 11) (A &&& M8) (X &&& M8) (sx8 (A &&& M8)) (sx8 (X &&& M8))) ∧ h' = h := by
  have hw : widthI op = 8 := by unfold widthI; rw [if_neg (by omega), if_pos ⟨h0, h1⟩]
  refine Fn_c Try.func11 mixed c11 (by kernel_rfl) ?_; rw [r11]
  simp -implicitDefEqProofs (disch := first | omega | (simp only [h_szP, h_szS]; done) | (simp only [h_szP, h_szS]; omega)) only [go_sem, Nat.reduceBEq, reduceCtorEq, Nat.reduceAdd, Int.reduceEq, Int.reduceLT, Int.reduceLE, Int.reduceMul, Int.reduceAdd, Int.reduceSub, reduceIte, Nat.reduceLeDiff, Nat.reduceLT, Nat.reduceMul, Nat.reduceSub, Int.reduceToNat, s11, Try.underlying3, Try.underlying22, Try.underlying2]
  refine FnK.val (width_c op _) ?_
  rw [hw]
  simp -implicitDefEqProofs (disch := first | omega | (simp only [h_szP, h_szS]; done) | (simp only [h_szP, h_szS]; omega)) only [go_sem, Nat.reduceBEq, reduceCtorEq, Nat.reduceAdd, Int.reduceEq, Int.reduceLT, Int.reduceLE, Int.reduceMul, Int.reduceAdd, Int.reduceSub, reduceIte, Nat.reduceLeDiff, Nat.reduceLT, Nat.reduceMul, Nat.reduceSub, Int.reduceToNat, s11, Try.underlying3, Try.underlying22, Try.underlying2, mask8, bv_and]
  refine FnK.val (sext_c _ 64 (by omega) (by omega) _) ?_
  simp -implicitDefEqProofs (disch := first | omega | (simp only [h_szP, h_szS]; done) | (simp only [h_szP, h_szS]; omega)) only [go_sem, Nat.reduceBEq, reduceCtorEq, Nat.reduceAdd, Int.reduceEq, Int.reduceLT, Int.reduceLE, Int.reduceMul, Int.reduceAdd, Int.reduceSub, reduceIte, Nat.reduceLeDiff, Nat.reduceLT, Nat.reduceMul, Nat.reduceSub, Int.reduceToNat, s11, Try.underlying3, Try.underlying22, Try.underlying2, mask8, bv_and]
  refine FnK.val (sext_c _ 64 (by omega) (by omega) _) ?_
  simp -implicitDefEqProofs (disch := first | omega | (simp only [h_szP, h_szS]; done) | (simp only [h_szP, h_szS]; omega)) only [go_sem, Nat.reduceBEq, reduceCtorEq, Nat.reduceAdd, Int.reduceEq, Int.reduceLT, Int.reduceLE, Int.reduceMul, Int.reduceAdd, Int.reduceSub, reduceIte, Nat.reduceLeDiff, Nat.reduceLT, Nat.reduceMul, Nat.reduceSub, Int.reduceToNat, s11, Try.underlying3, Try.underlying22, Try.underlying2, mask8, bv_and, bv_i64, bv_lti, bv_lei]
  refine ⟨fun a => ⟨fun b => ?_, fun b => ?_⟩, fun a => ⟨fun b => ?_, fun b => ?_⟩⟩ <;>
    (refine FnK.val (base_c op _ (by omega)) ?_
     simp -implicitDefEqProofs (disch := first | omega | (simp only [h_szP, h_szS]; done) | (simp only [h_szP, h_szS]; omega)) only [go_sem, Nat.reduceBEq, reduceCtorEq, Nat.reduceAdd, Int.reduceEq, Int.reduceLT, Int.reduceLE, Int.reduceMul, Int.reduceAdd, Int.reduceSub, reduceIte, Nat.reduceLeDiff, Nat.reduceLT, Nat.reduceMul, Nat.reduceSub, Int.reduceToNat, s11, Try.underlying3, Try.underlying22, Try.underlying2, mask8, bv_and, bv_i64, bv_add, bv_xor, bv_or, tmin, tmax])
  all_goals
    repeat' first | (refine And.intro ?_ ?_) | (intro hh)
  all_goals simp only [amo, told, sx8, *, if_true, if_false, reduceIte, Int.reduceEq]
theorem do_0 (op : Int) (h0 : ¬ (63 ≤ op ∧ op ≤ 84)) (x y : Int) (h : Heap) : Fn Try.prog 11 [.int .i64 op, .int .u64 x, .int .u64 y] h fun v h' => v = told none ∧ h' = h := by
  have hw : widthI op = 0 := by unfold widthI; rw [if_neg (by omega), if_neg (by omega)]
  refine Fn_c Try.func11 mixed c11 (by kernel_rfl) ?_; rw [r11]
  simp -implicitDefEqProofs (disch := first | omega | (simp only [h_szP, h_szS]; done) | (simp only [h_szP, h_szS]; omega)) only [go_sem, Nat.reduceBEq, reduceCtorEq, Nat.reduceAdd, Int.reduceEq, Int.reduceLT, Int.reduceLE, Int.reduceMul, Int.reduceAdd, Int.reduceSub, reduceIte, Nat.reduceLeDiff, Nat.reduceLT, Nat.reduceMul, Nat.reduceSub, Int.reduceToNat, s11, Try.underlying3, Try.underlying22, Try.underlying2]
  refine FnK.val (width_c op _) ?_
  rw [hw]
  simp -implicitDefEqProofs (disch := first | omega | (simp only [h_szP, h_szS]; done) | (simp only [h_szP, h_szS]; omega)) only [go_sem, Nat.reduceBEq, reduceCtorEq, Nat.reduceAdd, Int.reduceEq, Int.reduceLT, Int.reduceLE, Int.reduceMul, Int.reduceAdd, Int.reduceSub, reduceIte, Nat.reduceLeDiff, Nat.reduceLT, Nat.reduceMul, Nat.reduceSub, Int.reduceToNat, s11, Try.underlying3, Try.underlying22, Try.underlying2]
  rfl

theorem answers_c (h : Heap) : Fn Try.prog 13 [] h fun v h' => v = .bool true ∧ h' = h := by
  refine Fn_c Try.func13 mixed c13 (by kernel_rfl) ?_; rw [r13]
  simp -implicitDefEqProofs (disch := first | omega | (simp only [h_szP, h_szS]; done) | (simp only [h_szP, h_szS]; omega)) only [go_sem, Nat.reduceBEq, reduceCtorEq, Nat.reduceAdd, Int.reduceEq, Int.reduceLT, Int.reduceLE, Int.reduceMul, Int.reduceAdd, Int.reduceSub, reduceIte, Nat.reduceLeDiff, Nat.reduceLT, Nat.reduceMul, Nat.reduceSub, Int.reduceToNat, s13, Try.underlying22, Try.underlying3]
  have h1 := do_4 66 (by omega) (by omega) 3#64 4#64 h
  refine FnK.val h1 ?_
  have e : amo M4 66 (3#64 &&& M4) (4#64 &&& M4) (sx4 (3#64 &&& M4)) (sx4 (4#64 &&& M4)) = some 7#64 := by decide
  rw [e]
  simp -implicitDefEqProofs (disch := first | omega | (simp only [h_szP, h_szS]; done) | (simp only [h_szP, h_szS]; omega)) only [go_sem, Nat.reduceBEq, reduceCtorEq, Nat.reduceAdd, Int.reduceEq, Int.reduceLT, Int.reduceLE, Int.reduceMul, Int.reduceAdd, Int.reduceSub, reduceIte, Nat.reduceLeDiff, Nat.reduceLT, Nat.reduceMul, Nat.reduceSub, Int.reduceToNat, s13, Try.underlying22, Try.underlying3, told_some]
  refine ⟨fun _ => ?_, fun h => absurd (by decide) h⟩
  refine FnK.val (width_c 74 _) ?_
  have e2 : widthI 74 = 8 := by decide
  simp -implicitDefEqProofs (disch := first | omega | (simp only [h_szP, h_szS]; done) | (simp only [h_szP, h_szS]; omega)) only [go_sem, Nat.reduceBEq, reduceCtorEq, Nat.reduceAdd, Int.reduceEq, Int.reduceLT, Int.reduceLE, Int.reduceMul, Int.reduceAdd, Int.reduceSub, reduceIte, Nat.reduceLeDiff, Nat.reduceLT, Nat.reduceMul, Nat.reduceSub, Int.reduceToNat, s13, Try.underlying22, Try.underlying3, e2]
end Go.SX.G
