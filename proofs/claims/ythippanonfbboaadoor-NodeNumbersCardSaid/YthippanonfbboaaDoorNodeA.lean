/- A nil tree answers what is said. No condition. -/
import Derived.Test.YthippanonfbboaaDoorGen
import Derived.Test.YthippanonfbboaaDoorSxExt
set_option linter.unusedVariables false
set_option linter.unusedSimpArgs false
namespace Go.SX.G
open Go Go.SX Go.Proofs
set_option maxRecDepth 100000
set_option maxHeartbeats 1000000
theorem get_n (h : Heap) (n : Int) : Fn Tryd.prog 29 [.pointer none, .int .i64 n] h fun x h' => x = .pointer none ∧ Keeps h.size h h' := by
  refine Fn_c Tryd.func29 mixed c29 (by kernel_rfl) ?_; rw [r29]
  simp -implicitDefEqProofs (disch := first | omega | (simp only [h_szP, h_szS]; done) | (simp only [h_szP, h_szS]; omega)) only [go_sem, Nat.reduceBEq, reduceCtorEq, Nat.reduceAdd, Int.reduceEq, Int.reduceLT, Int.reduceLE, Int.reduceMul, Int.reduceAdd, Int.reduceSub, reduceIte, Nat.reduceLeDiff, Nat.reduceLT, Nat.reduceMul, Nat.reduceSub, Int.reduceToNat, s29, Tryd.underlying25, fo72_0, sh70, Tryd.underlying70, Tryd.underlying3, ze67]
  first | exact Keeps.refl' | exact ⟨rfl, Keeps.refl'⟩
theorem dir_n (h : Heap) (n : Int) : Fn Tryd.prog 36 [.pointer none, .int .i64 n] h fun x h' => x = .tuple #[.pointer none, .int .i64 2] ∧ Keeps h.size h h' := by
  refine Fn_c Tryd.func36 mixed c36 (by kernel_rfl) ?_; rw [r36]
  simp -implicitDefEqProofs (disch := first | omega | (simp only [h_szP, h_szS]; done) | (simp only [h_szP, h_szS]; omega)) only [go_sem, Nat.reduceBEq, reduceCtorEq, Nat.reduceAdd, Int.reduceEq, Int.reduceLT, Int.reduceLE, Int.reduceMul, Int.reduceAdd, Int.reduceSub, reduceIte, Nat.reduceLeDiff, Nat.reduceLT, Nat.reduceMul, Nat.reduceSub, Int.reduceToNat, s36, Tryd.underlying67, fo69_0, sh3, Tryd.underlying3]
  refine FnK.use (get_n _ _) ?_
  intro x h1 ⟨e1, K1⟩
  rw [e1]
  simp -implicitDefEqProofs (disch := first | omega | (simp only [h_szP, h_szS]; done) | (simp only [h_szP, h_szS]; omega)) only [go_sem, Nat.reduceBEq, reduceCtorEq, Nat.reduceAdd, Int.reduceEq, Int.reduceLT, Int.reduceLE, Int.reduceMul, Int.reduceAdd, Int.reduceSub, reduceIte, Nat.reduceLeDiff, Nat.reduceLT, Nat.reduceMul, Nat.reduceSub, Int.reduceToNat, s36, Tryd.underlying67, fo69_0, sh3, Tryd.underlying3]
  first | exact K1 | exact ⟨rfl, K1⟩
theorem plain_n (h : Heap) (n : Int) : Fn Tryd.prog 33 [.pointer none, .int .i64 n] h fun x h' => x = .tuple #[.pointer none, .int .i64 2] ∧ Keeps h.size h h' := by
  refine Fn_c Tryd.func33 mixed c33 (by kernel_rfl) ?_; rw [r33]
  simp -implicitDefEqProofs (disch := first | omega | (simp only [h_szP, h_szS]; done) | (simp only [h_szP, h_szS]; omega)) only [go_sem, Nat.reduceBEq, reduceCtorEq, Nat.reduceAdd, Int.reduceEq, Int.reduceLT, Int.reduceLE, Int.reduceMul, Int.reduceAdd, Int.reduceSub, reduceIte, Nat.reduceLeDiff, Nat.reduceLT, Nat.reduceMul, Nat.reduceSub, Int.reduceToNat, s33, Tryd.underlying67, fo69_0, sh3, Tryd.underlying3]
  refine FnK.use (get_n _ _) ?_
  intro x h1 ⟨e1, K1⟩
  rw [e1]
  simp -implicitDefEqProofs (disch := first | omega | (simp only [h_szP, h_szS]; done) | (simp only [h_szP, h_szS]; omega)) only [go_sem, Nat.reduceBEq, reduceCtorEq, Nat.reduceAdd, Int.reduceEq, Int.reduceLT, Int.reduceLE, Int.reduceMul, Int.reduceAdd, Int.reduceSub, reduceIte, Nat.reduceLeDiff, Nat.reduceLT, Nat.reduceMul, Nat.reduceSub, Int.reduceToNat, s33, Tryd.underlying67, fo69_0, sh3, Tryd.underlying3]
  first | exact K1 | exact ⟨rfl, K1⟩
theorem info_n (h : Heap) (n : Int) : Fn Tryd.prog 14 [.pointer none, .int .i64 n] h fun x h' => (∃ v, x = .tuple #[v, .bool false]) ∧ Keeps h.size h h' := by
  refine Fn_c Tryd.func14 mixed c14 (by kernel_rfl) ?_; rw [r14]
  simp -implicitDefEqProofs (disch := first | omega | (simp only [h_szP, h_szS]; done) | (simp only [h_szP, h_szS]; omega)) only [go_sem, Nat.reduceBEq, reduceCtorEq, Nat.reduceAdd, Int.reduceEq, Int.reduceLT, Int.reduceLE, Int.reduceMul, Int.reduceAdd, Int.reduceSub, reduceIte, Nat.reduceLeDiff, Nat.reduceLT, Nat.reduceMul, Nat.reduceSub, Int.reduceToNat, s14, zc38, Tryd.underlying67, sd38, sz38, fo69_0, sh3, fo69_1, fo69_5, fo69_2, sh23, Tryd.underlying23, sl23, ze5, by5, sz5, pl38_0, pl38_1, pl38_2, pl38_3, pl38_4, Tryd.underlying3, fo69_3, sh55, Tryd.underlying55, sl55, ze59, by59, sz59, fo38_4, sz3, fo38_3, sh59, zc59, fo59_2, sh38]
  refine FnK.use (get_n _ _) ?_
  intro x h1 ⟨e1, K1⟩
  rw [e1]
  have hb : h1[h.size]? = some (.cells #[.int .i64 0, .int .i64 0, .int .i64 0, .int .i64 0, .int .i64 0] 38 (0, 0)) := by rw [K1.old _ (by simp)]; exact h_pushE _ _ _ rfl
  have hl := getElem?_lt hb
  simp -implicitDefEqProofs (disch := first | omega | (simp only [h_szP, h_szS]; done) | (simp only [h_szP, h_szS]; omega)) only [go_sem, Nat.reduceBEq, reduceCtorEq, Nat.reduceAdd, Int.reduceEq, Int.reduceLT, Int.reduceLE, Int.reduceMul, Int.reduceAdd, Int.reduceSub, reduceIte, Nat.reduceLeDiff, Nat.reduceLT, Nat.reduceMul, Nat.reduceSub, Int.reduceToNat, s14, zc38, Tryd.underlying67, sd38, sz38, fo69_0, sh3, fo69_1, fo69_5, fo69_2, sh23, Tryd.underlying23, sl23, ze5, by5, sz5, pl38_0, pl38_1, pl38_2, pl38_3, pl38_4, Tryd.underlying3, fo69_3, sh55, Tryd.underlying55, sl55, ze59, by59, sz59, fo38_4, sz3, fo38_3, sh59, zc59, fo59_2, sh38, hb]
  exact ⟨⟨_, rfl⟩, ((Keeps.push _ _ (Nat.le_refl _)).of_ext K1 (Nat.le_refl _)).set' (Nat.le_refl _)⟩
theorem list_n (h : Heap) (n : Int) : Fn Tryd.prog 20 [.pointer none, .int .i64 n] h fun x h' => x = .tuple #[.slice none 0 0, .int .i64 2] ∧ Keeps h.size h h' := by
  refine Fn_c Tryd.func20 mixed c20 (by kernel_rfl) ?_; rw [r20]
  simp -implicitDefEqProofs (disch := first | omega | (simp only [h_szP, h_szS]; done) | (simp only [h_szP, h_szS]; omega)) only [go_sem, Nat.reduceBEq, reduceCtorEq, Nat.reduceAdd, Int.reduceEq, Int.reduceLT, Int.reduceLE, Int.reduceMul, Int.reduceAdd, Int.reduceSub, reduceIte, Nat.reduceLeDiff, Nat.reduceLT, Nat.reduceMul, Nat.reduceSub, Int.reduceToNat, s20, Tryd.underlying26, fo69_3, sh55]
  refine FnK.use (dir_n _ _) ?_
  intro x h1 ⟨e1, K1⟩
  rw [e1]
  simp -implicitDefEqProofs (disch := first | omega | (simp only [h_szP, h_szS]; done) | (simp only [h_szP, h_szS]; omega)) only [go_sem, Nat.reduceBEq, reduceCtorEq, Nat.reduceAdd, Int.reduceEq, Int.reduceLT, Int.reduceLE, Int.reduceMul, Int.reduceAdd, Int.reduceSub, reduceIte, Nat.reduceLeDiff, Nat.reduceLT, Nat.reduceMul, Nat.reduceSub, Int.reduceToNat, s20, Tryd.underlying26, fo69_3, sh55]
  first | exact K1 | exact ⟨rfl, K1⟩
theorem parent_n (h : Heap) (n : Int) : Fn Tryd.prog 21 [.pointer none, .int .i64 n] h fun x h' => x = .int .i64 0 ∧ Keeps h.size h h' := by
  refine Fn_c Tryd.func21 mixed c21 (by kernel_rfl) ?_; rw [r21]
  simp -implicitDefEqProofs (disch := first | omega | (simp only [h_szP, h_szS]; done) | (simp only [h_szP, h_szS]; omega)) only [go_sem, Nat.reduceBEq, reduceCtorEq, Nat.reduceAdd, Int.reduceEq, Int.reduceLT, Int.reduceLE, Int.reduceMul, Int.reduceAdd, Int.reduceSub, reduceIte, Nat.reduceLeDiff, Nat.reduceLT, Nat.reduceMul, Nat.reduceSub, Int.reduceToNat, s21, Tryd.underlying26, fo69_4, sh3, Tryd.underlying3]
  refine FnK.use (dir_n _ _) ?_
  intro x h1 ⟨e1, K1⟩
  rw [e1]
  simp -implicitDefEqProofs (disch := first | omega | (simp only [h_szP, h_szS]; done) | (simp only [h_szP, h_szS]; omega)) only [go_sem, Nat.reduceBEq, reduceCtorEq, Nat.reduceAdd, Int.reduceEq, Int.reduceLT, Int.reduceLE, Int.reduceMul, Int.reduceAdd, Int.reduceSub, reduceIte, Nat.reduceLeDiff, Nat.reduceLT, Nat.reduceMul, Nat.reduceSub, Int.reduceToNat, s21, Tryd.underlying26, fo69_4, sh3, Tryd.underlying3]
  first | exact K1 | exact ⟨rfl, K1⟩
theorem find_n (h : Heap) (n : Int) (s : ByteArray) : Fn Tryd.prog 53 [.pointer none, .int .i64 n, .string s] h fun x h' => x = .tuple #[.int .i64 0, .int .i64 2] ∧ Keeps h.size h h' := by
  refine Fn_c Tryd.func53 mixed c53 (by kernel_rfl) ?_; rw [r53]
  simp -implicitDefEqProofs (disch := first | omega | (simp only [h_szP, h_szS]; done) | (simp only [h_szP, h_szS]; omega)) only [go_sem, Nat.reduceBEq, reduceCtorEq, Nat.reduceAdd, Int.reduceEq, Int.reduceLT, Int.reduceLE, Int.reduceMul, Int.reduceAdd, Int.reduceSub, reduceIte, Nat.reduceLeDiff, Nat.reduceLT, Nat.reduceMul, Nat.reduceSub, Int.reduceToNat, s53, Tryd.underlying26, Tryd.underlying9, Tryd.underlying3, fo69_3, sh55, sl55, ze59, by59, sz59, fo59_1, sh3]
  refine FnK.use (dir_n _ _) ?_
  intro x h1 ⟨e1, K1⟩
  rw [e1]
  simp -implicitDefEqProofs (disch := first | omega | (simp only [h_szP, h_szS]; done) | (simp only [h_szP, h_szS]; omega)) only [go_sem, Nat.reduceBEq, reduceCtorEq, Nat.reduceAdd, Int.reduceEq, Int.reduceLT, Int.reduceLE, Int.reduceMul, Int.reduceAdd, Int.reduceSub, reduceIte, Nat.reduceLeDiff, Nat.reduceLT, Nat.reduceMul, Nat.reduceSub, Int.reduceToNat, s53, Tryd.underlying26, Tryd.underlying9, Tryd.underlying3, fo69_3, sh55, sl55, ze59, by59, sz59, fo59_1, sh3]
  first | exact K1 | exact ⟨rfl, K1⟩
theorem place_n (h : Heap) (n : Int) (s : ByteArray) : Fn Tryd.prog 28 [.pointer none, .int .i64 n, .string s] h fun x h' => x = .tuple #[.pointer none, .int .i64 2] ∧ Keeps h.size h h' := by
  refine Fn_c Tryd.func28 mixed c28 (by kernel_rfl) ?_; rw [r28]
  simp -implicitDefEqProofs (disch := first | omega | (simp only [h_szP, h_szS]; done) | (simp only [h_szP, h_szS]; omega)) only [go_sem, Nat.reduceBEq, reduceCtorEq, Nat.reduceAdd, Int.reduceEq, Int.reduceLT, Int.reduceLE, Int.reduceMul, Int.reduceAdd, Int.reduceSub, reduceIte, Nat.reduceLeDiff, Nat.reduceLT, Nat.reduceMul, Nat.reduceSub, Int.reduceToNat, s28, Tryd.underlying26, Tryd.underlying9, Tryd.underlying3]
  refine FnK.use (dir_n _ _) ?_
  intro x h1 ⟨e1, K1⟩
  rw [e1]
  simp -implicitDefEqProofs (disch := first | omega | (simp only [h_szP, h_szS]; done) | (simp only [h_szP, h_szS]; omega)) only [go_sem, Nat.reduceBEq, reduceCtorEq, Nat.reduceAdd, Int.reduceEq, Int.reduceLT, Int.reduceLE, Int.reduceMul, Int.reduceAdd, Int.reduceSub, reduceIte, Nat.reduceLeDiff, Nat.reduceLT, Nat.reduceMul, Nat.reduceSub, Int.reduceToNat, s28, Tryd.underlying26, Tryd.underlying9, Tryd.underlying3]
  first | exact K1 | exact ⟨rfl, K1⟩
theorem make_n (h : Heap) (n k m : Int) (s : ByteArray) (v : Value) : Fn Tryd.prog 9 [.pointer none, .int .i64 n, .string s, .int .i64 k, .int .i64 m, v] h fun x h' => x = .tuple #[.int .i64 0, .int .i64 2] ∧ Keeps h.size h h' := by
  refine Fn_c Tryd.func9 mixed c9 (by kernel_rfl) ?_; rw [r9]
  simp -implicitDefEqProofs (disch := first | omega | (simp only [h_szP, h_szS]; done) | (simp only [h_szP, h_szS]; omega)) only [go_sem, Nat.reduceBEq, reduceCtorEq, Nat.reduceAdd, Int.reduceEq, Int.reduceLT, Int.reduceLE, Int.reduceMul, Int.reduceAdd, Int.reduceSub, reduceIte, Nat.reduceLeDiff, Nat.reduceLT, Nat.reduceMul, Nat.reduceSub, Int.reduceToNat, s9, Tryd.underlying26, Tryd.underlying67, fo72_0, sh70, Tryd.underlying70, Tryd.underlying3, zc69, sd69, pl69_0, pl69_1, pl69_2, pl69_5, fo69_4, sz3, fo69_3, sh55, zc59, sd59, pl59_0, pl59_1, pl59_2, sl55, ze59, by59, sz59, Tryd.underlying55, sz55]
  refine FnK.use (place_n _ _ _) ?_
  intro x h1 ⟨e1, K1⟩
  rw [e1]
  simp -implicitDefEqProofs (disch := first | omega | (simp only [h_szP, h_szS]; done) | (simp only [h_szP, h_szS]; omega)) only [go_sem, Nat.reduceBEq, reduceCtorEq, Nat.reduceAdd, Int.reduceEq, Int.reduceLT, Int.reduceLE, Int.reduceMul, Int.reduceAdd, Int.reduceSub, reduceIte, Nat.reduceLeDiff, Nat.reduceLT, Nat.reduceMul, Nat.reduceSub, Int.reduceToNat, s9, Tryd.underlying26, Tryd.underlying67, fo72_0, sh70, Tryd.underlying70, Tryd.underlying3, zc69, sd69, pl69_0, pl69_1, pl69_2, pl69_5, fo69_4, sz3, fo69_3, sh55, zc59, sd59, pl59_0, pl59_1, pl59_2, sl55, ze59, by59, sz59, Tryd.underlying55, sz55]
  refine FnK.use (get_n _ _) ?_
  intro x h2 ⟨e2, K2⟩
  rw [e2]
  simp -implicitDefEqProofs (disch := first | omega | (simp only [h_szP, h_szS]; done) | (simp only [h_szP, h_szS]; omega)) only [go_sem, Nat.reduceBEq, reduceCtorEq, Nat.reduceAdd, Int.reduceEq, Int.reduceLT, Int.reduceLE, Int.reduceMul, Int.reduceAdd, Int.reduceSub, reduceIte, Nat.reduceLeDiff, Nat.reduceLT, Nat.reduceMul, Nat.reduceSub, Int.reduceToNat, s9, Tryd.underlying26, Tryd.underlying67, fo72_0, sh70, Tryd.underlying70, Tryd.underlying3, zc69, sd69, pl69_0, pl69_1, pl69_2, pl69_5, fo69_4, sz3, fo69_3, sh55, zc59, sd59, pl59_0, pl59_1, pl59_2, sl55, ze59, by59, sz59, Tryd.underlying55, sz55]
  first | exact K1.of_ext K2 (Nat.le_refl _) | exact ⟨rfl, K1.of_ext K2 (Nat.le_refl _)⟩
theorem link_n (h : Heap) (n m : Int) (s : ByteArray) : Fn Tryd.prog 41 [.pointer none, .int .i64 n, .string s, .int .i64 m] h fun x h' => x = .int .i64 2 ∧ Keeps h.size h h' := by
  refine Fn_c Tryd.func41 mixed c41 (by kernel_rfl) ?_; rw [r41]
  simp -implicitDefEqProofs (disch := first | omega | (simp only [h_szP, h_szS]; done) | (simp only [h_szP, h_szS]; omega)) only [go_sem, Nat.reduceBEq, reduceCtorEq, Nat.reduceAdd, Int.reduceEq, Int.reduceLT, Int.reduceLE, Int.reduceMul, Int.reduceAdd, Int.reduceSub, reduceIte, Nat.reduceLeDiff, Nat.reduceLT, Nat.reduceMul, Nat.reduceSub, Int.reduceToNat, s41, Tryd.underlying67, fo69_0, sh3, Tryd.underlying3, Tryd.underlying26, fo69_5, sz3, fo69_3, sh55, zc59, sd59, pl59_0, pl59_1, pl59_2, sl55, ze59, by59, sz59, Tryd.underlying55, sz55]
  refine FnK.use (get_n _ _) ?_
  intro x h1 ⟨e1, K1⟩
  rw [e1]
  simp -implicitDefEqProofs (disch := first | omega | (simp only [h_szP, h_szS]; done) | (simp only [h_szP, h_szS]; omega)) only [go_sem, Nat.reduceBEq, reduceCtorEq, Nat.reduceAdd, Int.reduceEq, Int.reduceLT, Int.reduceLE, Int.reduceMul, Int.reduceAdd, Int.reduceSub, reduceIte, Nat.reduceLeDiff, Nat.reduceLT, Nat.reduceMul, Nat.reduceSub, Int.reduceToNat, s41, Tryd.underlying67, fo69_0, sh3, Tryd.underlying3, Tryd.underlying26, fo69_5, sz3, fo69_3, sh55, zc59, sd59, pl59_0, pl59_1, pl59_2, sl55, ze59, by59, sz59, Tryd.underlying55, sz55]
  first | exact K1 | exact ⟨rfl, K1⟩
theorem remove_n (h : Heap) (n : Int) (s : ByteArray) (b : Bool) : Fn Tryd.prog 16 [.pointer none, .int .i64 n, .string s, .bool b] h fun x h' => x = .int .i64 2 ∧ Keeps h.size h h' := by
  refine Fn_c Tryd.func16 mixed c16 (by kernel_rfl) ?_; rw [r16]
  simp -implicitDefEqProofs (disch := first | omega | (simp only [h_szP, h_szS]; done) | (simp only [h_szP, h_szS]; omega)) only [go_sem, Nat.reduceBEq, reduceCtorEq, Nat.reduceAdd, Int.reduceEq, Int.reduceLT, Int.reduceLE, Int.reduceMul, Int.reduceAdd, Int.reduceSub, reduceIte, Nat.reduceLeDiff, Nat.reduceLT, Nat.reduceMul, Nat.reduceSub, Int.reduceToNat, s16, Tryd.underlying26, Tryd.underlying9, Tryd.underlying3, fo72_0, sh70, fo69_3, sh55, sl55, ze59, by59, sz59, fo59_1, sh3, Tryd.underlying70, ze67]
  refine FnK.use (dir_n _ _) ?_
  intro x h1 ⟨e1, K1⟩
  rw [e1]
  simp -implicitDefEqProofs (disch := first | omega | (simp only [h_szP, h_szS]; done) | (simp only [h_szP, h_szS]; omega)) only [go_sem, Nat.reduceBEq, reduceCtorEq, Nat.reduceAdd, Int.reduceEq, Int.reduceLT, Int.reduceLE, Int.reduceMul, Int.reduceAdd, Int.reduceSub, reduceIte, Nat.reduceLeDiff, Nat.reduceLT, Nat.reduceMul, Nat.reduceSub, Int.reduceToNat, s16, Tryd.underlying26, Tryd.underlying9, Tryd.underlying3, fo72_0, sh70, fo69_3, sh55, sl55, ze59, by59, sz59, fo59_1, sh3, Tryd.underlying70, ze67]
  first | exact K1 | exact ⟨rfl, K1⟩
theorem move_n (h : Heap) (n m : Int) (s t : ByteArray) : Fn Tryd.prog 44 [.pointer none, .int .i64 n, .string s, .int .i64 m, .string t] h fun x h' => x = .int .i64 2 ∧ Keeps h.size h h' := by
  refine Fn_c Tryd.func44 mixed c44 (by kernel_rfl) ?_; rw [r44]
  simp -implicitDefEqProofs (disch := first | omega | (simp only [h_szP, h_szS]; done) | (simp only [h_szP, h_szS]; omega)) only [go_sem, Nat.reduceBEq, reduceCtorEq, Nat.reduceAdd, Int.reduceEq, Int.reduceLT, Int.reduceLE, Int.reduceMul, Int.reduceAdd, Int.reduceSub, reduceIte, Nat.reduceLeDiff, Nat.reduceLT, Nat.reduceMul, Nat.reduceSub, Int.reduceToNat, s44, Tryd.underlying26, Tryd.underlying9, Tryd.underlying3, fo69_3, sh55, sl55, ze59, by59, sz59, fo59_1, sh3, fo72_0, sh70, Tryd.underlying70, ze67, fo69_0, sz55, zc59, sd59, pl59_0, pl59_1, pl59_2, Tryd.underlying55, fo69_4, sz3]
  refine FnK.use (dir_n _ _) ?_
  intro x h1 ⟨e1, K1⟩
  rw [e1]
  simp -implicitDefEqProofs (disch := first | omega | (simp only [h_szP, h_szS]; done) | (simp only [h_szP, h_szS]; omega)) only [go_sem, Nat.reduceBEq, reduceCtorEq, Nat.reduceAdd, Int.reduceEq, Int.reduceLT, Int.reduceLE, Int.reduceMul, Int.reduceAdd, Int.reduceSub, reduceIte, Nat.reduceLeDiff, Nat.reduceLT, Nat.reduceMul, Nat.reduceSub, Int.reduceToNat, s44, Tryd.underlying26, Tryd.underlying9, Tryd.underlying3, fo69_3, sh55, sl55, ze59, by59, sz59, fo59_1, sh3, fo72_0, sh70, Tryd.underlying70, ze67, fo69_0, sz55, zc59, sd59, pl59_0, pl59_1, pl59_2, Tryd.underlying55, fo69_4, sz3]
  first | exact K1 | exact ⟨rfl, K1⟩
theorem target_n (h : Heap) (n : Int) : Fn Tryd.prog 55 [.pointer none, .int .i64 n] h fun x h' => x = .tuple #[.string ByteArray.empty, .int .i64 2] ∧ Keeps h.size h h' := by
  refine Fn_c Tryd.func55 mixed c55 (by kernel_rfl) ?_; rw [r55]
  simp -implicitDefEqProofs (disch := first | omega | (simp only [h_szP, h_szS]; done) | (simp only [h_szP, h_szS]; omega)) only [go_sem, Nat.reduceBEq, reduceCtorEq, Nat.reduceAdd, Int.reduceEq, Int.reduceLT, Int.reduceLE, Int.reduceMul, Int.reduceAdd, Int.reduceSub, reduceIte, Nat.reduceLeDiff, Nat.reduceLT, Nat.reduceMul, Nat.reduceSub, Int.reduceToNat, s55, Tryd.underlying67, fo69_0, sh3, Tryd.underlying3, fo69_2, sh23, Tryd.underlying23, Tryd.underlying9, Tryd.underlying5]
  refine FnK.use (get_n _ _) ?_
  intro x h1 ⟨e1, K1⟩
  rw [e1]
  simp -implicitDefEqProofs (disch := first | omega | (simp only [h_szP, h_szS]; done) | (simp only [h_szP, h_szS]; omega)) only [go_sem, Nat.reduceBEq, reduceCtorEq, Nat.reduceAdd, Int.reduceEq, Int.reduceLT, Int.reduceLE, Int.reduceMul, Int.reduceAdd, Int.reduceSub, reduceIte, Nat.reduceLeDiff, Nat.reduceLT, Nat.reduceMul, Nat.reduceSub, Int.reduceToNat, s55, Tryd.underlying67, fo69_0, sh3, Tryd.underlying3, fo69_2, sh23, Tryd.underlying23, Tryd.underlying9, Tryd.underlying5]
  first | exact K1 | exact ⟨rfl, K1⟩
theorem read_n (h : Heap) (n a b : Int) : Fn Tryd.prog 11 [.pointer none, .int .i64 n, .int .i64 a, .int .i64 b] h fun x h' => x = .tuple #[.slice none 0 0, .int .i64 2] ∧ Keeps h.size h h' := by
  refine Fn_c Tryd.func11 mixed c11 (by kernel_rfl) ?_; rw [r11]
  simp -implicitDefEqProofs (disch := first | omega | (simp only [h_szP, h_szS]; done) | (simp only [h_szP, h_szS]; omega)) only [go_sem, Nat.reduceBEq, reduceCtorEq, Nat.reduceAdd, Int.reduceEq, Int.reduceLT, Int.reduceLE, Int.reduceMul, Int.reduceAdd, Int.reduceSub, reduceIte, Nat.reduceLeDiff, Nat.reduceLT, Nat.reduceMul, Nat.reduceSub, Int.reduceToNat, s11, Tryd.underlying26, Tryd.underlying3, fo69_0, sh3, sl23, ze5, by5, sz5, fo69_2, sh23, Tryd.underlying23]
  refine FnK.use (plain_n _ _) ?_
  intro x h1 ⟨e1, K1⟩
  rw [e1]
  simp -implicitDefEqProofs (disch := first | omega | (simp only [h_szP, h_szS]; done) | (simp only [h_szP, h_szS]; omega)) only [go_sem, Nat.reduceBEq, reduceCtorEq, Nat.reduceAdd, Int.reduceEq, Int.reduceLT, Int.reduceLE, Int.reduceMul, Int.reduceAdd, Int.reduceSub, reduceIte, Nat.reduceLeDiff, Nat.reduceLT, Nat.reduceMul, Nat.reduceSub, Int.reduceToNat, s11, Tryd.underlying26, Tryd.underlying3, fo69_0, sh3, sl23, ze5, by5, sz5, fo69_2, sh23, Tryd.underlying23]
  first | exact K1 | exact ⟨rfl, K1⟩
theorem write_n (h : Heap) (n a : Int) (v : Value) : Fn Tryd.prog 10 [.pointer none, .int .i64 n, .int .i64 a, v] h fun x h' => x = .tuple #[.int .i64 0, .int .i64 2] ∧ Keeps h.size h h' := by
  refine Fn_c Tryd.func10 mixed c10 (by kernel_rfl) ?_; rw [r10]
  simp -implicitDefEqProofs (disch := first | omega | (simp only [h_szP, h_szS]; done) | (simp only [h_szP, h_szS]; omega)) only [go_sem, Nat.reduceBEq, reduceCtorEq, Nat.reduceAdd, Int.reduceEq, Int.reduceLT, Int.reduceLE, Int.reduceMul, Int.reduceAdd, Int.reduceSub, reduceIte, Nat.reduceLeDiff, Nat.reduceLT, Nat.reduceMul, Nat.reduceSub, Int.reduceToNat, s10, Tryd.underlying26, Tryd.underlying3, fo69_0, sh3, Tryd.underlying23, sl23, ze5, by5, sz5, fo69_2, sh23, sz23]
  refine FnK.use (plain_n _ _) ?_
  intro x h1 ⟨e1, K1⟩
  rw [e1]
  simp -implicitDefEqProofs (disch := first | omega | (simp only [h_szP, h_szS]; done) | (simp only [h_szP, h_szS]; omega)) only [go_sem, Nat.reduceBEq, reduceCtorEq, Nat.reduceAdd, Int.reduceEq, Int.reduceLT, Int.reduceLE, Int.reduceMul, Int.reduceAdd, Int.reduceSub, reduceIte, Nat.reduceLeDiff, Nat.reduceLT, Nat.reduceMul, Nat.reduceSub, Int.reduceToNat, s10, Tryd.underlying26, Tryd.underlying3, fo69_0, sh3, Tryd.underlying23, sl23, ze5, by5, sz5, fo69_2, sh23, sz23]
  first | exact K1 | exact ⟨rfl, K1⟩
theorem cut_n (h : Heap) (n a : Int) : Fn Tryd.prog 13 [.pointer none, .int .i64 n, .int .i64 a] h fun x h' => x = .int .i64 2 ∧ Keeps h.size h h' := by
  refine Fn_c Tryd.func13 mixed c13 (by kernel_rfl) ?_; rw [r13]
  simp -implicitDefEqProofs (disch := first | omega | (simp only [h_szP, h_szS]; done) | (simp only [h_szP, h_szS]; omega)) only [go_sem, Nat.reduceBEq, reduceCtorEq, Nat.reduceAdd, Int.reduceEq, Int.reduceLT, Int.reduceLE, Int.reduceMul, Int.reduceAdd, Int.reduceSub, reduceIte, Nat.reduceLeDiff, Nat.reduceLT, Nat.reduceMul, Nat.reduceSub, Int.reduceToNat, s13, Tryd.underlying26, fo69_0, sh3, Tryd.underlying3, fo69_2, sh23, Tryd.underlying23, sl23, ze5, by5, sz5, sz23]
  refine FnK.use (plain_n _ _) ?_
  intro x h1 ⟨e1, K1⟩
  rw [e1]
  simp -implicitDefEqProofs (disch := first | omega | (simp only [h_szP, h_szS]; done) | (simp only [h_szP, h_szS]; omega)) only [go_sem, Nat.reduceBEq, reduceCtorEq, Nat.reduceAdd, Int.reduceEq, Int.reduceLT, Int.reduceLE, Int.reduceMul, Int.reduceAdd, Int.reduceSub, reduceIte, Nat.reduceLeDiff, Nat.reduceLT, Nat.reduceMul, Nat.reduceSub, Int.reduceToNat, s13, Tryd.underlying26, fo69_0, sh3, Tryd.underlying3, fo69_2, sh23, Tryd.underlying23, sl23, ze5, by5, sz5, sz23]
  first | exact K1 | exact ⟨rfl, K1⟩
theorem chmod_n (h : Heap) (n a : Int) : Fn Tryd.prog 49 [.pointer none, .int .i64 n, .int .i64 a] h fun x h' => x = .int .i64 2 ∧ Keeps h.size h h' := by
  refine Fn_c Tryd.func49 mixed c49 (by kernel_rfl) ?_; rw [r49]
  simp -implicitDefEqProofs (disch := first | omega | (simp only [h_szP, h_szS]; done) | (simp only [h_szP, h_szS]; omega)) only [go_sem, Nat.reduceBEq, reduceCtorEq, Nat.reduceAdd, Int.reduceEq, Int.reduceLT, Int.reduceLE, Int.reduceMul, Int.reduceAdd, Int.reduceSub, reduceIte, Nat.reduceLeDiff, Nat.reduceLT, Nat.reduceMul, Nat.reduceSub, Int.reduceToNat, s49, Tryd.underlying67, Tryd.underlying3, fo69_1, sz3]
  refine FnK.use (get_n _ _) ?_
  intro x h1 ⟨e1, K1⟩
  rw [e1]
  simp -implicitDefEqProofs (disch := first | omega | (simp only [h_szP, h_szS]; done) | (simp only [h_szP, h_szS]; omega)) only [go_sem, Nat.reduceBEq, reduceCtorEq, Nat.reduceAdd, Int.reduceEq, Int.reduceLT, Int.reduceLE, Int.reduceMul, Int.reduceAdd, Int.reduceSub, reduceIte, Nat.reduceLeDiff, Nat.reduceLT, Nat.reduceMul, Nat.reduceSub, Int.reduceToNat, s49, Tryd.underlying67, Tryd.underlying3, fo69_1, sz3]
  first | exact K1 | exact ⟨rfl, K1⟩
theorem hold_n (h : Heap) (n : Int) : Fn Tryd.prog 24 [.pointer none, .int .i64 n] h fun x h' => Keeps h.size h h' := by
  refine Fn_c Tryd.func24 mixed c24 (by kernel_rfl) ?_; rw [r24]
  simp -implicitDefEqProofs (disch := first | omega | (simp only [h_szP, h_szS]; done) | (simp only [h_szP, h_szS]; omega)) only [go_sem, Nat.reduceBEq, reduceCtorEq, Nat.reduceAdd, Int.reduceEq, Int.reduceLT, Int.reduceLE, Int.reduceMul, Int.reduceAdd, Int.reduceSub, reduceIte, Nat.reduceLeDiff, Nat.reduceLT, Nat.reduceMul, Nat.reduceSub, Int.reduceToNat, s24, Tryd.underlying67, fo69_6, sh3, Tryd.underlying3, sz3]
  refine FnK.use (get_n _ _) ?_
  intro x h1 ⟨e1, K1⟩
  rw [e1]
  simp -implicitDefEqProofs (disch := first | omega | (simp only [h_szP, h_szS]; done) | (simp only [h_szP, h_szS]; omega)) only [go_sem, Nat.reduceBEq, reduceCtorEq, Nat.reduceAdd, Int.reduceEq, Int.reduceLT, Int.reduceLE, Int.reduceMul, Int.reduceAdd, Int.reduceSub, reduceIte, Nat.reduceLeDiff, Nat.reduceLT, Nat.reduceMul, Nat.reduceSub, Int.reduceToNat, s24, Tryd.underlying67, fo69_6, sh3, Tryd.underlying3, sz3]
  exact K1
theorem release_n (h : Heap) (n : Int) : Fn Tryd.prog 25 [.pointer none, .int .i64 n] h fun x h' => Keeps h.size h h' := by
  refine Fn_c Tryd.func25 mixed c25 (by kernel_rfl) ?_; rw [r25]
  simp -implicitDefEqProofs (disch := first | omega | (simp only [h_szP, h_szS]; done) | (simp only [h_szP, h_szS]; omega)) only [go_sem, Nat.reduceBEq, reduceCtorEq, Nat.reduceAdd, Int.reduceEq, Int.reduceLT, Int.reduceLE, Int.reduceMul, Int.reduceAdd, Int.reduceSub, reduceIte, Nat.reduceLeDiff, Nat.reduceLT, Nat.reduceMul, Nat.reduceSub, Int.reduceToNat, s25, Tryd.underlying67, fo69_6, sh3, Tryd.underlying3, sz3]
  refine FnK.use (get_n _ _) ?_
  intro x h1 ⟨e1, K1⟩
  rw [e1]
  simp -implicitDefEqProofs (disch := first | omega | (simp only [h_szP, h_szS]; done) | (simp only [h_szP, h_szS]; omega)) only [go_sem, Nat.reduceBEq, reduceCtorEq, Nat.reduceAdd, Int.reduceEq, Int.reduceLT, Int.reduceLE, Int.reduceMul, Int.reduceAdd, Int.reduceSub, reduceIte, Nat.reduceLeDiff, Nat.reduceLT, Nat.reduceMul, Nat.reduceSub, Int.reduceToNat, s25, Tryd.underlying67, fo69_6, sh3, Tryd.underlying3, sz3]
  exact K1
theorem len_n (h : Heap) : Fn Tryd.prog 26 [.pointer none] h fun x h' => x = .int .i64 0 ∧ Keeps h.size h h' := by
  refine Fn_c Tryd.func26 mixed c26 (by kernel_rfl) ?_; rw [r26]
  simp -implicitDefEqProofs (disch := first | omega | (simp only [h_szP, h_szS]; done) | (simp only [h_szP, h_szS]; omega)) only [go_sem, Nat.reduceBEq, reduceCtorEq, Nat.reduceAdd, Int.reduceEq, Int.reduceLT, Int.reduceLE, Int.reduceMul, Int.reduceAdd, Int.reduceSub, reduceIte, Nat.reduceLeDiff, Nat.reduceLT, Nat.reduceMul, Nat.reduceSub, Int.reduceToNat, s26, Tryd.underlying25, fo72_0, sh70, Tryd.underlying70]
  first | exact Keeps.refl' | exact ⟨rfl, Keeps.refl'⟩
end Go.SX.G
