/- WorldNone, the walk. No condition. -/
import Derived.Test.YteoiokeiddlchaaGreatDoorGen
import Derived.Test.YteoiokeiddlchaaGreatDoorSxHeap
set_option linter.unusedVariables false
set_option linter.unusedSimpArgs false
namespace Go.SX.G
open Go Go.SX Go.Proofs
set_option maxRecDepth 100000
set_option maxHeartbeats 4000000
theorem tick_n (h : Heap) : Fn Tryz.prog 4 [.pointer none] h fun x h' => Keeps h.size h h' := by
  refine Fn_c Tryz.func4 mixed c4 (by kernel_rfl) ?_; rw [r4]
  simp -implicitDefEqProofs (disch := first | omega | (simp only [h_szP, h_szS]; done) | (simp only [h_szP, h_szS]; omega)) only [go_sem, Nat.reduceBEq, reduceCtorEq, Nat.reduceAdd, Int.reduceEq, Int.reduceLT, Int.reduceLE, Int.reduceMul, Int.reduceAdd, Int.reduceSub, reduceIte, Nat.reduceLeDiff, Nat.reduceLT, Nat.reduceMul, Nat.reduceSub, Int.reduceToNat, s4, Tryz.underlying23, fo55_4, sh52, Tryz.underlying22, Tryz.underlying3, fo55_3, sh51]
  all_goals first | exact Keeps.refl' | exact Keeps.push _ _ (Nat.le_refl _) | exact ⟨rfl, Keeps.refl'⟩ | exact ⟨rfl, Keeps.push _ _ (Nat.le_refl _)⟩ | (refine (Keeps.push _ _ (Nat.le_refl _)).push' (Nat.le_refl _))
theorem force_n (h : Heap) (n x : Int) : Fn Tryz.prog 5 [.pointer none, .int .i64 n, .int .u64 x] h fun x h' => Keeps h.size h h' := by
  refine Fn_c Tryz.func5 mixed c5 (by kernel_rfl) ?_; rw [r5]
  simp -implicitDefEqProofs (disch := first | omega | (simp only [h_szP, h_szS]; done) | (simp only [h_szP, h_szS]; omega)) only [go_sem, Nat.reduceBEq, reduceCtorEq, Nat.reduceAdd, Int.reduceEq, Int.reduceLT, Int.reduceLE, Int.reduceMul, Int.reduceAdd, Int.reduceSub, reduceIte, Nat.reduceLeDiff, Nat.reduceLT, Nat.reduceMul, Nat.reduceSub, Int.reduceToNat, s5, Tryz.underlying23, fo55_3, sh51, zc27, sz27, Tryz.underlying22, fo27_0, sh22, zc30, sd30, pl30_0, pl30_1, sh27]
  all_goals first | exact Keeps.refl' | exact Keeps.push _ _ (Nat.le_refl _) | exact ⟨rfl, Keeps.refl'⟩ | exact ⟨rfl, Keeps.push _ _ (Nat.le_refl _)⟩ | (refine (Keeps.push _ _ (Nat.le_refl _)).push' (Nat.le_refl _))
theorem deliver_n (h : Heap) : Fn Tryz.prog 6 [.pointer none] h fun x h' => Keeps h.size h h' := by
  refine Fn_c Tryz.func6 mixed c6 (by kernel_rfl) ?_; rw [r6]
  simp -implicitDefEqProofs (disch := first | omega | (simp only [h_szP, h_szS]; done) | (simp only [h_szP, h_szS]; omega)) only [go_sem, Nat.reduceBEq, reduceCtorEq, Nat.reduceAdd, Int.reduceEq, Int.reduceLT, Int.reduceLE, Int.reduceMul, Int.reduceAdd, Int.reduceSub, reduceIte, Nat.reduceLeDiff, Nat.reduceLT, Nat.reduceMul, Nat.reduceSub, Int.reduceToNat, s6, Tryz.underlying23, fo55_9, sh4, fo55_3, sh51, zc27, sz27, sh27]
  refine LoopK.use (fun _ fr hh => fr = fr0.up 0 (.pointer none) ∧ hh = h) 0 ⟨rfl, rfl⟩ ?_
  intro k fr hh ⟨e1, e2⟩
  have e2 := e2.symm
  subst e1
  subst e2
  simp -implicitDefEqProofs (disch := first | omega | (simp only [h_szP, h_szS]; done) | (simp only [h_szP, h_szS]; omega)) only [go_sem, Nat.reduceBEq, reduceCtorEq, Nat.reduceAdd, Int.reduceEq, Int.reduceLT, Int.reduceLE, Int.reduceMul, Int.reduceAdd, Int.reduceSub, reduceIte, Nat.reduceLeDiff, Nat.reduceLT, Nat.reduceMul, Nat.reduceSub, Int.reduceToNat, s6, Tryz.underlying23, fo55_9, sh4, fo55_3, sh51, zc27, sz27, sh27]
  first | exact Keeps.refl' | skip
theorem enter_n (h : Heap) (n : Int) (a : Array Value) : Fn Tryz.prog 7 [.pointer none, .int .i64 n, .agg a] h fun x h' => Keeps h.size h h' := by
  refine Fn_c Tryz.func7 mixed c7 (by kernel_rfl) ?_; rw [r7]
  simp -implicitDefEqProofs (disch := first | omega | (simp only [h_szP, h_szS]; done) | (simp only [h_szP, h_szS]; omega)) only [go_sem, Nat.reduceBEq, reduceCtorEq, Nat.reduceAdd, Int.reduceEq, Int.reduceLT, Int.reduceLE, Int.reduceMul, Int.reduceAdd, Int.reduceSub, reduceIte, Nat.reduceLeDiff, Nat.reduceLT, Nat.reduceMul, Nat.reduceSub, Int.reduceToNat, s7, Tryz.underlying23, fo27_0, sh22, Tryz.underlying22, zc30, sd30, pl30_0, pl30_1, sh27]
  all_goals first | exact Keeps.refl' | exact Keeps.push _ _ (Nat.le_refl _) | exact ⟨rfl, Keeps.refl'⟩ | exact ⟨rfl, Keeps.push _ _ (Nat.le_refl _)⟩ | (refine (Keeps.push _ _ (Nat.le_refl _)).push' (Nat.le_refl _))
theorem exit_n (h : Heap) (a : Array Value) : Fn Tryz.prog 8 [.pointer none, .agg a] h fun x h' => Keeps h.size h h' := by
  refine Fn_c Tryz.func8 mixed c8 (by kernel_rfl) ?_; rw [r8]
  simp -implicitDefEqProofs (disch := first | omega | (simp only [h_szP, h_szS]; done) | (simp only [h_szP, h_szS]; omega)) only [go_sem, Nat.reduceBEq, reduceCtorEq, Nat.reduceAdd, Int.reduceEq, Int.reduceLT, Int.reduceLE, Int.reduceMul, Int.reduceAdd, Int.reduceSub, reduceIte, Nat.reduceLeDiff, Nat.reduceLT, Nat.reduceMul, Nat.reduceSub, Int.reduceToNat, s8, Tryz.underlying23, fo55_9, sh4, sh30, fo55_8, sz30, sz4]
  all_goals first | exact Keeps.refl' | exact Keeps.push _ _ (Nat.le_refl _) | exact ⟨rfl, Keeps.refl'⟩ | exact ⟨rfl, Keeps.push _ _ (Nat.le_refl _)⟩ | (refine (Keeps.push _ _ (Nat.le_refl _)).push' (Nat.le_refl _))
theorem note_n (h : Heap) (a : Array Value) : Fn Tryz.prog 9 [.pointer none, .agg a] h fun x h' => Keeps h.size h h' := by
  refine Fn_c Tryz.func9 mixed c9 (by kernel_rfl) ?_; rw [r9]
  simp -implicitDefEqProofs (disch := first | omega | (simp only [h_szP, h_szS]; done) | (simp only [h_szP, h_szS]; omega)) only [go_sem, Nat.reduceBEq, reduceCtorEq, Nat.reduceAdd, Int.reduceEq, Int.reduceLT, Int.reduceLE, Int.reduceMul, Int.reduceAdd, Int.reduceSub, reduceIte, Nat.reduceLeDiff, Nat.reduceLT, Nat.reduceMul, Nat.reduceSub, Int.reduceToNat, s9, Tryz.underlying23, fo55_7, sh41, sh34, sl41, ze34, by34, sz34, Tryz.underlying41, sz41]
  all_goals first | exact Keeps.refl' | exact Keeps.push _ _ (Nat.le_refl _) | exact ⟨rfl, Keeps.refl'⟩ | exact ⟨rfl, Keeps.push _ _ (Nat.le_refl _)⟩ | (refine (Keeps.push _ _ (Nat.le_refl _)).push' (Nat.le_refl _))
theorem short_n (h : Heap) (n : Int) : Fn Tryz.prog 12 [.pointer none, .int .i64 n] h fun x h' => x = .int .i64 0 ∧ Keeps h.size h h' := by
  refine Fn_c Tryz.func12 mixed c12 (by kernel_rfl) ?_; rw [r12]
  simp -implicitDefEqProofs (disch := first | omega | (simp only [h_szP, h_szS]; done) | (simp only [h_szP, h_szS]; omega)) only [go_sem, Nat.reduceBEq, reduceCtorEq, Nat.reduceAdd, Int.reduceEq, Int.reduceLT, Int.reduceLE, Int.reduceMul, Int.reduceAdd, Int.reduceSub, reduceIte, Nat.reduceLeDiff, Nat.reduceLT, Nat.reduceMul, Nat.reduceSub, Int.reduceToNat, s12, Tryz.underlying23, Tryz.underlying3, Tryz.underlying22]
  all_goals first | exact Keeps.refl' | exact Keeps.push _ _ (Nat.le_refl _) | exact ⟨rfl, Keeps.refl'⟩ | exact ⟨rfl, Keeps.push _ _ (Nat.le_refl _)⟩ | (refine (Keeps.push _ _ (Nat.le_refl _)).push' (Nat.le_refl _))
theorem random_n (h : Heap) (n : Int) : Fn Tryz.prog 13 [.pointer none, .int .i64 n] h fun x h' => x = .slice none 0 0 ∧ Keeps h.size h h' := by
  refine Fn_c Tryz.func13 mixed c13 (by kernel_rfl) ?_; rw [r13]
  simp -implicitDefEqProofs (disch := first | omega | (simp only [h_szP, h_szS]; done) | (simp only [h_szP, h_szS]; omega)) only [go_sem, Nat.reduceBEq, reduceCtorEq, Nat.reduceAdd, Int.reduceEq, Int.reduceLT, Int.reduceLE, Int.reduceMul, Int.reduceAdd, Int.reduceSub, reduceIte, Nat.reduceLeDiff, Nat.reduceLT, Nat.reduceMul, Nat.reduceSub, Int.reduceToNat, s13, Tryz.underlying23, Tryz.underlying3, fo55_6, sz22, sl39, ze5, by5, sz5, Tryz.underlying39, sh22, Tryz.underlying22, Tryz.underlying5]
  all_goals first | exact Keeps.refl' | exact Keeps.push _ _ (Nat.le_refl _) | exact ⟨rfl, Keeps.refl'⟩ | exact ⟨rfl, Keeps.push _ _ (Nat.le_refl _)⟩ | (refine (Keeps.push _ _ (Nat.le_refl _)).push' (Nat.le_refl _))
theorem trace_n (h : Heap) : Fn Tryz.prog 14 [.pointer none] h fun x h' => x = .slice none 0 0 ∧ Keeps h.size h h' := by
  refine Fn_c Tryz.func14 mixed c14 (by kernel_rfl) ?_; rw [r14]
  simp -implicitDefEqProofs (disch := first | omega | (simp only [h_szP, h_szS]; done) | (simp only [h_szP, h_szS]; omega)) only [go_sem, Nat.reduceBEq, reduceCtorEq, Nat.reduceAdd, Int.reduceEq, Int.reduceLT, Int.reduceLE, Int.reduceMul, Int.reduceAdd, Int.reduceSub, reduceIte, Nat.reduceLeDiff, Nat.reduceLT, Nat.reduceMul, Nat.reduceSub, Int.reduceToNat, s14, Tryz.underlying23, sl41, ze34, by34, sz34, fo55_7, sh41, Tryz.underlying41]
  all_goals first | exact Keeps.refl' | exact Keeps.push _ _ (Nat.le_refl _) | exact ⟨rfl, Keeps.refl'⟩ | exact ⟨rfl, Keeps.push _ _ (Nat.le_refl _)⟩ | (refine (Keeps.push _ _ (Nat.le_refl _)).push' (Nat.le_refl _))
theorem ready_n (h : Heap) : Fn Tryz.prog 15 [.pointer none] h fun x h' => x = .bool false ∧ Keeps h.size h h' := by
  refine Fn_c Tryz.func15 mixed c15 (by kernel_rfl) ?_; rw [r15]
  simp -implicitDefEqProofs (disch := first | omega | (simp only [h_szP, h_szS]; done) | (simp only [h_szP, h_szS]; omega)) only [go_sem, Nat.reduceBEq, reduceCtorEq, Nat.reduceAdd, Int.reduceEq, Int.reduceLT, Int.reduceLE, Int.reduceMul, Int.reduceAdd, Int.reduceSub, reduceIte, Nat.reduceLeDiff, Nat.reduceLT, Nat.reduceMul, Nat.reduceSub, Int.reduceToNat, s15, Tryz.underlying23, fo55_3, sh51, zc27, sz27]
  all_goals first | exact Keeps.refl' | exact Keeps.push _ _ (Nat.le_refl _) | exact ⟨rfl, Keeps.refl'⟩ | exact ⟨rfl, Keeps.push _ _ (Nat.le_refl _)⟩ | (refine (Keeps.push _ _ (Nat.le_refl _)).push' (Nat.le_refl _))
theorem wait_n (h : Heap) (n : Int) : Fn Tryz.prog 16 [.pointer none, .int .i64 n] h fun x h' => x = .int .i64 0 ∧ Keeps h.size h h' := by
  refine Fn_c Tryz.func16 mixed c16 (by kernel_rfl) ?_; rw [r16]
  simp -implicitDefEqProofs (disch := first | omega | (simp only [h_szP, h_szS]; done) | (simp only [h_szP, h_szS]; omega)) only [go_sem, Nat.reduceBEq, reduceCtorEq, Nat.reduceAdd, Int.reduceEq, Int.reduceLT, Int.reduceLE, Int.reduceMul, Int.reduceAdd, Int.reduceSub, reduceIte, Nat.reduceLeDiff, Nat.reduceLT, Nat.reduceMul, Nat.reduceSub, Int.reduceToNat, s16, Tryz.underlying23, fo55_4, sh52, Tryz.underlying3]
  all_goals first | exact Keeps.refl' | exact Keeps.push _ _ (Nat.le_refl _) | exact ⟨rfl, Keeps.refl'⟩ | exact ⟨rfl, Keeps.push _ _ (Nat.le_refl _)⟩ | (refine (Keeps.push _ _ (Nat.le_refl _)).push' (Nat.le_refl _))
theorem end_n (h : Heap) : Fn Tryz.prog 10 [.pointer none] h fun x h' => x = .tuple #[.agg #[.int .i64 0, .int .i64 0], .bool false] ∧ Keeps h.size h h' := by
  refine Fn_c Tryz.func10 mixed c10 (by kernel_rfl) ?_; rw [r10]
  simp -implicitDefEqProofs (disch := first | omega | (simp only [h_szP, h_szS]; done) | (simp only [h_szP, h_szS]; omega)) only [go_sem, Nat.reduceBEq, reduceCtorEq, Nat.reduceAdd, Int.reduceEq, Int.reduceLT, Int.reduceLE, Int.reduceMul, Int.reduceAdd, Int.reduceSub, reduceIte, Nat.reduceLeDiff, Nat.reduceLT, Nat.reduceMul, Nat.reduceSub, Int.reduceToNat, s10, zc30, Tryz.underlying23, sd30, sz30, fo55_8, sh30, fo55_9, sh4]
  exact Keeps.push _ _ (Nat.le_refl _)
def setup0 : Value := .agg #[.slice none 0 0, .slice none 0 0, .slice none 0 0, .slice none 0 0, .slice none 0 0, .int .i64 (-1), .int .i64 0, .int .i64 0, .bool false]
theorem sound0_c (h : Heap) : Fn Tryz.prog 37 [setup0] h fun x h' => x = .bool false ∧ Keeps h.size h h' := by
  unfold setup0
  refine Fn_c Tryz.func37 mixed c37 (by kernel_rfl) ?_; rw [r37]
  simp -implicitDefEqProofs (disch := first | omega | (simp only [h_szP, h_szS]; done) | (simp only [h_szP, h_szS]; omega)) only [go_sem, Nat.reduceBEq, reduceCtorEq, Nat.reduceAdd, Int.reduceEq, Int.reduceLT, Int.reduceLE, Int.reduceMul, Int.reduceAdd, Int.reduceSub, reduceIte, Nat.reduceLeDiff, Nat.reduceLT, Nat.reduceMul, Nat.reduceSub, Int.reduceToNat, s37, fo71_5, sh3, Tryz.underlying3, fo71_6, fo71_7, fo71_4, sh53, Tryz.underlying53, sl53, ze78, by78, sz78, sh78, zc78, fo78_0]
  exact Keeps.push _ _ (Nat.le_refl _)
theorem new0_c (h : Heap) : Fn Tryz.prog 26 [setup0] h fun x h' => x = .tuple #[.pointer none, .int .i64 200] ∧ Keeps h.size h h' := by
  have k := fun h => sound0_c h
  unfold setup0 at k ⊢
  refine Fn_c Tryz.func26 mixed c26 (by kernel_rfl) ?_; rw [r26]
  simp -implicitDefEqProofs (disch := first | omega | (simp only [h_szP, h_szS]; done) | (simp only [h_szP, h_szS]; omega)) only [go_sem, Nat.reduceBEq, reduceCtorEq, Nat.reduceAdd, Int.reduceEq, Int.reduceLT, Int.reduceLE, Int.reduceMul, Int.reduceAdd, Int.reduceSub, reduceIte, Nat.reduceLeDiff, Nat.reduceLT, Nat.reduceMul, Nat.reduceSub, Int.reduceToNat, s26, sh71, fo71_3, sh69, Tryz.underlying57, sl53, ze78, by78, sz78, fo71_4, sh53, Tryz.underlying53, zc55, sd55, pl55_3, pl55_4, pl55_5, pl55_6, fo71_0, sh39, fo71_1, sh68, fo71_2, fo71_6, sh3, sh109, zc95, sz95, fo55_0, sz48, fo71_8, sh4, fo55_1, sz49, sh49, sh95, fo71_7, fo55_2, sz50, zc114, sd114, Tryz.underlying3, Tryz.underlying114, ar114, sh50, zc117, sd117, Tryz.underlying117, ar117]
  refine FnK.use (k _) ?_
  intro x h1 ⟨e1, K1⟩
  rw [e1]
  simp -implicitDefEqProofs (disch := first | omega | (simp only [h_szP, h_szS]; done) | (simp only [h_szP, h_szS]; omega)) only [go_sem, Nat.reduceBEq, reduceCtorEq, Nat.reduceAdd, Int.reduceEq, Int.reduceLT, Int.reduceLE, Int.reduceMul, Int.reduceAdd, Int.reduceSub, reduceIte, Nat.reduceLeDiff, Nat.reduceLT, Nat.reduceMul, Nat.reduceSub, Int.reduceToNat, s26, sh71, fo71_3, sh69, Tryz.underlying57, sl53, ze78, by78, sz78, fo71_4, sh53, Tryz.underlying53, zc55, sd55, pl55_3, pl55_4, pl55_5, pl55_6, fo71_0, sh39, fo71_1, sh68, fo71_2, fo71_6, sh3, sh109, zc95, sz95, fo55_0, sz48, fo71_8, sh4, fo55_1, sz49, sh49, sh95, fo71_7, fo55_2, sz50, zc114, sd114, Tryz.underlying3, Tryz.underlying114, ar114, sh50, zc117, sd117, Tryz.underlying117, ar117]
  exact (Keeps.push _ _ (Nat.le_refl _)).of_ext K1 (Nat.le_refl _)
theorem answers24_c (h : Heap) : Fn Tryz.prog 11 [] h fun x h' => x = .bool true ∧ Keeps h.size h h' := by
  refine Fn_c Tryz.func11 mixed c11 (by kernel_rfl) ?_; rw [r11]
  simp -implicitDefEqProofs (disch := first | omega | (simp only [h_szP, h_szS]; done) | (simp only [h_szP, h_szS]; omega)) only [go_sem, Nat.reduceBEq, reduceCtorEq, Nat.reduceAdd, Int.reduceEq, Int.reduceLT, Int.reduceLE, Int.reduceMul, Int.reduceAdd, Int.reduceSub, reduceIte, Nat.reduceLeDiff, Nat.reduceLT, Nat.reduceMul, Nat.reduceSub, Int.reduceToNat, s11, zc71, sd71, pl71_5, Tryz.underlying57]
  refine FnK.use (new0_c h) ?_
  intro x h1 ⟨e1, K1⟩
  rw [e1]
  simp -implicitDefEqProofs (disch := first | omega | (simp only [h_szP, h_szS]; done) | (simp only [h_szP, h_szS]; omega)) only [go_sem, Nat.reduceBEq, reduceCtorEq, Nat.reduceAdd, Int.reduceEq, Int.reduceLT, Int.reduceLE, Int.reduceMul, Int.reduceAdd, Int.reduceSub, reduceIte, Nat.reduceLeDiff, Nat.reduceLT, Nat.reduceMul, Nat.reduceSub, Int.reduceToNat, s11, zc71, sd71, pl71_5, Tryz.underlying57]
  exact K1
theorem worldnone_c {h : Heap} (n : Int) (hn : -9223372036854775808 ≤ n ∧ n < 9223372036854775808) (x : Nat) (hx : x < 18446744073709551616) : Fn Tryz.prog 3 [.int .i64 n, .int .u64 x] h fun r h' => r = .bool true ∧ ∀ b, b < h.size → h'[b]? = h[b]? := by
  refine Fn_c Tryz.func3 mixed c3 (by kernel_rfl) ?_; rw [r3]
  simp -implicitDefEqProofs (disch := first | omega | (simp only [h_szP, h_szS]; done) | (simp only [h_szP, h_szS]; omega)) only [go_sem, Nat.reduceBEq, reduceCtorEq, Nat.reduceAdd, Int.reduceEq, Int.reduceLT, Int.reduceLE, Int.reduceMul, Int.reduceAdd, Int.reduceSub, reduceIte, Nat.reduceLeDiff, Nat.reduceLT, Nat.reduceMul, Nat.reduceSub, Int.reduceToNat, s3, zc27, sd27, zc30, sd30, pl30_0, zc34, sd34, sz30, Tryz.underlying3, Tryz.underlying39, sl39, ze5, by5, sz5, Tryz.underlying41, sl41, ze34, by34, sz34]
  refine FnK.use (tick_n h) ?_
  intro x0 h1 K1
  simp -implicitDefEqProofs (disch := first | omega | (simp only [h_szP, h_szS]; done) | (simp only [h_szP, h_szS]; omega)) only [go_sem, Nat.reduceBEq, reduceCtorEq, Nat.reduceAdd, Int.reduceEq, Int.reduceLT, Int.reduceLE, Int.reduceMul, Int.reduceAdd, Int.reduceSub, reduceIte, Nat.reduceLeDiff, Nat.reduceLT, Nat.reduceMul, Nat.reduceSub, Int.reduceToNat, s3, zc27, sd27, zc30, sd30, pl30_0, zc34, sd34, sz30, Tryz.underlying3, Tryz.underlying39, sl39, ze5, by5, sz5, Tryz.underlying41, sl41, ze34, by34, sz34]
  refine FnK.use (force_n h1 n x) ?_
  intro x0 h2 k
  have K2 := K1.of_ext k (Nat.le_refl _)
  simp -implicitDefEqProofs (disch := first | omega | (simp only [h_szP, h_szS]; done) | (simp only [h_szP, h_szS]; omega)) only [go_sem, Nat.reduceBEq, reduceCtorEq, Nat.reduceAdd, Int.reduceEq, Int.reduceLT, Int.reduceLE, Int.reduceMul, Int.reduceAdd, Int.reduceSub, reduceIte, Nat.reduceLeDiff, Nat.reduceLT, Nat.reduceMul, Nat.reduceSub, Int.reduceToNat, s3, zc27, sd27, zc30, sd30, pl30_0, zc34, sd34, sz30, Tryz.underlying3, Tryz.underlying39, sl39, ze5, by5, sz5, Tryz.underlying41, sl41, ze34, by34, sz34]
  refine FnK.use (deliver_n h2) ?_
  intro x0 h3 k
  have K3 := K2.of_ext k (Nat.le_refl _)
  simp -implicitDefEqProofs (disch := first | omega | (simp only [h_szP, h_szS]; done) | (simp only [h_szP, h_szS]; omega)) only [go_sem, Nat.reduceBEq, reduceCtorEq, Nat.reduceAdd, Int.reduceEq, Int.reduceLT, Int.reduceLE, Int.reduceMul, Int.reduceAdd, Int.reduceSub, reduceIte, Nat.reduceLeDiff, Nat.reduceLT, Nat.reduceMul, Nat.reduceSub, Int.reduceToNat, s3, zc27, sd27, zc30, sd30, pl30_0, zc34, sd34, sz30, Tryz.underlying3, Tryz.underlying39, sl39, ze5, by5, sz5, Tryz.underlying41, sl41, ze34, by34, sz34]
  refine FnK.use (enter_n h3 n _) ?_
  intro x0 h4 k
  have K4 := K3.of_ext k (Nat.le_refl _)
  simp -implicitDefEqProofs (disch := first | omega | (simp only [h_szP, h_szS]; done) | (simp only [h_szP, h_szS]; omega)) only [go_sem, Nat.reduceBEq, reduceCtorEq, Nat.reduceAdd, Int.reduceEq, Int.reduceLT, Int.reduceLE, Int.reduceMul, Int.reduceAdd, Int.reduceSub, reduceIte, Nat.reduceLeDiff, Nat.reduceLT, Nat.reduceMul, Nat.reduceSub, Int.reduceToNat, s3, zc27, sd27, zc30, sd30, pl30_0, zc34, sd34, sz30, Tryz.underlying3, Tryz.underlying39, sl39, ze5, by5, sz5, Tryz.underlying41, sl41, ze34, by34, sz34]
  refine FnK.use (exit_n h4 _) ?_
  intro x0 h5 k
  have K5 := K4.of_ext k (Nat.le_refl _)
  simp -implicitDefEqProofs (disch := first | omega | (simp only [h_szP, h_szS]; done) | (simp only [h_szP, h_szS]; omega)) only [go_sem, Nat.reduceBEq, reduceCtorEq, Nat.reduceAdd, Int.reduceEq, Int.reduceLT, Int.reduceLE, Int.reduceMul, Int.reduceAdd, Int.reduceSub, reduceIte, Nat.reduceLeDiff, Nat.reduceLT, Nat.reduceMul, Nat.reduceSub, Int.reduceToNat, s3, zc27, sd27, zc30, sd30, pl30_0, zc34, sd34, sz30, Tryz.underlying3, Tryz.underlying39, sl39, ze5, by5, sz5, Tryz.underlying41, sl41, ze34, by34, sz34]
  refine FnK.use (note_n h5 _) ?_
  intro x0 h6 k
  have K6 := K5.of_ext k (Nat.le_refl _)
  simp -implicitDefEqProofs (disch := first | omega | (simp only [h_szP, h_szS]; done) | (simp only [h_szP, h_szS]; omega)) only [go_sem, Nat.reduceBEq, reduceCtorEq, Nat.reduceAdd, Int.reduceEq, Int.reduceLT, Int.reduceLE, Int.reduceMul, Int.reduceAdd, Int.reduceSub, reduceIte, Nat.reduceLeDiff, Nat.reduceLT, Nat.reduceMul, Nat.reduceSub, Int.reduceToNat, s3, zc27, sd27, zc30, sd30, pl30_0, zc34, sd34, sz30, Tryz.underlying3, Tryz.underlying39, sl39, ze5, by5, sz5, Tryz.underlying41, sl41, ze34, by34, sz34]
  refine FnK.use (end_n h6) ?_
  intro x0 h7 ⟨e7, k⟩
  have K7 := K6.of_ext k (Nat.le_refl _)
  rw [e7]
  simp -implicitDefEqProofs (disch := first | omega | (simp only [h_szP, h_szS]; done) | (simp only [h_szP, h_szS]; omega)) only [go_sem, Nat.reduceBEq, reduceCtorEq, Nat.reduceAdd, Int.reduceEq, Int.reduceLT, Int.reduceLE, Int.reduceMul, Int.reduceAdd, Int.reduceSub, reduceIte, Nat.reduceLeDiff, Nat.reduceLT, Nat.reduceMul, Nat.reduceSub, Int.reduceToNat, s3, zc27, sd27, zc30, sd30, pl30_0, zc34, sd34, sz30, Tryz.underlying3, Tryz.underlying39, sl39, ze5, by5, sz5, Tryz.underlying41, sl41, ze34, by34, sz34]
  refine FnK.use (answers24_c _) ?_
  intro x0 h8 ⟨e, k⟩
  have K8 := (K7.push' (Nat.le_refl _)).of_ext k (Nat.le_refl _)
  rw [e]
  simp -implicitDefEqProofs (disch := first | omega | (simp only [h_szP, h_szS]; done) | (simp only [h_szP, h_szS]; omega)) only [go_sem, Nat.reduceBEq, reduceCtorEq, Nat.reduceAdd, Int.reduceEq, Int.reduceLT, Int.reduceLE, Int.reduceMul, Int.reduceAdd, Int.reduceSub, reduceIte, Nat.reduceLeDiff, Nat.reduceLT, Nat.reduceMul, Nat.reduceSub, Int.reduceToNat, s3, zc27, sd27, zc30, sd30, pl30_0, zc34, sd34, sz30, Tryz.underlying3, Tryz.underlying39, sl39, ze5, by5, sz5, Tryz.underlying41, sl41, ze34, by34, sz34]
  refine FnK.use (short_n h8 n) ?_
  intro x0 h9 ⟨e, k⟩
  have K9 := K8.of_ext k (Nat.le_refl _)
  rw [e]
  simp -implicitDefEqProofs (disch := first | omega | (simp only [h_szP, h_szS]; done) | (simp only [h_szP, h_szS]; omega)) only [go_sem, Nat.reduceBEq, reduceCtorEq, Nat.reduceAdd, Int.reduceEq, Int.reduceLT, Int.reduceLE, Int.reduceMul, Int.reduceAdd, Int.reduceSub, reduceIte, Nat.reduceLeDiff, Nat.reduceLT, Nat.reduceMul, Nat.reduceSub, Int.reduceToNat, s3, zc27, sd27, zc30, sd30, pl30_0, zc34, sd34, sz30, Tryz.underlying3, Tryz.underlying39, sl39, ze5, by5, sz5, Tryz.underlying41, sl41, ze34, by34, sz34]
  refine FnK.use (random_n h9 n) ?_
  intro x0 h10 ⟨e, k⟩
  have K10 := K9.of_ext k (Nat.le_refl _)
  rw [e]
  simp -implicitDefEqProofs (disch := first | omega | (simp only [h_szP, h_szS]; done) | (simp only [h_szP, h_szS]; omega)) only [go_sem, Nat.reduceBEq, reduceCtorEq, Nat.reduceAdd, Int.reduceEq, Int.reduceLT, Int.reduceLE, Int.reduceMul, Int.reduceAdd, Int.reduceSub, reduceIte, Nat.reduceLeDiff, Nat.reduceLT, Nat.reduceMul, Nat.reduceSub, Int.reduceToNat, s3, zc27, sd27, zc30, sd30, pl30_0, zc34, sd34, sz30, Tryz.underlying3, Tryz.underlying39, sl39, ze5, by5, sz5, Tryz.underlying41, sl41, ze34, by34, sz34]
  refine FnK.use (trace_n h10) ?_
  intro x0 h11 ⟨e, k⟩
  have K11 := K10.of_ext k (Nat.le_refl _)
  rw [e]
  simp -implicitDefEqProofs (disch := first | omega | (simp only [h_szP, h_szS]; done) | (simp only [h_szP, h_szS]; omega)) only [go_sem, Nat.reduceBEq, reduceCtorEq, Nat.reduceAdd, Int.reduceEq, Int.reduceLT, Int.reduceLE, Int.reduceMul, Int.reduceAdd, Int.reduceSub, reduceIte, Nat.reduceLeDiff, Nat.reduceLT, Nat.reduceMul, Nat.reduceSub, Int.reduceToNat, s3, zc27, sd27, zc30, sd30, pl30_0, zc34, sd34, sz30, Tryz.underlying3, Tryz.underlying39, sl39, ze5, by5, sz5, Tryz.underlying41, sl41, ze34, by34, sz34]
  refine FnK.use (ready_n h11) ?_
  intro x0 h12 ⟨e, k⟩
  have K12 := K11.of_ext k (Nat.le_refl _)
  rw [e]
  simp -implicitDefEqProofs (disch := first | omega | (simp only [h_szP, h_szS]; done) | (simp only [h_szP, h_szS]; omega)) only [go_sem, Nat.reduceBEq, reduceCtorEq, Nat.reduceAdd, Int.reduceEq, Int.reduceLT, Int.reduceLE, Int.reduceMul, Int.reduceAdd, Int.reduceSub, reduceIte, Nat.reduceLeDiff, Nat.reduceLT, Nat.reduceMul, Nat.reduceSub, Int.reduceToNat, s3, zc27, sd27, zc30, sd30, pl30_0, zc34, sd34, sz30, Tryz.underlying3, Tryz.underlying39, sl39, ze5, by5, sz5, Tryz.underlying41, sl41, ze34, by34, sz34]
  refine FnK.use (wait_n h12 n) ?_
  intro x0 h13 ⟨e, k⟩
  have K13 := K12.of_ext k (Nat.le_refl _)
  rw [e]
  simp -implicitDefEqProofs (disch := first | omega | (simp only [h_szP, h_szS]; done) | (simp only [h_szP, h_szS]; omega)) only [go_sem, Nat.reduceBEq, reduceCtorEq, Nat.reduceAdd, Int.reduceEq, Int.reduceLT, Int.reduceLE, Int.reduceMul, Int.reduceAdd, Int.reduceSub, reduceIte, Nat.reduceLeDiff, Nat.reduceLT, Nat.reduceMul, Nat.reduceSub, Int.reduceToNat, s3, zc27, sd27, zc30, sd30, pl30_0, zc34, sd34, sz30, Tryz.underlying3, Tryz.underlying39, sl39, ze5, by5, sz5, Tryz.underlying41, sl41, ze34, by34, sz34]
  exact fun b hb => K13.old b hb
end Go.SX.G
