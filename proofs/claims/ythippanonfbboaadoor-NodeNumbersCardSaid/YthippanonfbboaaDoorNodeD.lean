/- The reference's tree of a root: what each call does there. No condition but on sizes. -/
import Derived.Test.YthippanonfbboaaDoorNodeB
import Derived.Test.YthippanonfbboaaDoorPagePlain
set_option linter.unusedVariables false
set_option linter.unusedSimpArgs false
namespace Go.SX.G
open Go Go.SX Go.Proofs
set_option maxRecDepth 100000
set_option maxHeartbeats 1000000
theorem rchmod_c {h : Heap} {m bn r : Nat} (R : Rt h m bn r) (n a : Int) : Fn Tryd.prog 50 [ptr m 0, .int .i64 n, .int .i64 a] h fun x h' => (∃ e : Nat, e ≤ 100 ∧ x = .int .i64 e) ∧ h.size ≤ h'.size ∧ ∀ b, b < h.size → b ≠ r → h'[b]? = h[b]? := by
  have h1 := R.r
  have hl := getElem?_lt h1
  by_cases hn : n = 1
  · subst hn
    refine Fn_c Tryd.func50 mixed c50 (by kernel_rfl) ?_; rw [r50]
    simp -implicitDefEqProofs (disch := first | omega | (simp only [h_szP, h_szS]; done) | (simp only [h_szP, h_szS]; omega)) only [go_sem, Nat.reduceBEq, reduceCtorEq, Nat.reduceAdd, Int.reduceEq, Int.reduceLT, Int.reduceLE, Int.reduceMul, Int.reduceAdd, Int.reduceSub, reduceIte, Nat.reduceLeDiff, Nat.reduceLT, Nat.reduceMul, Nat.reduceSub, Int.reduceToNat, s50, fo89_0, sh3, Tryd.underlying3, fo89_2, sz3]
    refine FnK.val (rget_r R) ?_
    simp -implicitDefEqProofs (disch := first | omega | (simp only [h_szP, h_szS]; done) | (simp only [h_szP, h_szS]; omega)) only [go_sem, Nat.reduceBEq, reduceCtorEq, Nat.reduceAdd, Int.reduceEq, Int.reduceLT, Int.reduceLE, Int.reduceMul, Int.reduceAdd, Int.reduceSub, reduceIte, Nat.reduceLeDiff, Nat.reduceLT, Nat.reduceMul, Nat.reduceSub, Int.reduceToNat, s50, fo89_0, sh3, Tryd.underlying3, fo89_2, sz3, h1]
    refine ⟨fun _ => ⟨22, by omega, rfl⟩, fun _ => ⟨fun _ => ⟨22, by omega, rfl⟩, fun _ => ⟨⟨0, by omega, rfl⟩, fun b hb q => h_setN _ _ _ _ q⟩⟩⟩
  · refine Fn_c Tryd.func50 mixed c50 (by kernel_rfl) ?_; rw [r50]
    simp -implicitDefEqProofs (disch := first | omega | (simp only [h_szP, h_szS]; done) | (simp only [h_szP, h_szS]; omega)) only [go_sem, Nat.reduceBEq, reduceCtorEq, Nat.reduceAdd, Int.reduceEq, Int.reduceLT, Int.reduceLE, Int.reduceMul, Int.reduceAdd, Int.reduceSub, reduceIte, Nat.reduceLeDiff, Nat.reduceLT, Nat.reduceMul, Nat.reduceSub, Int.reduceToNat, s50, fo89_0, sh3, Tryd.underlying3, fo89_2, sz3]
    refine FnK.use (rget_o R n hn) ?_
    intro x h1 ⟨e1, e2⟩
    rw [e1, e2]
    simp -implicitDefEqProofs (disch := first | omega | (simp only [h_szP, h_szS]; done) | (simp only [h_szP, h_szS]; omega)) only [go_sem, Nat.reduceBEq, reduceCtorEq, Nat.reduceAdd, Int.reduceEq, Int.reduceLT, Int.reduceLE, Int.reduceMul, Int.reduceAdd, Int.reduceSub, reduceIte, Nat.reduceLeDiff, Nat.reduceLT, Nat.reduceMul, Nat.reduceSub, Int.reduceToNat, s50, fo89_0, sh3, Tryd.underlying3, fo89_2, sz3]
    exact ⟨⟨2, by omega, rfl⟩, by simp, fun b hb _ => h_pushL _ _ _ hb⟩
theorem rhold_c {h : Heap} {m bn r : Nat} (R : Rt h m bn r) (n : Int) : Fn Tryd.prog 51 [ptr m 0, .int .i64 n] h fun x h' => h.size ≤ h'.size ∧ ∀ b, b < h.size → b ≠ r → h'[b]? = h[b]? := by
  have h1 := R.r
  have hl := getElem?_lt h1
  by_cases hn : n = 1
  · subst hn
    refine Fn_c Tryd.func51 mixed c51 (by kernel_rfl) ?_; rw [r51]
    simp -implicitDefEqProofs (disch := first | omega | (simp only [h_szP, h_szS]; done) | (simp only [h_szP, h_szS]; omega)) only [go_sem, Nat.reduceBEq, reduceCtorEq, Nat.reduceAdd, Int.reduceEq, Int.reduceLT, Int.reduceLE, Int.reduceMul, Int.reduceAdd, Int.reduceSub, reduceIte, Nat.reduceLeDiff, Nat.reduceLT, Nat.reduceMul, Nat.reduceSub, Int.reduceToNat, s51, fo89_0, sh3, Tryd.underlying3, fo89_7, sz3]
    refine FnK.val (rget_r R) ?_
    simp -implicitDefEqProofs (disch := first | omega | (simp only [h_szP, h_szS]; done) | (simp only [h_szP, h_szS]; omega)) only [go_sem, Nat.reduceBEq, reduceCtorEq, Nat.reduceAdd, Int.reduceEq, Int.reduceLT, Int.reduceLE, Int.reduceMul, Int.reduceAdd, Int.reduceSub, reduceIte, Nat.reduceLeDiff, Nat.reduceLT, Nat.reduceMul, Nat.reduceSub, Int.reduceToNat, s51, fo89_0, sh3, Tryd.underlying3, fo89_7, sz3, h1]
    exact fun b hb q => h_setN _ _ _ _ q
  · refine Fn_c Tryd.func51 mixed c51 (by kernel_rfl) ?_; rw [r51]
    simp -implicitDefEqProofs (disch := first | omega | (simp only [h_szP, h_szS]; done) | (simp only [h_szP, h_szS]; omega)) only [go_sem, Nat.reduceBEq, reduceCtorEq, Nat.reduceAdd, Int.reduceEq, Int.reduceLT, Int.reduceLE, Int.reduceMul, Int.reduceAdd, Int.reduceSub, reduceIte, Nat.reduceLeDiff, Nat.reduceLT, Nat.reduceMul, Nat.reduceSub, Int.reduceToNat, s51, fo89_0, sh3, Tryd.underlying3, fo89_7, sz3]
    refine FnK.use (rget_o R n hn) ?_
    intro x h1 ⟨e1, e2⟩
    rw [e1, e2]
    simp -implicitDefEqProofs (disch := first | omega | (simp only [h_szP, h_szS]; done) | (simp only [h_szP, h_szS]; omega)) only [go_sem, Nat.reduceBEq, reduceCtorEq, Nat.reduceAdd, Int.reduceEq, Int.reduceLT, Int.reduceLE, Int.reduceMul, Int.reduceAdd, Int.reduceSub, reduceIte, Nat.reduceLeDiff, Nat.reduceLT, Nat.reduceMul, Nat.reduceSub, Int.reduceToNat, s51, fo89_0, sh3, Tryd.underlying3, fo89_7, sz3]
    exact ⟨by simp, fun b hb _ => h_pushL _ _ _ hb⟩
theorem rrelease_c {h : Heap} {m bn r : Nat} (R : Rt h m bn r) (n : Int) : Fn Tryd.prog 52 [ptr m 0, .int .i64 n] h fun x h' => Keeps h.size h h' := by
  have h1 := R.r
  by_cases hn : n = 1
  · subst hn
    refine Fn_c Tryd.func52 mixed c52 (by kernel_rfl) ?_; rw [r52]
    simp -implicitDefEqProofs (disch := first | omega | (simp only [h_szP, h_szS]; done) | (simp only [h_szP, h_szS]; omega)) only [go_sem, Nat.reduceBEq, reduceCtorEq, Nat.reduceAdd, Int.reduceEq, Int.reduceLT, Int.reduceLE, Int.reduceMul, Int.reduceAdd, Int.reduceSub, reduceIte, Nat.reduceLeDiff, Nat.reduceLT, Nat.reduceMul, Nat.reduceSub, Int.reduceToNat, s52, fo89_0, sh3, Tryd.underlying3, fo89_7, sz3]
    refine FnK.val (rget_r R) ?_
    simp -implicitDefEqProofs (disch := first | omega | (simp only [h_szP, h_szS]; done) | (simp only [h_szP, h_szS]; omega)) only [go_sem, Nat.reduceBEq, reduceCtorEq, Nat.reduceAdd, Int.reduceEq, Int.reduceLT, Int.reduceLE, Int.reduceMul, Int.reduceAdd, Int.reduceSub, reduceIte, Nat.reduceLeDiff, Nat.reduceLT, Nat.reduceMul, Nat.reduceSub, Int.reduceToNat, s52, fo89_0, sh3, Tryd.underlying3, fo89_7, sz3, h1]
    exact Keeps.refl'
  · refine Fn_c Tryd.func52 mixed c52 (by kernel_rfl) ?_; rw [r52]
    simp -implicitDefEqProofs (disch := first | omega | (simp only [h_szP, h_szS]; done) | (simp only [h_szP, h_szS]; omega)) only [go_sem, Nat.reduceBEq, reduceCtorEq, Nat.reduceAdd, Int.reduceEq, Int.reduceLT, Int.reduceLE, Int.reduceMul, Int.reduceAdd, Int.reduceSub, reduceIte, Nat.reduceLeDiff, Nat.reduceLT, Nat.reduceMul, Nat.reduceSub, Int.reduceToNat, s52, fo89_0, sh3, Tryd.underlying3, fo89_7, sz3]
    refine FnK.use (rget_o R n hn) ?_
    intro x h1 ⟨e1, e2⟩
    rw [e1, e2]
    simp -implicitDefEqProofs (disch := first | omega | (simp only [h_szP, h_szS]; done) | (simp only [h_szP, h_szS]; omega)) only [go_sem, Nat.reduceBEq, reduceCtorEq, Nat.reduceAdd, Int.reduceEq, Int.reduceLT, Int.reduceLE, Int.reduceMul, Int.reduceAdd, Int.reduceSub, reduceIte, Nat.reduceLeDiff, Nat.reduceLT, Nat.reduceMul, Nat.reduceSub, Int.reduceToNat, s52, fo89_0, sh3, Tryd.underlying3, fo89_7, sz3]
    exact Keeps.push _ _ (Nat.le_refl _)
theorem rtarget_c {h : Heap} {m bn r : Nat} (R : Rt h m bn r) (n : Int) : Fn Tryd.prog 56 [ptr m 0, .int .i64 n] h fun x h' => (∃ e : Nat, e ≤ 100 ∧ x = .tuple #[.string ⟨#[]⟩, .int .i64 e]) ∧ Keeps h.size h h' := by
  have h1 := R.r
  by_cases hn : n = 1
  · subst hn
    refine Fn_c Tryd.func56 mixed c56 (by kernel_rfl) ?_; rw [r56]
    simp -implicitDefEqProofs (disch := first | omega | (simp only [h_szP, h_szS]; done) | (simp only [h_szP, h_szS]; omega)) only [go_sem, Nat.reduceBEq, reduceCtorEq, Nat.reduceAdd, Int.reduceEq, Int.reduceLT, Int.reduceLE, Int.reduceMul, Int.reduceAdd, Int.reduceSub, reduceIte, Nat.reduceLeDiff, Nat.reduceLT, Nat.reduceMul, Nat.reduceSub, Int.reduceToNat, s56, fo89_0, sh3, Tryd.underlying3, fo89_1, fo89_3, sh23, Tryd.underlying23, Tryd.underlying9, Tryd.underlying5]
    refine FnK.val (rget_r R) ?_
    simp -implicitDefEqProofs (disch := first | omega | (simp only [h_szP, h_szS]; done) | (simp only [h_szP, h_szS]; omega)) only [go_sem, Nat.reduceBEq, reduceCtorEq, Nat.reduceAdd, Int.reduceEq, Int.reduceLT, Int.reduceLE, Int.reduceMul, Int.reduceAdd, Int.reduceSub, reduceIte, Nat.reduceLeDiff, Nat.reduceLT, Nat.reduceMul, Nat.reduceSub, Int.reduceToNat, s56, fo89_0, sh3, Tryd.underlying3, fo89_1, fo89_3, sh23, Tryd.underlying23, Tryd.underlying9, Tryd.underlying5, h1]
    exact ⟨⟨22, by omega, rfl⟩, Keeps.refl'⟩
  · refine Fn_c Tryd.func56 mixed c56 (by kernel_rfl) ?_; rw [r56]
    simp -implicitDefEqProofs (disch := first | omega | (simp only [h_szP, h_szS]; done) | (simp only [h_szP, h_szS]; omega)) only [go_sem, Nat.reduceBEq, reduceCtorEq, Nat.reduceAdd, Int.reduceEq, Int.reduceLT, Int.reduceLE, Int.reduceMul, Int.reduceAdd, Int.reduceSub, reduceIte, Nat.reduceLeDiff, Nat.reduceLT, Nat.reduceMul, Nat.reduceSub, Int.reduceToNat, s56, fo89_0, sh3, Tryd.underlying3, fo89_1, fo89_3, sh23, Tryd.underlying23, Tryd.underlying9, Tryd.underlying5]
    refine FnK.use (rget_o R n hn) ?_
    intro x h1 ⟨e1, e2⟩
    rw [e1, e2]
    simp -implicitDefEqProofs (disch := first | omega | (simp only [h_szP, h_szS]; done) | (simp only [h_szP, h_szS]; omega)) only [go_sem, Nat.reduceBEq, reduceCtorEq, Nat.reduceAdd, Int.reduceEq, Int.reduceLT, Int.reduceLE, Int.reduceMul, Int.reduceAdd, Int.reduceSub, reduceIte, Nat.reduceLeDiff, Nat.reduceLT, Nat.reduceMul, Nat.reduceSub, Int.reduceToNat, s56, fo89_0, sh3, Tryd.underlying3, fo89_1, fo89_3, sh23, Tryd.underlying23, Tryd.underlying9, Tryd.underlying5]
    exact ⟨⟨2, by omega, rfl⟩, Keeps.push _ _ (Nat.le_refl _)⟩
theorem rlink_c {h : Heap} {m bn r : Nat} (R : Rt h m bn r) (d n : Int) (s : ByteArray) : Fn Tryd.prog 42 [ptr m 0, .int .i64 d, .string s, .int .i64 n] h fun x h' => (∃ e : Nat, e ≤ 100 ∧ x = .int .i64 e) ∧ Keeps h.size h h' := by
  have h1 := R.r
  by_cases hn : n = 1
  · subst hn
    refine Fn_c Tryd.func42 mixed c42 (by kernel_rfl) ?_; rw [r42]
    simp -implicitDefEqProofs (disch := first | omega | (simp only [h_szP, h_szS]; done) | (simp only [h_szP, h_szS]; omega)) only [go_sem, Nat.reduceBEq, reduceCtorEq, Nat.reduceAdd, Int.reduceEq, Int.reduceLT, Int.reduceLE, Int.reduceMul, Int.reduceAdd, Int.reduceSub, reduceIte, Nat.reduceLeDiff, Nat.reduceLT, Nat.reduceMul, Nat.reduceSub, Int.reduceToNat, s42, fo89_0, sh3, Tryd.underlying3, fo89_1, Tryd.underlying26, fo89_6, sz3]
    refine FnK.val (rget_r R) ?_
    simp -implicitDefEqProofs (disch := first | omega | (simp only [h_szP, h_szS]; done) | (simp only [h_szP, h_szS]; omega)) only [go_sem, Nat.reduceBEq, reduceCtorEq, Nat.reduceAdd, Int.reduceEq, Int.reduceLT, Int.reduceLE, Int.reduceMul, Int.reduceAdd, Int.reduceSub, reduceIte, Nat.reduceLeDiff, Nat.reduceLT, Nat.reduceMul, Nat.reduceSub, Int.reduceToNat, s42, fo89_0, sh3, Tryd.underlying3, fo89_1, Tryd.underlying26, fo89_6, sz3, h1]
    exact ⟨⟨1, by omega, rfl⟩, Keeps.refl'⟩
  · refine Fn_c Tryd.func42 mixed c42 (by kernel_rfl) ?_; rw [r42]
    simp -implicitDefEqProofs (disch := first | omega | (simp only [h_szP, h_szS]; done) | (simp only [h_szP, h_szS]; omega)) only [go_sem, Nat.reduceBEq, reduceCtorEq, Nat.reduceAdd, Int.reduceEq, Int.reduceLT, Int.reduceLE, Int.reduceMul, Int.reduceAdd, Int.reduceSub, reduceIte, Nat.reduceLeDiff, Nat.reduceLT, Nat.reduceMul, Nat.reduceSub, Int.reduceToNat, s42, fo89_0, sh3, Tryd.underlying3, fo89_1, Tryd.underlying26, fo89_6, sz3]
    refine FnK.use (rget_o R n hn) ?_
    intro x h1 ⟨e1, e2⟩
    rw [e1, e2]
    simp -implicitDefEqProofs (disch := first | omega | (simp only [h_szP, h_szS]; done) | (simp only [h_szP, h_szS]; omega)) only [go_sem, Nat.reduceBEq, reduceCtorEq, Nat.reduceAdd, Int.reduceEq, Int.reduceLT, Int.reduceLE, Int.reduceMul, Int.reduceAdd, Int.reduceSub, reduceIte, Nat.reduceLeDiff, Nat.reduceLT, Nat.reduceMul, Nat.reduceSub, Int.reduceToNat, s42, fo89_0, sh3, Tryd.underlying3, fo89_1, Tryd.underlying26, fo89_6, sz3]
    exact ⟨⟨2, by omega, rfl⟩, Keeps.push _ _ (Nat.le_refl _)⟩
theorem rfind_c {h : Heap} {m bn r : Nat} (R : Rt h m bn r) (n : Int) (s : ByteArray) : Fn Tryd.prog 54 [ptr m 0, .int .i64 n, .string s] h fun x h' => (∃ v e : Nat, v ≤ 100 ∧ e ≤ 100 ∧ x = .tuple #[.int .i64 v, .int .i64 e]) ∧ Keeps h.size h h' := by
  have h1 := R.r
  by_cases hn : n = 1
  · subst hn
    refine Fn_c Tryd.func54 mixed c54 (by kernel_rfl) ?_; rw [r54]
    simp -implicitDefEqProofs (disch := first | omega | (simp only [h_szP, h_szS]; done) | (simp only [h_szP, h_szS]; omega)) only [go_sem, Nat.reduceBEq, reduceCtorEq, Nat.reduceAdd, Int.reduceEq, Int.reduceLT, Int.reduceLE, Int.reduceMul, Int.reduceAdd, Int.reduceSub, reduceIte, Nat.reduceLeDiff, Nat.reduceLT, Nat.reduceMul, Nat.reduceSub, Int.reduceToNat, s54, Tryd.underlying26, Tryd.underlying9, Tryd.underlying3, fo89_4, sh55, sl55, ze59, by59, sz59, fo59_1, sh3]
    refine FnK.val (isdir_r R) ?_
    simp -implicitDefEqProofs (disch := first | omega | (simp only [h_szP, h_szS]; done) | (simp only [h_szP, h_szS]; omega)) only [go_sem, Nat.reduceBEq, reduceCtorEq, Nat.reduceAdd, Int.reduceEq, Int.reduceLT, Int.reduceLE, Int.reduceMul, Int.reduceAdd, Int.reduceSub, reduceIte, Nat.reduceLeDiff, Nat.reduceLT, Nat.reduceMul, Nat.reduceSub, Int.reduceToNat, s54, Tryd.underlying26, Tryd.underlying9, Tryd.underlying3, fo89_4, sh55, sl55, ze59, by59, sz59, fo59_1, sh3, s_eql]
    rw [t_all, t_all]
    refine ⟨fun _ => ⟨⟨1, 0, by omega, by omega, rfl⟩, Keeps.refl'⟩, fun _ => ⟨fun _ => ?_, fun _ => ?_⟩⟩
    · refine FnK.use (rparent_r R) ?_
      intro x h2 ⟨e2, K2⟩
      rw [e2]
      simp -implicitDefEqProofs (disch := first | omega | (simp only [h_szP, h_szS]; done) | (simp only [h_szP, h_szS]; omega)) only [go_sem, Nat.reduceBEq, reduceCtorEq, Nat.reduceAdd, Int.reduceEq, Int.reduceLT, Int.reduceLE, Int.reduceMul, Int.reduceAdd, Int.reduceSub, reduceIte, Nat.reduceLeDiff, Nat.reduceLT, Nat.reduceMul, Nat.reduceSub, Int.reduceToNat, s54, Tryd.underlying26, Tryd.underlying9, Tryd.underlying3, fo89_4, sh55, sl55, ze59, by59, sz59, fo59_1, sh3]
      exact ⟨⟨1, 0, by omega, by omega, rfl⟩, K2⟩
    · refine FnK.val (rget_r R) ?_
      simp -implicitDefEqProofs (disch := first | omega | (simp only [h_szP, h_szS]; done) | (simp only [h_szP, h_szS]; omega)) only [go_sem, Nat.reduceBEq, reduceCtorEq, Nat.reduceAdd, Int.reduceEq, Int.reduceLT, Int.reduceLE, Int.reduceMul, Int.reduceAdd, Int.reduceSub, reduceIte, Nat.reduceLeDiff, Nat.reduceLT, Nat.reduceMul, Nat.reduceSub, Int.reduceToNat, s54, Tryd.underlying26, Tryd.underlying9, Tryd.underlying3, fo89_4, sh55, sl55, ze59, by59, sz59, fo59_1, sh3, h1]
      refine FnK.val (at_r R s) ?_
      simp -implicitDefEqProofs (disch := first | omega | (simp only [h_szP, h_szS]; done) | (simp only [h_szP, h_szS]; omega)) only [go_sem, Nat.reduceBEq, reduceCtorEq, Nat.reduceAdd, Int.reduceEq, Int.reduceLT, Int.reduceLE, Int.reduceMul, Int.reduceAdd, Int.reduceSub, reduceIte, Nat.reduceLeDiff, Nat.reduceLT, Nat.reduceMul, Nat.reduceSub, Int.reduceToNat, s54, Tryd.underlying26, Tryd.underlying9, Tryd.underlying3, fo89_4, sh55, sl55, ze59, by59, sz59, fo59_1, sh3, h1]
      exact ⟨⟨0, 2, by omega, by omega, rfl⟩, Keeps.refl'⟩
  · refine Fn_c Tryd.func54 mixed c54 (by kernel_rfl) ?_; rw [r54]
    simp -implicitDefEqProofs (disch := first | omega | (simp only [h_szP, h_szS]; done) | (simp only [h_szP, h_szS]; omega)) only [go_sem, Nat.reduceBEq, reduceCtorEq, Nat.reduceAdd, Int.reduceEq, Int.reduceLT, Int.reduceLE, Int.reduceMul, Int.reduceAdd, Int.reduceSub, reduceIte, Nat.reduceLeDiff, Nat.reduceLT, Nat.reduceMul, Nat.reduceSub, Int.reduceToNat, s54, Tryd.underlying26, Tryd.underlying9, Tryd.underlying3, fo89_4, sh55, sl55, ze59, by59, sz59, fo59_1, sh3]
    refine FnK.use (isdir_o R n hn) ?_
    intro x h1 ⟨e1, K1⟩
    rw [e1]
    simp -implicitDefEqProofs (disch := first | omega | (simp only [h_szP, h_szS]; done) | (simp only [h_szP, h_szS]; omega)) only [go_sem, Nat.reduceBEq, reduceCtorEq, Nat.reduceAdd, Int.reduceEq, Int.reduceLT, Int.reduceLE, Int.reduceMul, Int.reduceAdd, Int.reduceSub, reduceIte, Nat.reduceLeDiff, Nat.reduceLT, Nat.reduceMul, Nat.reduceSub, Int.reduceToNat, s54, Tryd.underlying26, Tryd.underlying9, Tryd.underlying3, fo89_4, sh55, sl55, ze59, by59, sz59, fo59_1, sh3]
    exact ⟨⟨0, 2, by omega, by omega, rfl⟩, K1⟩
theorem rremove_c {h : Heap} {m bn r : Nat} (R : Rt h m bn r) (n : Int) (s : ByteArray) (d : Bool) : Fn Tryd.prog 43 [ptr m 0, .int .i64 n, .string s, .bool d] h fun x h' => (∃ e : Nat, e ≤ 100 ∧ x = .int .i64 e) ∧ Keeps h.size h h' := by
  have h1 := R.r
  by_cases hn : n = 1
  · subst hn
    refine Fn_c Tryd.func43 mixed c43 (by kernel_rfl) ?_; rw [r43]
    simp -implicitDefEqProofs (disch := first | omega | (simp only [h_szP, h_szS]; done) | (simp only [h_szP, h_szS]; omega)) only [go_sem, Nat.reduceBEq, reduceCtorEq, Nat.reduceAdd, Int.reduceEq, Int.reduceLT, Int.reduceLE, Int.reduceMul, Int.reduceAdd, Int.reduceSub, reduceIte, Nat.reduceLeDiff, Nat.reduceLT, Nat.reduceMul, Nat.reduceSub, Int.reduceToNat, s43, Tryd.underlying26, Tryd.underlying9, Tryd.underlying3, fo89_4, sh55, sl55, ze59, by59, sz59, fo59_1, sh3]
    refine FnK.val (isdir_r R) ?_
    simp -implicitDefEqProofs (disch := first | omega | (simp only [h_szP, h_szS]; done) | (simp only [h_szP, h_szS]; omega)) only [go_sem, Nat.reduceBEq, reduceCtorEq, Nat.reduceAdd, Int.reduceEq, Int.reduceLT, Int.reduceLE, Int.reduceMul, Int.reduceAdd, Int.reduceSub, reduceIte, Nat.reduceLeDiff, Nat.reduceLT, Nat.reduceMul, Nat.reduceSub, Int.reduceToNat, s43, Tryd.underlying26, Tryd.underlying9, Tryd.underlying3, fo89_4, sh55, sl55, ze59, by59, sz59, fo59_1, sh3, s_eql]
    rw [t_all, t_all]
    refine ⟨fun _ => ⟨⟨22, by omega, rfl⟩, Keeps.refl'⟩, fun _ => ⟨fun _ => ⟨⟨39, by omega, rfl⟩, Keeps.refl'⟩, fun _ => ?_⟩⟩
    refine FnK.val (rget_r R) ?_
    simp -implicitDefEqProofs (disch := first | omega | (simp only [h_szP, h_szS]; done) | (simp only [h_szP, h_szS]; omega)) only [go_sem, Nat.reduceBEq, reduceCtorEq, Nat.reduceAdd, Int.reduceEq, Int.reduceLT, Int.reduceLE, Int.reduceMul, Int.reduceAdd, Int.reduceSub, reduceIte, Nat.reduceLeDiff, Nat.reduceLT, Nat.reduceMul, Nat.reduceSub, Int.reduceToNat, s43, Tryd.underlying26, Tryd.underlying9, Tryd.underlying3, fo89_4, sh55, sl55, ze59, by59, sz59, fo59_1, sh3, h1]
    refine FnK.val (at_r R s) ?_
    simp -implicitDefEqProofs (disch := first | omega | (simp only [h_szP, h_szS]; done) | (simp only [h_szP, h_szS]; omega)) only [go_sem, Nat.reduceBEq, reduceCtorEq, Nat.reduceAdd, Int.reduceEq, Int.reduceLT, Int.reduceLE, Int.reduceMul, Int.reduceAdd, Int.reduceSub, reduceIte, Nat.reduceLeDiff, Nat.reduceLT, Nat.reduceMul, Nat.reduceSub, Int.reduceToNat, s43, Tryd.underlying26, Tryd.underlying9, Tryd.underlying3, fo89_4, sh55, sl55, ze59, by59, sz59, fo59_1, sh3, h1]
    exact ⟨⟨2, by omega, rfl⟩, Keeps.refl'⟩
  · refine Fn_c Tryd.func43 mixed c43 (by kernel_rfl) ?_; rw [r43]
    simp -implicitDefEqProofs (disch := first | omega | (simp only [h_szP, h_szS]; done) | (simp only [h_szP, h_szS]; omega)) only [go_sem, Nat.reduceBEq, reduceCtorEq, Nat.reduceAdd, Int.reduceEq, Int.reduceLT, Int.reduceLE, Int.reduceMul, Int.reduceAdd, Int.reduceSub, reduceIte, Nat.reduceLeDiff, Nat.reduceLT, Nat.reduceMul, Nat.reduceSub, Int.reduceToNat, s43, Tryd.underlying26, Tryd.underlying9, Tryd.underlying3, fo89_4, sh55, sl55, ze59, by59, sz59, fo59_1, sh3]
    refine FnK.use (isdir_o R n hn) ?_
    intro x h1 ⟨e1, K1⟩
    rw [e1]
    simp -implicitDefEqProofs (disch := first | omega | (simp only [h_szP, h_szS]; done) | (simp only [h_szP, h_szS]; omega)) only [go_sem, Nat.reduceBEq, reduceCtorEq, Nat.reduceAdd, Int.reduceEq, Int.reduceLT, Int.reduceLE, Int.reduceMul, Int.reduceAdd, Int.reduceSub, reduceIte, Nat.reduceLeDiff, Nat.reduceLT, Nat.reduceMul, Nat.reduceSub, Int.reduceToNat, s43, Tryd.underlying26, Tryd.underlying9, Tryd.underlying3, fo89_4, sh55, sl55, ze59, by59, sz59, fo59_1, sh3]
    exact ⟨⟨2, by omega, rfl⟩, K1⟩
theorem rmove_c {h : Heap} {m bn r : Nat} (R : Rt h m bn r) (n o : Int) (s u : ByteArray) (hu : u.size ≤ 1000) : Fn Tryd.prog 45 [ptr m 0, .int .i64 n, .string s, .int .i64 o, .string u] h fun x h' => (∃ e : Nat, e ≤ 100 ∧ x = .int .i64 e) ∧ Keeps h.size h h' := by
  have h1 := R.r
  by_cases hn : n = 1
  · subst hn
    by_cases ho : o = 1
    · subst ho
      refine Fn_c Tryd.func45 mixed c45 (by kernel_rfl) ?_; rw [r45]
      simp -implicitDefEqProofs (disch := first | omega | (simp only [h_szP, h_szS]; done) | (simp only [h_szP, h_szS]; omega)) only [go_sem, Nat.reduceBEq, reduceCtorEq, Nat.reduceAdd, Int.reduceEq, Int.reduceLT, Int.reduceLE, Int.reduceMul, Int.reduceAdd, Int.reduceSub, reduceIte, Nat.reduceLeDiff, Nat.reduceLT, Nat.reduceMul, Nat.reduceSub, Int.reduceToNat, s45, Tryd.underlying26, Tryd.underlying9, Tryd.underlying3, fo89_5, sh3, fo89_4, sh55, sl55, ze59, by59, sz59, fo59_1, fo89_1, sz55, sz3]
      refine FnK.val (isdir_r R) ?_
      simp -implicitDefEqProofs (disch := first | omega | (simp only [h_szP, h_szS]; done) | (simp only [h_szP, h_szS]; omega)) only [go_sem, Nat.reduceBEq, reduceCtorEq, Nat.reduceAdd, Int.reduceEq, Int.reduceLT, Int.reduceLE, Int.reduceMul, Int.reduceAdd, Int.reduceSub, reduceIte, Nat.reduceLeDiff, Nat.reduceLT, Nat.reduceMul, Nat.reduceSub, Int.reduceToNat, s45, Tryd.underlying26, Tryd.underlying9, Tryd.underlying3, fo89_5, sh3, fo89_4, sh55, sl55, ze59, by59, sz59, fo59_1, fo89_1, sz55, sz3]
      refine FnK.val (isdir_r R) ?_
      simp -implicitDefEqProofs (disch := first | omega | (simp only [h_szP, h_szS]; done) | (simp only [h_szP, h_szS]; omega)) only [go_sem, Nat.reduceBEq, reduceCtorEq, Nat.reduceAdd, Int.reduceEq, Int.reduceLT, Int.reduceLE, Int.reduceMul, Int.reduceAdd, Int.reduceSub, reduceIte, Nat.reduceLeDiff, Nat.reduceLT, Nat.reduceMul, Nat.reduceSub, Int.reduceToNat, s45, Tryd.underlying26, Tryd.underlying9, Tryd.underlying3, fo89_5, sh3, fo89_4, sh55, sl55, ze59, by59, sz59, fo59_1, fo89_1, sz55, sz3, s_eql]
      rw [t_all, t_all]
      refine ⟨fun _ => ⟨⟨22, by omega, rfl⟩, Keeps.refl'⟩, fun _ => ⟨fun _ => ⟨⟨22, by omega, rfl⟩, Keeps.refl'⟩, fun _ => ?_⟩⟩
      refine FnK.use (good_c u hu h) ?_
      intro x h2 ⟨⟨b, e1⟩, e2⟩
      rw [e1, e2]
      simp -implicitDefEqProofs (disch := first | omega | (simp only [h_szP, h_szS]; done) | (simp only [h_szP, h_szS]; omega)) only [go_sem, Nat.reduceBEq, reduceCtorEq, Nat.reduceAdd, Int.reduceEq, Int.reduceLT, Int.reduceLE, Int.reduceMul, Int.reduceAdd, Int.reduceSub, reduceIte, Nat.reduceLeDiff, Nat.reduceLT, Nat.reduceMul, Nat.reduceSub, Int.reduceToNat, s45, Tryd.underlying26, Tryd.underlying9, Tryd.underlying3, fo89_5, sh3, fo89_4, sh55, sl55, ze59, by59, sz59, fo59_1, fo89_1, sz55, sz3]
      rw [t_all]
      refine ⟨fun _ => ?_, fun _ => ⟨⟨22, by omega, rfl⟩, Keeps.refl'⟩⟩
      refine FnK.val (rget_r R) ?_
      simp -implicitDefEqProofs (disch := first | omega | (simp only [h_szP, h_szS]; done) | (simp only [h_szP, h_szS]; omega)) only [go_sem, Nat.reduceBEq, reduceCtorEq, Nat.reduceAdd, Int.reduceEq, Int.reduceLT, Int.reduceLE, Int.reduceMul, Int.reduceAdd, Int.reduceSub, reduceIte, Nat.reduceLeDiff, Nat.reduceLT, Nat.reduceMul, Nat.reduceSub, Int.reduceToNat, s45, Tryd.underlying26, Tryd.underlying9, Tryd.underlying3, fo89_5, sh3, fo89_4, sh55, sl55, ze59, by59, sz59, fo59_1, fo89_1, sz55, sz3]
      refine FnK.val (at_r R s) ?_
      simp -implicitDefEqProofs (disch := first | omega | (simp only [h_szP, h_szS]; done) | (simp only [h_szP, h_szS]; omega)) only [go_sem, Nat.reduceBEq, reduceCtorEq, Nat.reduceAdd, Int.reduceEq, Int.reduceLT, Int.reduceLE, Int.reduceMul, Int.reduceAdd, Int.reduceSub, reduceIte, Nat.reduceLeDiff, Nat.reduceLT, Nat.reduceMul, Nat.reduceSub, Int.reduceToNat, s45, Tryd.underlying26, Tryd.underlying9, Tryd.underlying3, fo89_5, sh3, fo89_4, sh55, sl55, ze59, by59, sz59, fo59_1, fo89_1, sz55, sz3]
      exact ⟨⟨2, by omega, rfl⟩, Keeps.refl'⟩
    · refine Fn_c Tryd.func45 mixed c45 (by kernel_rfl) ?_; rw [r45]
      simp -implicitDefEqProofs (disch := first | omega | (simp only [h_szP, h_szS]; done) | (simp only [h_szP, h_szS]; omega)) only [go_sem, Nat.reduceBEq, reduceCtorEq, Nat.reduceAdd, Int.reduceEq, Int.reduceLT, Int.reduceLE, Int.reduceMul, Int.reduceAdd, Int.reduceSub, reduceIte, Nat.reduceLeDiff, Nat.reduceLT, Nat.reduceMul, Nat.reduceSub, Int.reduceToNat, s45, Tryd.underlying26, Tryd.underlying9, Tryd.underlying3, fo89_5, sh3, fo89_4, sh55, sl55, ze59, by59, sz59, fo59_1, fo89_1, sz55, sz3]
      refine FnK.val (isdir_r R) ?_
      simp -implicitDefEqProofs (disch := first | omega | (simp only [h_szP, h_szS]; done) | (simp only [h_szP, h_szS]; omega)) only [go_sem, Nat.reduceBEq, reduceCtorEq, Nat.reduceAdd, Int.reduceEq, Int.reduceLT, Int.reduceLE, Int.reduceMul, Int.reduceAdd, Int.reduceSub, reduceIte, Nat.reduceLeDiff, Nat.reduceLT, Nat.reduceMul, Nat.reduceSub, Int.reduceToNat, s45, Tryd.underlying26, Tryd.underlying9, Tryd.underlying3, fo89_5, sh3, fo89_4, sh55, sl55, ze59, by59, sz59, fo59_1, fo89_1, sz55, sz3]
      refine FnK.use (isdir_o R o ho) ?_
      intro x h1 ⟨e1, K1⟩
      rw [e1]
      simp -implicitDefEqProofs (disch := first | omega | (simp only [h_szP, h_szS]; done) | (simp only [h_szP, h_szS]; omega)) only [go_sem, Nat.reduceBEq, reduceCtorEq, Nat.reduceAdd, Int.reduceEq, Int.reduceLT, Int.reduceLE, Int.reduceMul, Int.reduceAdd, Int.reduceSub, reduceIte, Nat.reduceLeDiff, Nat.reduceLT, Nat.reduceMul, Nat.reduceSub, Int.reduceToNat, s45, Tryd.underlying26, Tryd.underlying9, Tryd.underlying3, fo89_5, sh3, fo89_4, sh55, sl55, ze59, by59, sz59, fo59_1, fo89_1, sz55, sz3]
      exact ⟨⟨2, by omega, rfl⟩, K1⟩
  · refine Fn_c Tryd.func45 mixed c45 (by kernel_rfl) ?_; rw [r45]
    simp -implicitDefEqProofs (disch := first | omega | (simp only [h_szP, h_szS]; done) | (simp only [h_szP, h_szS]; omega)) only [go_sem, Nat.reduceBEq, reduceCtorEq, Nat.reduceAdd, Int.reduceEq, Int.reduceLT, Int.reduceLE, Int.reduceMul, Int.reduceAdd, Int.reduceSub, reduceIte, Nat.reduceLeDiff, Nat.reduceLT, Nat.reduceMul, Nat.reduceSub, Int.reduceToNat, s45, Tryd.underlying26, Tryd.underlying9, Tryd.underlying3, fo89_5, sh3, fo89_4, sh55, sl55, ze59, by59, sz59, fo59_1, fo89_1, sz55, sz3]
    refine FnK.use (isdir_o R n hn) ?_
    intro x h1 ⟨e1, K1⟩
    rw [e1]
    simp -implicitDefEqProofs (disch := first | omega | (simp only [h_szP, h_szS]; done) | (simp only [h_szP, h_szS]; omega)) only [go_sem, Nat.reduceBEq, reduceCtorEq, Nat.reduceAdd, Int.reduceEq, Int.reduceLT, Int.reduceLE, Int.reduceMul, Int.reduceAdd, Int.reduceSub, reduceIte, Nat.reduceLeDiff, Nat.reduceLT, Nat.reduceMul, Nat.reduceSub, Int.reduceToNat, s45, Tryd.underlying26, Tryd.underlying9, Tryd.underlying3, fo89_5, sh3, fo89_4, sh55, sl55, ze59, by59, sz59, fo59_1, fo89_1, sz55, sz3]
    exact ⟨⟨2, by omega, rfl⟩, K1⟩
/-- 'may': some answer. -/
theorem may_c {h : Heap} {v : Value} {ds : List Nat} (k md : Int) (hv : Vs h v encB 1 ds) (hl : ds.length ≤ 10000) : Fn Tryd.prog 67 [.int .i64 k, .int .i64 md, v] h fun x h' => (∃ b, x = .bool b) ∧ h' = h := by
  obtain ⟨a, cap, e1, hcap⟩ := hv.shape
  subst e1
  refine Fn_c Tryd.func67 mixed c67 (by kernel_rfl) ?_; rw [r67]
  simp -implicitDefEqProofs (disch := first | omega | (simp only [h_szP, h_szS]; done) | (simp only [h_szP, h_szS]; omega)) only [go_sem, Nat.reduceBEq, reduceCtorEq, Nat.reduceAdd, Int.reduceEq, Int.reduceLT, Int.reduceLE, Int.reduceMul, Int.reduceAdd, Int.reduceSub, reduceIte, Nat.reduceLeDiff, Nat.reduceLT, Nat.reduceMul, Nat.reduceSub, Int.reduceToNat, s67, Tryd.underlying3, Tryd.underlying23, sl23, ze5, by5, sz5, sh5, Tryd.underlying5]
  refine ⟨fun _ => ⟨_, rfl⟩, fun _ => ⟨fun _ => ⟨_, rfl⟩, fun _ => ⟨fun _ => ⟨_, rfl⟩, fun _ => ⟨fun _ => ?_, fun _ => ⟨fun _ => ⟨_, rfl⟩, fun _ => ⟨fun _ => ⟨_, rfl⟩, fun _ => ⟨fun _ => ⟨_, rfl⟩, fun _ => ⟨fun _ => ⟨_, rfl⟩, fun _ => ⟨_, rfl⟩⟩⟩⟩⟩⟩⟩⟩⟩
  obtain ⟨I, hI⟩ : ∃ I : Nat → Fr → Heap → Prop, I = fun q fr hh => hh = h ∧ ∃ (i : Nat), i + q = ds.length ∧ fr = ((fr0.up 7 (.int .i64 i)).up 2 (.slice a ds.length cap)) := ⟨_, rfl⟩
  refine LoopK.use I ds.length (by rw [hI]; exact ⟨rfl, 0, by omega, rfl⟩) ?_
  intro q fr hh hK
  rw [hI] at hK
  obtain ⟨e0, i, hk, hf⟩ := hK
  have e0 := e0.symm
  subst e0
  subst hf
  by_cases hi : i < ds.length
  · obtain ⟨vb, vo, cap', e1, hcap', hvb⟩ := hv.open hi
    cases e1
    have hE : cellO (vo + i) h[vb]? = some (.int .u8 (ds[i] : Nat)) := by have := hv.field encB_len hi (j := 0) (by omega); simpa [encB] using this
    have hd : decide ((i : Int) < ds.length) = true := decide_eq_true (by omega)
    simp -implicitDefEqProofs (disch := first | omega | (simp only [h_szP, h_szS]; done) | (simp only [h_szP, h_szS]; omega)) only [go_sem, Nat.reduceBEq, reduceCtorEq, Nat.reduceAdd, Int.reduceEq, Int.reduceLT, Int.reduceLE, Int.reduceMul, Int.reduceAdd, Int.reduceSub, reduceIte, Nat.reduceLeDiff, Nat.reduceLT, Nat.reduceMul, Nat.reduceSub, Int.reduceToNat, s67, Tryd.underlying3, Tryd.underlying23, sl23, ze5, by5, sz5, sh5, Tryd.underlying5, hd, hE, Nat.mul_one]
    refine ⟨fun _ => ⟨_, rfl⟩, fun _ => ⟨q - 1, by omega, ?_⟩⟩
    rw [hI]
    exact ⟨rfl, i + 1, by omega, rfl⟩
  · have hd : decide ((i : Int) < ds.length) = false := decide_eq_false (by omega)
    simp -implicitDefEqProofs (disch := first | omega | (simp only [h_szP, h_szS]; done) | (simp only [h_szP, h_szS]; omega)) only [go_sem, Nat.reduceBEq, reduceCtorEq, Nat.reduceAdd, Int.reduceEq, Int.reduceLT, Int.reduceLE, Int.reduceMul, Int.reduceAdd, Int.reduceSub, reduceIte, Nat.reduceLeDiff, Nat.reduceLT, Nat.reduceMul, Nat.reduceSub, Int.reduceToNat, s67, Tryd.underlying3, Tryd.underlying23, sl23, ze5, by5, sz5, sh5, Tryd.underlying5, hd]
    exact ⟨fun _ => ⟨_, rfl⟩, fun _ => ⟨_, rfl⟩⟩
theorem rlen_c {h : Heap} {m bn r : Nat} (R : Rt h m bn r) : Fn Tryd.prog 69 [ptr m 0] h fun x h' => x = .int .i64 1 ∧ h' = h := by
  have h1 := R.t
  have h2 := R.n
  have h3 := R.r
  refine Fn_c Tryd.func69 mixed c69 (by kernel_rfl) ?_; rw [r69]
  simp -implicitDefEqProofs (disch := first | omega | (simp only [h_szP, h_szS]; done) | (simp only [h_szP, h_szS]; omega)) only [go_sem, Nat.reduceBEq, reduceCtorEq, Nat.reduceAdd, Int.reduceEq, Int.reduceLT, Int.reduceLE, Int.reduceMul, Int.reduceAdd, Int.reduceSub, reduceIte, Nat.reduceLeDiff, Nat.reduceLT, Nat.reduceMul, Nat.reduceSub, Int.reduceToNat, s69, fo92_0, sh90, Tryd.underlying90, sl90, ze87, by87, sz87, Tryd.underlying3, sh87, fo89_0, sh3, h1, h2, h3]
  refine LoopK.use (fun k fr hh => hh = h ∧ ((k = 1 ∧ fr = (((fr0.up 4 (.int .i64 0)).up 3 (.int .i64 0)).up 0 (ptr m 0))) ∨ (k = 0 ∧ fr = (((fr0.up 4 (.int .i64 1)).up 3 (.int .i64 1)).up 0 (ptr m 0))))) 1 ⟨rfl, .inl ⟨rfl, rfl⟩⟩ ?_
  intro k fr hh ⟨e0, hf⟩
  have e0 := e0.symm
  subst e0
  rcases hf with ⟨hk, hf⟩ | ⟨hk, hf⟩
  · subst hf
    simp -implicitDefEqProofs (disch := first | omega | (simp only [h_szP, h_szS]; done) | (simp only [h_szP, h_szS]; omega)) only [go_sem, Nat.reduceBEq, reduceCtorEq, Nat.reduceAdd, Int.reduceEq, Int.reduceLT, Int.reduceLE, Int.reduceMul, Int.reduceAdd, Int.reduceSub, reduceIte, Nat.reduceLeDiff, Nat.reduceLT, Nat.reduceMul, Nat.reduceSub, Int.reduceToNat, s69, fo92_0, sh90, Tryd.underlying90, sl90, ze87, by87, sz87, Tryd.underlying3, sh87, fo89_0, sh3, h1, h2, h3]
    exact ⟨0, by omega, .inr rfl⟩
  · subst hf
    simp -implicitDefEqProofs (disch := first | omega | (simp only [h_szP, h_szS]; done) | (simp only [h_szP, h_szS]; omega)) only [go_sem, Nat.reduceBEq, reduceCtorEq, Nat.reduceAdd, Int.reduceEq, Int.reduceLT, Int.reduceLE, Int.reduceMul, Int.reduceAdd, Int.reduceSub, reduceIte, Nat.reduceLeDiff, Nat.reduceLT, Nat.reduceMul, Nat.reduceSub, Int.reduceToNat, s69, fo92_0, sh90, Tryd.underlying90, sl90, ze87, by87, sz87, Tryd.underlying3, sh87, fo89_0, sh3, h1, h2, h3]
theorem rplace_c {h : Heap} {m bn r : Nat} (R : Rt h m bn r) (s : ByteArray) (hs : s.size ≤ 1000) : Fn Tryd.prog 68 [ptr m 0, .int .i64 1, .string s] h fun x h' => (∃ e : Nat, e ≤ 100 ∧ x = .int .i64 e) ∧ Keeps h.size h h' := by
  have h1 := R.r
  refine Fn_c Tryd.func68 mixed c68 (by kernel_rfl) ?_; rw [r68]
  simp -implicitDefEqProofs (disch := first | omega | (simp only [h_szP, h_szS]; done) | (simp only [h_szP, h_szS]; omega)) only [go_sem, Nat.reduceBEq, reduceCtorEq, Nat.reduceAdd, Int.reduceEq, Int.reduceLT, Int.reduceLE, Int.reduceMul, Int.reduceAdd, Int.reduceSub, reduceIte, Nat.reduceLeDiff, Nat.reduceLT, Nat.reduceMul, Nat.reduceSub, Int.reduceToNat, s68, Tryd.underlying26, Tryd.underlying9, Tryd.underlying3, fo89_5, sh3]
  refine FnK.val (isdir_r R) ?_
  simp -implicitDefEqProofs (disch := first | omega | (simp only [h_szP, h_szS]; done) | (simp only [h_szP, h_szS]; omega)) only [go_sem, Nat.reduceBEq, reduceCtorEq, Nat.reduceAdd, Int.reduceEq, Int.reduceLT, Int.reduceLE, Int.reduceMul, Int.reduceAdd, Int.reduceSub, reduceIte, Nat.reduceLeDiff, Nat.reduceLT, Nat.reduceMul, Nat.reduceSub, Int.reduceToNat, s68, Tryd.underlying26, Tryd.underlying9, Tryd.underlying3, fo89_5, sh3, s_eql]
  rw [t_all, t_all]
  refine ⟨fun _ => ⟨⟨17, by omega, rfl⟩, Keeps.refl'⟩, fun _ => ⟨fun _ => ⟨⟨17, by omega, rfl⟩, Keeps.refl'⟩, fun _ => ?_⟩⟩
  refine FnK.use (good_c s hs h) ?_
  intro x h2 ⟨⟨b, e1⟩, e2⟩
  rw [e1, e2]
  simp -implicitDefEqProofs (disch := first | omega | (simp only [h_szP, h_szS]; done) | (simp only [h_szP, h_szS]; omega)) only [go_sem, Nat.reduceBEq, reduceCtorEq, Nat.reduceAdd, Int.reduceEq, Int.reduceLT, Int.reduceLE, Int.reduceMul, Int.reduceAdd, Int.reduceSub, reduceIte, Nat.reduceLeDiff, Nat.reduceLT, Nat.reduceMul, Nat.reduceSub, Int.reduceToNat, s68, Tryd.underlying26, Tryd.underlying9, Tryd.underlying3, fo89_5, sh3]
  rw [t_all]
  refine ⟨fun _ => ?_, fun _ => ⟨⟨22, by omega, rfl⟩, Keeps.refl'⟩⟩
  refine FnK.val (rget_r R) ?_
  simp -implicitDefEqProofs (disch := first | omega | (simp only [h_szP, h_szS]; done) | (simp only [h_szP, h_szS]; omega)) only [go_sem, Nat.reduceBEq, reduceCtorEq, Nat.reduceAdd, Int.reduceEq, Int.reduceLT, Int.reduceLE, Int.reduceMul, Int.reduceAdd, Int.reduceSub, reduceIte, Nat.reduceLeDiff, Nat.reduceLT, Nat.reduceMul, Nat.reduceSub, Int.reduceToNat, s68, Tryd.underlying26, Tryd.underlying9, Tryd.underlying3, fo89_5, sh3]
  refine FnK.val (at_r R s) ?_
  simp -implicitDefEqProofs (disch := first | omega | (simp only [h_szP, h_szS]; done) | (simp only [h_szP, h_szS]; omega)) only [go_sem, Nat.reduceBEq, reduceCtorEq, Nat.reduceAdd, Int.reduceEq, Int.reduceLT, Int.reduceLE, Int.reduceMul, Int.reduceAdd, Int.reduceSub, reduceIte, Nat.reduceLeDiff, Nat.reduceLT, Nat.reduceMul, Nat.reduceSub, Int.reduceToNat, s68, Tryd.underlying26, Tryd.underlying9, Tryd.underlying3, fo89_5, sh3]
  refine FnK.val (rget_r R) ?_
  simp -implicitDefEqProofs (disch := first | omega | (simp only [h_szP, h_szS]; done) | (simp only [h_szP, h_szS]; omega)) only [go_sem, Nat.reduceBEq, reduceCtorEq, Nat.reduceAdd, Int.reduceEq, Int.reduceLT, Int.reduceLE, Int.reduceMul, Int.reduceAdd, Int.reduceSub, reduceIte, Nat.reduceLeDiff, Nat.reduceLT, Nat.reduceMul, Nat.reduceSub, Int.reduceToNat, s68, Tryd.underlying26, Tryd.underlying9, Tryd.underlying3, fo89_5, sh3, h1]
  exact ⟨⟨0, by omega, rfl⟩, Keeps.refl'⟩
end Go.SX.G
