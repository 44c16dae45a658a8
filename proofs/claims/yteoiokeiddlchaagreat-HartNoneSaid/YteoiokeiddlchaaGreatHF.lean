/- c.li is done: the state's block. No condition. -/
import Derived.Test.YteoiokeiddlchaaGreatHE
import Derived.Test.YteoiokeiddlchaaGreatSxArr
set_option linter.unusedVariables false
set_option linter.unusedSimpArgs false
namespace Go.SX.G
open Go Go.SX Go.Proofs
set_option maxRecDepth 100000
set_option maxHeartbeats 2000000
/-- a state's block. -/
abbrev sO (f : Nat → Value) : Obj := .cells (fnL 35 f).toArray 27 (0, 0)
theorem jump_c {h : Heap} {tb : Nat} {f : Nat → Value} (H : h[tb]? = some (sO f)) (f0 : f 0 = .int .u64 65536) (f1 : f 1 = .int .u64 0) :
    Fn Tryz.prog 34 [ptr tb 0, .agg #[.int .i64 22, .int .i64 10, .int .i64 0, .int .i64 0, .int .i64 1, .int .i64 0, .int .i64 2]] h fun x h' => x = .tuple #[.int .u64 65538, .bool false] ∧ Keeps h.size h h' := by
  have c0 : cellO 0 h[tb]? = some (.int .u64 65536) := by rw [H, fnL_cell (by omega), f0]
  have c1 : cellO 1 h[tb]? = some (.int .u64 0) := by rw [H, fnL_cell (by omega), f1]
  have lt := getElem?_lt H
  have w2 : IntKind.u64.wrap 2 = 2 := by decide
  have w3 : IntKind.u64.wrap 65538 = 65538 := by decide
  refine Fn_c Tryz.func34 mixed c34 (by kernel_rfl) ?_; rw [r34]
  simp -implicitDefEqProofs (disch := first | omega | (simp only [h_szP, h_szS]; done) | (simp only [h_szP, h_szS]; omega)) only [go_sem, Nat.reduceBEq, reduceCtorEq, Nat.reduceAdd, Int.reduceEq, Int.reduceLT, Int.reduceLE, Int.reduceMul, Int.reduceAdd, Int.reduceSub, reduceIte, Nat.reduceLeDiff, Nat.reduceLT, Nat.reduceMul, Nat.reduceSub, Int.reduceToNat, s34, fo27_0, sh22, fo63_6, sh3, Tryz.underlying3, Tryz.underlying22, fo63_0, fo63_1, fo27_1, ar23, sz22, fo63_4, fo63_2, fo63_3, c0, c1, w2, w3]
  refine FnK.val (taken_c _ 0 0) ?_
  simp -implicitDefEqProofs (disch := first | omega | (simp only [h_szP, h_szS]; done) | (simp only [h_szP, h_szS]; omega)) only [go_sem, Nat.reduceBEq, reduceCtorEq, Nat.reduceAdd, Int.reduceEq, Int.reduceLT, Int.reduceLE, Int.reduceMul, Int.reduceAdd, Int.reduceSub, reduceIte, Nat.reduceLeDiff, Nat.reduceLT, Nat.reduceMul, Nat.reduceSub, Int.reduceToNat, s34, fo27_0, sh22, fo63_6, sh3, Tryz.underlying3, Tryz.underlying22, fo63_0, fo63_1, fo27_1, ar23, sz22, fo63_4, fo63_2, fo63_3]
  exact Keeps.push _ _ (Nat.le_refl _)
theorem second2_c {h : Heap} {tb : Nat} : Fn Tryz.prog 59 [ptr tb 0, .agg #[.int .i64 22, .int .i64 10, .int .i64 0, .int .i64 0, .int .i64 1, .int .i64 0, .int .i64 2]] h fun x h' => x = .int .u64 1 ∧ Keeps h.size h h' := by
  have w2 : IntKind.u64.wrap 1 = 1 := by decide
  refine Fn_c Tryz.func59 mixed c59 (by kernel_rfl) ?_; rw [r59]
  simp -implicitDefEqProofs (disch := first | omega | (simp only [h_szP, h_szS]; done) | (simp only [h_szP, h_szS]; omega)) only [go_sem, Nat.reduceBEq, reduceCtorEq, Nat.reduceAdd, Int.reduceEq, Int.reduceLT, Int.reduceLE, Int.reduceMul, Int.reduceAdd, Int.reduceSub, reduceIte, Nat.reduceLeDiff, Nat.reduceLT, Nat.reduceMul, Nat.reduceSub, Int.reduceToNat, s59, fo63_0, sh3, Tryz.underlying3, fo63_4, Tryz.underlying22, fo63_3, fo27_1, ar23, sh22, w2]
  exact Keeps.push _ _ (Nat.le_refl _)
theorem other_c {h : Heap} {hb tb : Nat} {f : Nat → Value} (H : h[tb]? = some (sO f)) (f1 : f 1 = .int .u64 0) :
    Fn Tryz.prog 37 [ptr hb 0, ptr tb 0, .agg #[.int .i64 22, .int .i64 10, .int .i64 0, .int .i64 0, .int .i64 1, .int .i64 0, .int .i64 2]] h fun x h' => x = .agg #[.int .i64 0, .int .i64 0, .int .u64 0] ∧ h'[tb]? = some (sO fun i => if i = 11 then .int .u64 1 else f i) ∧ h.size ≤ h'.size ∧ ∀ b, b < h.size → b ≠ tb → h'[b]? = h[b]? := by
  have c1 : cellO 1 h[tb]? = some (.int .u64 0) := by rw [H, fnL_cell (by omega), f1]
  have lt := getElem?_lt H
  refine Fn_c Tryz.func37 mixed c37 (by kernel_rfl) ?_; rw [r37]
  have K0 : Keeps h.size h ((h.push (.cells #[.int .i64 22, .int .i64 10, .int .i64 0, .int .i64 0, .int .i64 1, .int .i64 0, .int .i64 2] 63)).push (.cells #[.int .i64 0, .int .i64 0, .int .u64 0] 33)) := (Keeps.push _ _ (Nat.le_refl _)).push' (Nat.le_refl _)
  simp -implicitDefEqProofs (disch := first | omega | (simp only [h_szP, h_szS]; done) | (simp only [h_szP, h_szS]; omega)) only [go_sem, Nat.reduceBEq, reduceCtorEq, Nat.reduceAdd, Int.reduceEq, Int.reduceLT, Int.reduceLE, Int.reduceMul, Int.reduceAdd, Int.reduceSub, reduceIte, Nat.reduceLeDiff, Nat.reduceLT, Nat.reduceMul, Nat.reduceSub, Int.reduceToNat, s37, zc33, fo63_0, sh3, Tryz.underlying3, sd33, pl33_0, sz33, fo63_1, fo27_0, sh22, fo63_4, Tryz.underlying22, fo27_1, ar23, sz22, fo63_2, sh63, fo47_1, sh42, fo27_2, sh25, fo63_3, zc25, sz25, sh33, c1]
  repeat' refine And.intro ?_ ?_
  all_goals
    refine FnK.use second2_c ?_
    intro x h1 ⟨e1, K1⟩
    have K2 := K0.of_ext K1 (Nat.le_refl _)
    have H1 := K2.at H lt
    have c1' : cellO 1 h1[tb]? = some (.int .u64 0) := by rw [H1, fnL_cell (by omega), f1]
    have i0 : h1[h.size]? = some (.cells #[.int .i64 22, .int .i64 10, .int .i64 0, .int .i64 0, .int .i64 1, .int .i64 0, .int .i64 2] 63 (0, 0)) := by
      rw [K1.old _ (by simp; omega), h_pushL _ _ _ (by simp)]; exact h_pushE _ _ _ rfl
    have z0 : h1[h.size + 1]? = some (.cells #[.int .i64 0, .int .i64 0, .int .u64 0] 33 (0, 0)) := by
      rw [K1.old _ (by simp)]; exact h_pushE _ _ _ (by simp)
    have li := getElem?_lt i0
    have lz := getElem?_lt z0
    obtain ⟨h2, w2, H2, s2, o2⟩ := fnL_one (o := 11) (v := .int .u64 1) H1 (by omega) rfl
    have z2 := (o2 (h.size + 1) (by omega)).trans z0
    have i2 := (o2 h.size (by omega)).trans i0
    have lz2 := getElem?_lt z2
    rw [e1]
    simp -implicitDefEqProofs (disch := first | omega | (simp only [h_szP, h_szS]; done) | (simp only [h_szP, h_szS]; omega)) only [go_sem, Nat.reduceBEq, reduceCtorEq, Nat.reduceAdd, Int.reduceEq, Int.reduceLT, Int.reduceLE, Int.reduceMul, Int.reduceAdd, Int.reduceSub, reduceIte, Nat.reduceLeDiff, Nat.reduceLT, Nat.reduceMul, Nat.reduceSub, Int.reduceToNat, s37, zc33, fo63_0, sh3, Tryz.underlying3, sd33, pl33_0, sz33, fo63_1, fo27_0, sh22, fo63_4, Tryz.underlying22, fo27_1, ar23, sz22, fo63_2, sh63, fo47_1, sh42, fo27_2, sh25, fo63_3, zc25, sz25, sh33, c1', i0]
  all_goals repeat' refine And.intro ?_ ?_
  all_goals
    refine FnK.val (ado_c _ 0 1 (by omega)) ?_
    simp -implicitDefEqProofs (disch := first | omega | (simp only [h_szP, h_szS]; done) | (simp only [h_szP, h_szS]; omega)) only [go_sem, Nat.reduceBEq, reduceCtorEq, Nat.reduceAdd, Int.reduceEq, Int.reduceLT, Int.reduceLE, Int.reduceMul, Int.reduceAdd, Int.reduceSub, reduceIte, Nat.reduceLeDiff, Nat.reduceLT, Nat.reduceMul, Nat.reduceSub, Int.reduceToNat, s37, zc33, fo63_0, sh3, Tryz.underlying3, sd33, pl33_0, sz33, fo63_1, fo27_0, sh22, fo63_4, Tryz.underlying22, fo27_1, ar23, sz22, fo63_2, sh63, fo47_1, sh42, fo27_2, sh25, fo63_3, zc25, sz25, sh33, i0, i2, w2, z2]
    have s1 := K2.size
    exact ⟨H2, by omega, fun b hb n => by rw [h_setN _ _ _ _ (by omega), o2 b n, K2.old b hb]⟩
theorem do_c {h : Heap} {hb tb : Nat} {f : Nat → Value} (H : h[tb]? = some (sO f)) (f0 : f 0 = .int .u64 65536) (f1 : f 1 = .int .u64 0) :
    Fn Tryz.prog 20 [ptr hb 0, ptr tb 0, .agg #[.int .i64 22, .int .i64 10, .int .i64 0, .int .i64 0, .int .i64 1, .int .i64 0, .int .i64 2]] h fun x h' => x = .agg #[.int .i64 0, .int .i64 0, .int .u64 0] ∧ h'[tb]? = some (sO fun i => if i = 1 then .int .u64 0 else if i = 0 then .int .u64 65538 else if i = 11 then .int .u64 1 else f i) ∧ h.size ≤ h'.size ∧ ∀ b, b < h.size → b ≠ tb → h'[b]? = h[b]? := by
  have lt := getElem?_lt H
  have w2 : IntKind.u64.wrap 2 = 2 := by decide
  have w3 : IntKind.u64.wrap 65538 = 65538 := by decide
  have K0 : Keeps h.size h ((h.push (.cells #[.int .i64 22, .int .i64 10, .int .i64 0, .int .i64 0, .int .i64 1, .int .i64 0, .int .i64 2] 63)).push (.cells #[.int .i64 0, .int .i64 0, .int .u64 0] 33)) := (Keeps.push _ _ (Nat.le_refl _)).push' (Nat.le_refl _)
  have H0 := K0.at H lt
  refine Fn_c Tryz.func20 mixed c20 (by kernel_rfl) ?_; rw [r20]
  simp -implicitDefEqProofs (disch := first | omega | (simp only [h_szP, h_szS]; done) | (simp only [h_szP, h_szS]; omega)) only [go_sem, Nat.reduceBEq, reduceCtorEq, Nat.reduceAdd, Int.reduceEq, Int.reduceLT, Int.reduceLE, Int.reduceMul, Int.reduceAdd, Int.reduceSub, reduceIte, Nat.reduceLeDiff, Nat.reduceLT, Nat.reduceMul, Nat.reduceSub, Int.reduceToNat, s20, zc33, sh63, fo63_0, sh3, Tryz.underlying3, sz33, fo33_0, sh33, fo27_0, sh22, fo63_6, Tryz.underlying22, sz22, fo27_1, ar23, sd33]
  refine FnK.use (jump_c H0 f0 f1) ?_
  intro x h1 ⟨e1, K1⟩
  have K2 := K0.of_ext K1 (Nat.le_refl _)
  have s2 := K2.size
  have i1 : h1[h.size]? = some (.cells #[.int .i64 22, .int .i64 10, .int .i64 0, .int .i64 0, .int .i64 1, .int .i64 0, .int .i64 2] 63 (0, 0)) := by
    rw [K1.old _ (by simp; omega), h_pushL _ _ _ (by simp)]; exact h_pushE _ _ _ rfl
  have z1 : h1[h.size + 1]? = some (.cells #[.int .i64 0, .int .i64 0, .int .u64 0] 33 (0, 0)) := by
    rw [K1.old _ (by simp)]; exact h_pushE _ _ _ (by simp)
  have li := getElem?_lt i1
  have lz := getElem?_lt z1
  rw [e1]
  simp -implicitDefEqProofs (disch := first | omega | (simp only [h_szP, h_szS]; done) | (simp only [h_szP, h_szS]; omega)) only [go_sem, Nat.reduceBEq, reduceCtorEq, Nat.reduceAdd, Int.reduceEq, Int.reduceLT, Int.reduceLE, Int.reduceMul, Int.reduceAdd, Int.reduceSub, reduceIte, Nat.reduceLeDiff, Nat.reduceLT, Nat.reduceMul, Nat.reduceSub, Int.reduceToNat, s20, zc33, sh63, fo63_0, sh3, Tryz.underlying3, sz33, fo33_0, sh33, fo27_0, sh22, fo63_6, Tryz.underlying22, sz22, fo27_1, ar23, sd33, i1]
  refine FnK.val (access_c _) ?_
  simp -implicitDefEqProofs (disch := first | omega | (simp only [h_szP, h_szS]; done) | (simp only [h_szP, h_szS]; omega)) only [go_sem, Nat.reduceBEq, reduceCtorEq, Nat.reduceAdd, Int.reduceEq, Int.reduceLT, Int.reduceLE, Int.reduceMul, Int.reduceAdd, Int.reduceSub, reduceIte, Nat.reduceLeDiff, Nat.reduceLT, Nat.reduceMul, Nat.reduceSub, Int.reduceToNat, s20, zc33, sh63, fo63_0, sh3, Tryz.underlying3, sz33, fo33_0, sh33, fo27_0, sh22, fo63_6, Tryz.underlying22, sz22, fo27_1, ar23, sd33, i1]
  have H1 : (h1.push (.cells #[.int .i64 0, .int .i64 0, .int .u64 0] 33))[tb]? = some (sO f) := by rw [h_pushL _ _ _ (by omega)]; exact K2.at H lt
  refine FnK.use (other_c H1 f1) ?_
  intro x h2 ⟨e2, H2, s3, o2⟩
  rw [Array.size_push] at s3 o2
  have i2 : h2[h.size]? = _ := (o2 h.size (by omega) (by omega)).trans ((h_pushL _ _ _ (by omega)).trans i1)
  have z2 : h2[h.size + 1]? = _ := (o2 (h.size + 1) (by omega) (by omega)).trans ((h_pushL _ _ _ (by omega)).trans z1)
  have y2 : h2[h1.size]? = _ := (o2 h1.size (by omega) (by omega)).trans (h_pushE _ _ _ rfl)
  have c0 : cellO 0 h2[tb]? = some (.int .u64 65536) := by rw [H2, fnL_cell (by omega)]; exact congrArg some (by simp [f0])
  have ly := getElem?_lt y2
  have lt2 := getElem?_lt H2
  rw [e2]
  simp -implicitDefEqProofs (disch := first | omega | (simp only [h_szP, h_szS]; done) | (simp only [h_szP, h_szS]; omega)) only [go_sem, Nat.reduceBEq, reduceCtorEq, Nat.reduceAdd, Int.reduceEq, Int.reduceLT, Int.reduceLE, Int.reduceMul, Int.reduceAdd, Int.reduceSub, reduceIte, Nat.reduceLeDiff, Nat.reduceLT, Nat.reduceMul, Nat.reduceSub, Int.reduceToNat, s20, zc33, sh63, fo63_0, sh3, Tryz.underlying3, sz33, fo33_0, sh33, fo27_0, sh22, fo63_6, Tryz.underlying22, sz22, fo27_1, ar23, sd33, i2, y2, c0, w2, w3]
  obtain ⟨h3, e3⟩ : ∃ h3, h3 = h2.setIfInBounds h1.size (.cells #[.int .i64 0, .int .i64 0, .int .u64 0] 33 (0, 0)) := ⟨_, rfl⟩
  have o3 : ∀ b, b ≠ h1.size → h3[b]? = h2[b]? := fun b n => by rw [e3, h_setN _ _ _ _ n]
  have H3 := (o3 tb (by omega)).trans H2
  have e4 : h2[tb]? = h3[tb]? := (o3 tb (by omega)).symm
  rw [← e3, e4]
  obtain ⟨h4, w4, H4, s4, o4⟩ := fnL_one (o := 0) (v := .int .u64 65538) H3 (by omega) rfl
  obtain ⟨h5, w5, H5, s5, o5⟩ := fnL_one (o := 1) (v := .int .u64 0) H4 (by omega) rfl
  have z5 : h5[h.size + 1]? = some (.cells #[.int .i64 0, .int .i64 0, .int .u64 0] 33 (0, 0)) := by rw [o5 _ (by omega), o4 _ (by omega), o3 _ (by omega)]; exact z2
  have lz5 := getElem?_lt z5
  have z3 : h3.size = h2.size := by rw [e3]; simp
  simp -implicitDefEqProofs (disch := first | omega | (simp only [h_szP, h_szS]; done) | (simp only [h_szP, h_szS]; omega)) only [go_sem, Nat.reduceBEq, reduceCtorEq, Nat.reduceAdd, Int.reduceEq, Int.reduceLT, Int.reduceLE, Int.reduceMul, Int.reduceAdd, Int.reduceSub, reduceIte, Nat.reduceLeDiff, Nat.reduceLT, Nat.reduceMul, Nat.reduceSub, Int.reduceToNat, s20, zc33, sh63, fo63_0, sh3, Tryz.underlying3, sz33, fo33_0, sh33, fo27_0, sh22, fo63_6, Tryz.underlying22, sz22, fo27_1, ar23, sd33, w4, w5, z5]
  refine ⟨?_, by omega, fun b hb n => ?_⟩
  · exact H5
  · rw [h_setN _ _ _ _ (by omega), o5 b n, o4 b n, o3 b (by omega), o2 b (by omega) n, h_pushL _ _ _ (by omega), K2.old b hb]
end Go.SX.G
