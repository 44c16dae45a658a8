/- A file is made in a tree of a root. No condition. -/
import Derived.Test.YthippanonfbboaaDoorByA
set_option linter.unusedVariables false
set_option linter.unusedSimpArgs false
namespace Go.SX.G
open Go Go.SX Go.Proofs
set_option maxRecDepth 100000
set_option maxHeartbeats 1000000
theorem goodname_f (h : Heap) : Fn Tryd.prog 22 [.string ⟨#[102]⟩] h fun v h' => v = .bool true ∧ h' = h := by
  have n1 : ((⟨#[102]⟩ : ByteArray) == ⟨#[]⟩) = false := by decide
  have n2 : ((⟨#[102]⟩ : ByteArray) == ⟨#[46]⟩) = false := by decide
  have n3 : ((⟨#[102]⟩ : ByteArray) == ⟨#[46, 46]⟩) = false := by decide
  have n4 : ((⟨#[102]⟩ : ByteArray)).size = 1 := rfl
  have i0 : Lib.indexByte (⟨#[102]⟩ : ByteArray).data.toList (0 : Int).toNat.toUInt8 = -1 := by decide
  have i1 : Lib.indexByte (⟨#[102]⟩ : ByteArray).data.toList (47 : Int).toNat.toUInt8 = -1 := by decide
  refine Fn_c Tryd.func22 mixed c22 (by kernel_rfl) ?_; rw [r22]
  simp -implicitDefEqProofs (disch := first | omega | (simp only [h_szP, h_szS]; done) | (simp only [h_szP, h_szS]; omega)) only [go_sem, Nat.reduceBEq, reduceCtorEq, Nat.reduceAdd, Int.reduceEq, Int.reduceLT, Int.reduceLE, Int.reduceMul, Int.reduceAdd, Int.reduceSub, reduceIte, Nat.reduceLeDiff, Nat.reduceLT, Nat.reduceMul, Nat.reduceSub, Int.reduceToNat, s22, Tryd.underlying9, Tryd.underlying3, s_neq, n1, n2, n3, n4]
  refine FnK.val (ixb_c _ 0 h) ?_
  rw [i0]
  simp -implicitDefEqProofs (disch := first | omega | (simp only [h_szP, h_szS]; done) | (simp only [h_szP, h_szS]; omega)) only [go_sem, Nat.reduceBEq, reduceCtorEq, Nat.reduceAdd, Int.reduceEq, Int.reduceLT, Int.reduceLE, Int.reduceMul, Int.reduceAdd, Int.reduceSub, reduceIte, Nat.reduceLeDiff, Nat.reduceLT, Nat.reduceMul, Nat.reduceSub, Int.reduceToNat, s22, Tryd.underlying9, Tryd.underlying3]
  refine FnK.val (ixb_c _ 47 h) ?_
  rw [i1]
  simp -implicitDefEqProofs (disch := first | omega | (simp only [h_szP, h_szS]; done) | (simp only [h_szP, h_szS]; omega)) only [go_sem, Nat.reduceBEq, reduceCtorEq, Nat.reduceAdd, Int.reduceEq, Int.reduceLT, Int.reduceLE, Int.reduceMul, Int.reduceAdd, Int.reduceSub, reduceIte, Nat.reduceLeDiff, Nat.reduceLT, Nat.reduceMul, Nat.reduceSub, Int.reduceToNat, s22, Tryd.underlying9, Tryd.underlying3]
theorem place_f {h : Heap} {t q f : Nat} (R : Tr h t q f) : Fn Tryd.prog 28 [ptr t 0, .int .i64 1, .string ⟨#[102]⟩] h fun x h' => x = .tuple #[ptr f 0, .int .i64 0] ∧ Keeps h.size h h' := by
  have n2 : ((⟨#[102]⟩ : ByteArray) == ⟨#[46]⟩) = false := by decide
  have n3 : ((⟨#[102]⟩ : ByteArray) == ⟨#[46, 46]⟩) = false := by decide
  refine Fn_c Tryd.func28 mixed c28 (by kernel_rfl) ?_; rw [r28]
  simp -implicitDefEqProofs (disch := first | omega | (simp only [h_szP, h_szS]; done) | (simp only [h_szP, h_szS]; omega)) only [go_sem, Nat.reduceBEq, reduceCtorEq, Nat.reduceAdd, Int.reduceEq, Int.reduceLT, Int.reduceLE, Int.reduceMul, Int.reduceAdd, Int.reduceSub, reduceIte, Nat.reduceLeDiff, Nat.reduceLT, Nat.reduceMul, Nat.reduceSub, Int.reduceToNat, s28, Tryd.underlying26, Tryd.underlying9, Tryd.underlying3]
  refine FnK.val (dir1_c R) ?_
  simp -implicitDefEqProofs (disch := first | omega | (simp only [h_szP, h_szS]; done) | (simp only [h_szP, h_szS]; omega)) only [go_sem, Nat.reduceBEq, reduceCtorEq, Nat.reduceAdd, Int.reduceEq, Int.reduceLT, Int.reduceLE, Int.reduceMul, Int.reduceAdd, Int.reduceSub, reduceIte, Nat.reduceLeDiff, Nat.reduceLT, Nat.reduceMul, Nat.reduceSub, Int.reduceToNat, s28, Tryd.underlying26, Tryd.underlying9, Tryd.underlying3, s_eql, n2, n3]
  refine FnK.val (goodname_f h) ?_
  simp -implicitDefEqProofs (disch := first | omega | (simp only [h_szP, h_szS]; done) | (simp only [h_szP, h_szS]; omega)) only [go_sem, Nat.reduceBEq, reduceCtorEq, Nat.reduceAdd, Int.reduceEq, Int.reduceLT, Int.reduceLE, Int.reduceMul, Int.reduceAdd, Int.reduceSub, reduceIte, Nat.reduceLeDiff, Nat.reduceLT, Nat.reduceMul, Nat.reduceSub, Int.reduceToNat, s28, Tryd.underlying26, Tryd.underlying9, Tryd.underlying3]
  refine FnK.use (at0_c R _) ?_
  intro x h1 ⟨e1, K1⟩
  rw [e1]
  simp -implicitDefEqProofs (disch := first | omega | (simp only [h_szP, h_szS]; done) | (simp only [h_szP, h_szS]; omega)) only [go_sem, Nat.reduceBEq, reduceCtorEq, Nat.reduceAdd, Int.reduceEq, Int.reduceLT, Int.reduceLE, Int.reduceMul, Int.reduceAdd, Int.reduceSub, reduceIte, Nat.reduceLeDiff, Nat.reduceLT, Nat.reduceMul, Nat.reduceSub, Int.reduceToNat, s28, Tryd.underlying26, Tryd.underlying9, Tryd.underlying3]
  refine FnK.val (dead_c (R.ext K1)) ?_
  simp -implicitDefEqProofs (disch := first | omega | (simp only [h_szP, h_szS]; done) | (simp only [h_szP, h_szS]; omega)) only [go_sem, Nat.reduceBEq, reduceCtorEq, Nat.reduceAdd, Int.reduceEq, Int.reduceLT, Int.reduceLE, Int.reduceMul, Int.reduceAdd, Int.reduceSub, reduceIte, Nat.reduceLeDiff, Nat.reduceLT, Nat.reduceMul, Nat.reduceSub, Int.reduceToNat, s28, Tryd.underlying26, Tryd.underlying9, Tryd.underlying3]
  exact K1
theorem good0_c (h : Heap) : Fn Tryd.prog 30 [.int .i64 1, .int .i64 0, .slice none 0 0] h fun x h' => x = .bool true ∧ h' = h := by
  refine Fn_c Tryd.func30 mixed c30 (by kernel_rfl) ?_; rw [r30]
  simp -implicitDefEqProofs (disch := first | omega | (simp only [h_szP, h_szS]; done) | (simp only [h_szP, h_szS]; omega)) only [go_sem, Nat.reduceBEq, reduceCtorEq, Nat.reduceAdd, Int.reduceEq, Int.reduceLT, Int.reduceLE, Int.reduceMul, Int.reduceAdd, Int.reduceSub, reduceIte, Nat.reduceLeDiff, Nat.reduceLT, Nat.reduceMul, Nat.reduceSub, Int.reduceToNat, s30, Tryd.underlying3, Tryd.underlying23, sl23, ze5, by5, sz5]
theorem makef_c {h : Heap} {lo t q f : Nat} (R : Tr h t q f) (lt : lo ≤ t) (lq : lo ≤ q) (lh : lo ≤ h.size) : Fn Tryd.prog 9 [ptr t 0, .int .i64 1, .string ⟨#[102]⟩, .int .i64 1, .int .i64 0, .slice none 0 0] h fun x h' => x = .tuple #[.int .i64 2, .int .i64 0] ∧ (∃ y, FT h' lo t q f y (.slice none 0 0) []) ∧ h.size ≤ h'.size ∧ ∀ b, b < h.size → b ≠ q → b ≠ f → h'[b]? = h[b]? := by
  refine Fn_c Tryd.func9 mixed c9 (by kernel_rfl) ?_; rw [r9]
  simp -implicitDefEqProofs (disch := first | omega | (simp only [h_szP, h_szS]; done) | (simp only [h_szP, h_szS]; omega)) only [go_sem, Nat.reduceBEq, reduceCtorEq, Nat.reduceAdd, Int.reduceEq, Int.reduceLT, Int.reduceLE, Int.reduceMul, Int.reduceAdd, Int.reduceSub, reduceIte, Nat.reduceLeDiff, Nat.reduceLT, Nat.reduceMul, Nat.reduceSub, Int.reduceToNat, s9, Tryd.underlying26, Tryd.underlying67, fo72_0, sh70, Tryd.underlying70, Tryd.underlying3, zc69, sd69, pl69_0, pl69_1, pl69_2, pl69_5, fo69_4, sz3, fo69_3, sh55, zc59, sd59, pl59_0, pl59_1, pl59_2, sl55, ze59, by59, sz59, Tryd.underlying55, sz55]
  refine FnK.use (place_f R) ?_
  intro x h1 ⟨e1, K1⟩
  have R1 := R.ext K1
  have t1 := R1.t
  rw [e1]
  simp -implicitDefEqProofs (disch := first | omega | (simp only [h_szP, h_szS]; done) | (simp only [h_szP, h_szS]; omega)) only [go_sem, Nat.reduceBEq, reduceCtorEq, Nat.reduceAdd, Int.reduceEq, Int.reduceLT, Int.reduceLE, Int.reduceMul, Int.reduceAdd, Int.reduceSub, reduceIte, Nat.reduceLeDiff, Nat.reduceLT, Nat.reduceMul, Nat.reduceSub, Int.reduceToNat, s9, Tryd.underlying26, Tryd.underlying67, fo72_0, sh70, Tryd.underlying70, Tryd.underlying3, zc69, sd69, pl69_0, pl69_1, pl69_2, pl69_5, fo69_4, sz3, fo69_3, sh55, zc59, sd59, pl59_0, pl59_1, pl59_2, sl55, ze59, by59, sz59, Tryd.underlying55, sz55]
  refine FnK.val (good0_c _) ?_
  have qm : h1[q]? = some (.map #[⟨.int .i64 1, ptr f 0, 0⟩] 1) := R1.q
  simp -implicitDefEqProofs (disch := first | omega | (simp only [h_szP, h_szS]; done) | (simp only [h_szP, h_szS]; omega)) only [go_sem, Nat.reduceBEq, reduceCtorEq, Nat.reduceAdd, Int.reduceEq, Int.reduceLT, Int.reduceLE, Int.reduceMul, Int.reduceAdd, Int.reduceSub, reduceIte, Nat.reduceLeDiff, Nat.reduceLT, Nat.reduceMul, Nat.reduceSub, Int.reduceToNat, s9, Tryd.underlying26, Tryd.underlying67, fo72_0, sh70, Tryd.underlying70, Tryd.underlying3, zc69, sd69, pl69_0, pl69_1, pl69_2, pl69_5, fo69_4, sz3, fo69_3, sh55, zc59, sd59, pl59_0, pl59_1, pl59_2, sl55, ze59, by59, sz59, Tryd.underlying55, sz55, t1, qm, List.size_toArray]
  refine FnK.val (free_c2 R1) ?_
  simp -implicitDefEqProofs (disch := first | omega | (simp only [h_szP, h_szS]; done) | (simp only [h_szP, h_szS]; omega)) only [go_sem, Nat.reduceBEq, reduceCtorEq, Nat.reduceAdd, Int.reduceEq, Int.reduceLT, Int.reduceLE, Int.reduceMul, Int.reduceAdd, Int.reduceSub, reduceIte, Nat.reduceLeDiff, Nat.reduceLT, Nat.reduceMul, Nat.reduceSub, Int.reduceToNat, s9, Tryd.underlying26, Tryd.underlying67, fo72_0, sh70, Tryd.underlying70, Tryd.underlying3, zc69, sd69, pl69_0, pl69_1, pl69_2, pl69_5, fo69_4, sz3, fo69_3, sh55, zc59, sd59, pl59_0, pl59_1, pl59_2, sl55, ze59, by59, sz59, Tryd.underlying55, sz55, t1]
  refine FnK.use (clone2_c (Vs.nil _) (by simp)) ?_
  intro y h2 ⟨S2, K2, e2⟩
  have e2 := e2 rfl
  have R2 := R1.ext K2
  have t2 := R2.t
  have f2 := R2.f
  have lt' := getElem?_lt t2
  have lf := getElem?_lt f2
  have lq' := getElem?_lt R2.q
  rw [e2]
  simp -implicitDefEqProofs (disch := first | omega | (simp only [h_szP, h_szS]; done) | (simp only [h_szP, h_szS]; omega)) only [go_sem, Nat.reduceBEq, reduceCtorEq, Nat.reduceAdd, Int.reduceEq, Int.reduceLT, Int.reduceLE, Int.reduceMul, Int.reduceAdd, Int.reduceSub, reduceIte, Nat.reduceLeDiff, Nat.reduceLT, Nat.reduceMul, Nat.reduceSub, Int.reduceToNat, s9, Tryd.underlying26, Tryd.underlying67, fo72_0, sh70, Tryd.underlying70, Tryd.underlying3, zc69, sd69, pl69_0, pl69_1, pl69_2, pl69_5, fo69_4, sz3, fo69_3, sh55, zc59, sd59, pl59_0, pl59_1, pl59_2, sl55, ze59, by59, sz59, Tryd.underlying55, sz55, t2]
  have hq3 : (h2.push (.cells #[.int .i64 1, .int .i64 0, .slice none 0 0, .slice none 0 0, .int .i64 0, .int .i64 1, .int .i64 0] 69))[q]? = some (mpO [(1, ptr f 0, 0)] 1) := by rw [h_pushL _ _ _ lq']; exact R2.q
  refine mup_none Tryd.underlying70 Tryd.underlying3 hq3 (fun x hx => by simp at hx; rw [hx]; show (1 : Int) ≠ 2; omega) (2, ptr h2.size 0, 1) rfl ?_
  obtain ⟨h3, e3⟩ : ∃ h3, h3 = (h2.push (.cells #[.int .i64 1, .int .i64 0, .slice none 0 0, .slice none 0 0, .int .i64 0, .int .i64 1, .int .i64 0] 69)).setIfInBounds q (.map (entA .i64 (fun x : Int × Value × Nat => x.1) (fun x => x.2.1) (fun x => x.2.2) ([(1, ptr f 0, 0)] ++ [(2, ptr h2.size 0, 1)])) (1 + 1)) := ⟨_, rfl⟩
  rw [← e3]
  have sz3 : h3.size = h2.size + 1 := by rw [e3]; simp
  have o3 : ∀ b, b < h2.size → b ≠ q → h3[b]? = h2[b]? := fun b hb n => by rw [e3, h_setN _ _ _ _ n, h_pushL _ _ _ hb]
  have q3 : h3[q]? = some (mpO [(1, ptr f 0, 0), (2, ptr h2.size 0, 1)] 2) := by rw [e3, h_setS _ _ _ (by simp; omega)]; rfl
  have y3 : h3[h2.size]? = some (.cells #[.int .i64 1, .int .i64 0, .slice none 0 0, .slice none 0 0, .int .i64 0, .int .i64 1, .int .i64 0] 69 (0, 0)) := by rw [e3, h_setN _ _ _ _ (by omega)]; exact h_pushE _ _ _ rfl
  have nfq : f ≠ q := fun e => by have := R2.q; rw [← e, f2] at this; simp [mpO] at this
  have ntq : t ≠ q := fun e => by have := R2.q; rw [← e, t2] at this; simp [mpO] at this
  have ntf : t ≠ f := fun e => by rw [e, f2] at t2; simp at t2
  have f3 := o3 f lf nfq
  rw [f2] at f3
  have t3 := o3 t lt' ntq
  rw [t2] at t3
  have l3 : f < h3.size := by omega
  simp -implicitDefEqProofs (disch := first | omega | (simp only [h_szP, h_szS]; done) | (simp only [h_szP, h_szS]; omega)) only [go_sem, Nat.reduceBEq, reduceCtorEq, Nat.reduceAdd, Int.reduceEq, Int.reduceLT, Int.reduceLE, Int.reduceMul, Int.reduceAdd, Int.reduceSub, reduceIte, Nat.reduceLeDiff, Nat.reduceLT, Nat.reduceMul, Nat.reduceSub, Int.reduceToNat, s9, Tryd.underlying26, Tryd.underlying67, fo72_0, sh70, Tryd.underlying70, Tryd.underlying3, zc69, sd69, pl69_0, pl69_1, pl69_2, pl69_5, fo69_4, sz3, fo69_3, sh55, zc59, sd59, pl59_0, pl59_1, pl59_2, sl55, ze59, by59, sz59, Tryd.underlying55, sz55, f3]
  refine app_push (lo := h3.size) ((⟨#[102]⟩ : ByteArray), 2, 1) elEn encEn_len (Ss.nil h3 h3.size 59) (by omega) rfl rfl (by simp) (Nat.le_refl _) ?_
  intro v' h4 S' K' F' B'
  obtain ⟨a', c', e', _⟩ := S'.vs.shape
  have f4 := K'.at f3 l3
  have l4 := getElem?_lt f4
  have t4 := K'.at t3 (by omega)
  have q4 := K'.at q3 (by omega)
  have y4 := K'.at y3 (by omega)
  have s1 := K1.size
  have s2 := K2.size
  have s4 := K'.size
  rw [e']
  simp -implicitDefEqProofs (disch := first | omega | (simp only [h_szP, h_szS]; done) | (simp only [h_szP, h_szS]; omega)) only [go_sem, Nat.reduceBEq, reduceCtorEq, Nat.reduceAdd, Int.reduceEq, Int.reduceLT, Int.reduceLE, Int.reduceMul, Int.reduceAdd, Int.reduceSub, reduceIte, Nat.reduceLeDiff, Nat.reduceLT, Nat.reduceMul, Nat.reduceSub, Int.reduceToNat, s9, Tryd.underlying26, Tryd.underlying67, fo72_0, sh70, Tryd.underlying70, Tryd.underlying3, zc69, sd69, pl69_0, pl69_1, pl69_2, pl69_5, fo69_4, sz3, fo69_3, sh55, zc59, sd59, pl59_0, pl59_1, pl59_2, sl55, ze59, by59, sz59, Tryd.underlying55, sz55, f4]
  refine ⟨⟨h2.size, ⟨?_, ?_, ?_, Ss.nil _ _ _, lt, lq, by omega⟩⟩, by omega, fun b hb p1 p2 => ?_⟩
  · rw [h_setN _ _ _ _ ntf]; exact t4
  · rw [h_setN _ _ _ _ (Ne.symm nfq)]; exact q4
  · rw [h_setN _ _ _ _ (by omega)]; exact y4
  · rw [h_setN _ _ _ _ p2, K'.old b (by omega), o3 b (by omega) p1, K2.old b (by omega), K1.old b hb]
end Go.SX.G
