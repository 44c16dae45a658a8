/- AtomDoes: the walk. No condition. -/
import Derived.Test.YtcnalkdgdbhedaaRefA
set_option linter.unusedVariables false
set_option linter.unusedSimpArgs false
namespace Go.SX.G
open Go Go.SX Go.Proofs
set_option maxRecDepth 100000
set_option maxHeartbeats 1000000
theorem do_all (op : Int) (A X : BitVec 64) (h : Heap) : ∃ o : Option (BitVec 64), (Fn Try.prog 11 [.int .i64 op, U A, U X] h fun v h' => v = told o ∧ h' = h) ∧ ∀ h1 : Heap, Fn Try.prog 12 [.int .i64 op, U A, U X] h1 fun v h' => v = told o ∧ Keeps h1.size h1 h' := by
  by_cases h4 : 63 ≤ op ∧ op ≤ 73
  · exact ⟨_, do_4 op h4.1 h4.2 A X h, amo4_c op h4.1 h4.2 A X⟩
  · by_cases h8 : 74 ≤ op ∧ op ≤ 84
    · exact ⟨_, do_8 op h8.1 h8.2 A X h, amo8_c op h8.1 h8.2 A X⟩
    · exact ⟨none, do_0 op (by omega) _ _ h, fun h1 => (amo0_c op (by omega) _ _ h1).mono fun v h' e => ⟨e.1, by rw [e.2]; exact Keeps.refl _ _⟩⟩
theorem does_c (op : Int) (A X : BitVec 64) (h : Heap) : Fn Try.prog 3 [.int .i64 op, U A, U X] h fun v h' => v = .bool true ∧ ∀ b, b < h.size → h'[b]? = h[b]? := by
  obtain ⟨o, hd, ha⟩ := do_all op A X h
  refine Fn_c Try.func3 mixed c3 (by kernel_rfl) ?_; rw [r3]
  simp -implicitDefEqProofs (disch := first | omega | (simp only [h_szP, h_szS]; done) | (simp only [h_szP, h_szS]; omega)) only [go_sem, Nat.reduceBEq, reduceCtorEq, Nat.reduceAdd, Int.reduceEq, Int.reduceLT, Int.reduceLE, Int.reduceMul, Int.reduceAdd, Int.reduceSub, reduceIte, Nat.reduceLeDiff, Nat.reduceLT, Nat.reduceMul, Nat.reduceSub, Int.reduceToNat, s3, Try.underlying22, Try.underlying4, Try.underlying3]
  refine FnK.val hd ?_
  cases o with
  | none =>
    rw [told_none]
    simp -implicitDefEqProofs (disch := first | omega | (simp only [h_szP, h_szS]; done) | (simp only [h_szP, h_szS]; omega)) only [go_sem, Nat.reduceBEq, reduceCtorEq, Nat.reduceAdd, Int.reduceEq, Int.reduceLT, Int.reduceLE, Int.reduceMul, Int.reduceAdd, Int.reduceSub, reduceIte, Nat.reduceLeDiff, Nat.reduceLT, Nat.reduceMul, Nat.reduceSub, Int.reduceToNat, s3, Try.underlying22, Try.underlying4, Try.underlying3]
    refine FnK.use (ha _) ?_
    intro v h1 hp
    obtain ⟨e, k⟩ := hp
    rw [e, told_none]
    simp -implicitDefEqProofs (disch := first | omega | (simp only [h_szP, h_szS]; done) | (simp only [h_szP, h_szS]; omega)) only [go_sem, Nat.reduceBEq, reduceCtorEq, Nat.reduceAdd, Int.reduceEq, Int.reduceLT, Int.reduceLE, Int.reduceMul, Int.reduceAdd, Int.reduceSub, reduceIte, Nat.reduceLeDiff, Nat.reduceLT, Nat.reduceMul, Nat.reduceSub, Int.reduceToNat, s3, Try.underlying22, Try.underlying4, Try.underlying3]
    refine FnK.val (answers_c _) ?_
    simp -implicitDefEqProofs (disch := first | omega | (simp only [h_szP, h_szS]; done) | (simp only [h_szP, h_szS]; omega)) only [go_sem, Nat.reduceBEq, reduceCtorEq, Nat.reduceAdd, Int.reduceEq, Int.reduceLT, Int.reduceLE, Int.reduceMul, Int.reduceAdd, Int.reduceSub, reduceIte, Nat.reduceLeDiff, Nat.reduceLT, Nat.reduceMul, Nat.reduceSub, Int.reduceToNat, s3, Try.underlying22, Try.underlying4, Try.underlying3]
    refine FnK.val (width_c op _) ?_
    simp -implicitDefEqProofs (disch := first | omega | (simp only [h_szP, h_szS]; done) | (simp only [h_szP, h_szS]; omega)) only [go_sem, Nat.reduceBEq, reduceCtorEq, Nat.reduceAdd, Int.reduceEq, Int.reduceLT, Int.reduceLE, Int.reduceMul, Int.reduceAdd, Int.reduceSub, reduceIte, Nat.reduceLeDiff, Nat.reduceLT, Nat.reduceMul, Nat.reduceSub, Int.reduceToNat, s3, Try.underlying22, Try.underlying4, Try.underlying3]
    refine FnK.val (rwidth_c op _) ?_
    simp -implicitDefEqProofs (disch := first | omega | (simp only [h_szP, h_szS]; done) | (simp only [h_szP, h_szS]; omega)) only [go_sem, Nat.reduceBEq, reduceCtorEq, Nat.reduceAdd, Int.reduceEq, Int.reduceLT, Int.reduceLE, Int.reduceMul, Int.reduceAdd, Int.reduceSub, reduceIte, Nat.reduceLeDiff, Nat.reduceLT, Nat.reduceMul, Nat.reduceSub, Int.reduceToNat, s3, Try.underlying22, Try.underlying4, Try.underlying3]
    exact k.old
  | some r =>
    rw [told_some]
    simp -implicitDefEqProofs (disch := first | omega | (simp only [h_szP, h_szS]; done) | (simp only [h_szP, h_szS]; omega)) only [go_sem, Nat.reduceBEq, reduceCtorEq, Nat.reduceAdd, Int.reduceEq, Int.reduceLT, Int.reduceLE, Int.reduceMul, Int.reduceAdd, Int.reduceSub, reduceIte, Nat.reduceLeDiff, Nat.reduceLT, Nat.reduceMul, Nat.reduceSub, Int.reduceToNat, s3, Try.underlying22, Try.underlying4, Try.underlying3]
    refine FnK.use (ha _) ?_
    intro v h1 hp
    obtain ⟨e, k⟩ := hp
    rw [e, told_some]
    simp -implicitDefEqProofs (disch := first | omega | (simp only [h_szP, h_szS]; done) | (simp only [h_szP, h_szS]; omega)) only [go_sem, Nat.reduceBEq, reduceCtorEq, Nat.reduceAdd, Int.reduceEq, Int.reduceLT, Int.reduceLE, Int.reduceMul, Int.reduceAdd, Int.reduceSub, reduceIte, Nat.reduceLeDiff, Nat.reduceLT, Nat.reduceMul, Nat.reduceSub, Int.reduceToNat, s3, Try.underlying22, Try.underlying4, Try.underlying3]
    refine FnK.val (answers_c _) ?_
    simp -implicitDefEqProofs (disch := first | omega | (simp only [h_szP, h_szS]; done) | (simp only [h_szP, h_szS]; omega)) only [go_sem, Nat.reduceBEq, reduceCtorEq, Nat.reduceAdd, Int.reduceEq, Int.reduceLT, Int.reduceLE, Int.reduceMul, Int.reduceAdd, Int.reduceSub, reduceIte, Nat.reduceLeDiff, Nat.reduceLT, Nat.reduceMul, Nat.reduceSub, Int.reduceToNat, s3, Try.underlying22, Try.underlying4, Try.underlying3]
    refine FnK.val (width_c op _) ?_
    simp -implicitDefEqProofs (disch := first | omega | (simp only [h_szP, h_szS]; done) | (simp only [h_szP, h_szS]; omega)) only [go_sem, Nat.reduceBEq, reduceCtorEq, Nat.reduceAdd, Int.reduceEq, Int.reduceLT, Int.reduceLE, Int.reduceMul, Int.reduceAdd, Int.reduceSub, reduceIte, Nat.reduceLeDiff, Nat.reduceLT, Nat.reduceMul, Nat.reduceSub, Int.reduceToNat, s3, Try.underlying22, Try.underlying4, Try.underlying3]
    refine FnK.val (rwidth_c op _) ?_
    simp -implicitDefEqProofs (disch := first | omega | (simp only [h_szP, h_szS]; done) | (simp only [h_szP, h_szS]; omega)) only [go_sem, Nat.reduceBEq, reduceCtorEq, Nat.reduceAdd, Int.reduceEq, Int.reduceLT, Int.reduceLE, Int.reduceMul, Int.reduceAdd, Int.reduceSub, reduceIte, Nat.reduceLeDiff, Nat.reduceLT, Nat.reduceMul, Nat.reduceSub, Int.reduceToNat, s3, Try.underlying22, Try.underlying4, Try.underlying3]
    exact k.old
end Go.SX.G
