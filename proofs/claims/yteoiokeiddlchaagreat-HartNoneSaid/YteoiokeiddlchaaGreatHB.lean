/- An instruction is fetched: the place's bits; c.li is decoded. No condition but on sizes. -/
import Derived.Test.YteoiokeiddlchaaGreatMemH
set_option linter.unusedVariables false
set_option linter.unusedSimpArgs false
namespace Go.SX.G
open Go Go.SX Go.Proofs
set_option maxRecDepth 100000
set_option maxHeartbeats 2000000
theorem FirstN.same9 {rs : List Reg} {a n p : Nat} {o o' : Option Nat} (x : FirstN rs a n p o) (y : FirstN rs a n p o') : o = o' := by
  cases x with
  | none h =>
    cases y with
    | none h' => rfl
    | some i hi h1 h' => exact absurd (h i hi) h1
  | some i hi h1 h =>
    cases y with
    | none h' => exact absurd (h' i hi) h1
    | some j hj h2 h' =>
      by_cases e : i = j
      · rw [e]
      · exfalso
        rcases Nat.lt_or_gt_of_ne e with q | q
        · exact h1 (h' i q)
        · exact h2 (h j q)
theorem half_c {h : Heap} {s : Nat} {M : MemD} (a w : Nat) (r : MR h s M) (ha : a < 18446744073709551616) (F : FirstN M.rs a 2 4 none) (hw : le (peekL M a 2) = w) (hw3 : w < 4294967296) :
    Fn Tryz.prog 69 [ptr s 0, .int .u64 a] h fun x h' => x = .tuple #[.int .u32 w, .agg #[.int .i64 0, .int .u64 0]] ∧ Keeps h.size h h' := by
  have K0 : ∀ o, Keeps h.size h (h.push o) := fun o => Keeps.push h o (Nat.le_refl _)
  refine Fn_c Tryz.func69 mixed c69 (by kernel_rfl) ?_; rw [r69]
  simp -implicitDefEqProofs (disch := first | omega | (simp only [h_szP, h_szS]; done) | (simp only [h_szP, h_szS]; omega)) only [go_sem, Nat.reduceBEq, reduceCtorEq, Nat.reduceAdd, Int.reduceEq, Int.reduceLT, Int.reduceLE, Int.reduceMul, Int.reduceAdd, Int.reduceSub, reduceIte, Nat.reduceLeDiff, Nat.reduceLT, Nat.reduceMul, Nat.reduceSub, Int.reduceToNat, s69, zc31, sd31, pl31_0, pl31_1, sz31, fo73_1, sh70, Tryz.underlying22, Tryz.underlying121, sh31]
  refine FnK.use (mfirst_c a 2 4 (r.ext (K0 _)) ha (by omega) (by omega)) ?_
  intro x h1 ⟨o, e1, F2, K1⟩
  obtain rfl := FirstN.same9 F2 F
  have K2 := (K0 _).of_ext K1 (Nat.le_refl _)
  have hb : h1[h.size]? = some (.cells #[.int .i64 0, .int .u64 0] 31 (0, 0)) := by rw [K1.old _ (by simp)]; simp -implicitDefEqProofs (disch := first | omega | (simp only [h_szP, h_szS]; done) | (simp only [h_szP, h_szS]; omega)) only [go_sem, Nat.reduceBEq, reduceCtorEq, Nat.reduceAdd, Int.reduceEq, Int.reduceLT, Int.reduceLE, Int.reduceMul, Int.reduceAdd, Int.reduceSub, reduceIte, Nat.reduceLeDiff, Nat.reduceLT, Nat.reduceMul, Nat.reduceSub, Int.reduceToNat]
  have hb2 := getElem?_lt hb
  rw [e1, placeV_none]
  have R1 := r.ext K2
  have ht1 := R1.top
  simp -implicitDefEqProofs (disch := first | omega | (simp only [h_szP, h_szS]; done) | (simp only [h_szP, h_szS]; omega)) only [go_sem, Nat.reduceBEq, reduceCtorEq, Nat.reduceAdd, Int.reduceEq, Int.reduceLT, Int.reduceLE, Int.reduceMul, Int.reduceAdd, Int.reduceSub, reduceIte, Nat.reduceLeDiff, Nat.reduceLT, Nat.reduceMul, Nat.reduceSub, Int.reduceToNat, s69, zc31, sd31, pl31_0, pl31_1, sz31, fo73_1, sh70, Tryz.underlying22, Tryz.underlying121, sh31, hb, ht1]
  refine FnK.use (read_c a 2 R1.sr ha (by omega) (by omega)) ?_
  intro v2 h2 ⟨S2, K3⟩
  rw [peekL_get] at S2
  simp -implicitDefEqProofs (disch := first | omega | (simp only [h_szP, h_szS]; done) | (simp only [h_szP, h_szS]; omega)) only [go_sem, Nat.reduceBEq, reduceCtorEq, Nat.reduceAdd, Int.reduceEq, Int.reduceLT, Int.reduceLE, Int.reduceMul, Int.reduceAdd, Int.reduceSub, reduceIte, Nat.reduceLeDiff, Nat.reduceLT, Nat.reduceMul, Nat.reduceSub, Int.reduceToNat, s69, zc31, sd31, pl31_0, pl31_1, sz31, fo73_1, sh70, Tryz.underlying22, Tryz.underlying121, sh31]
  refine FnK.val (wget_c 2 (by omega) (by omega) S2.vs (peekL_len _ _ _) (fun b hb => ?_)) ?_
  · simp only [peekL, List.mem_map] at hb
    obtain ⟨i, _, rfl⟩ := hb
    exact byteAt_lt r.sr _
  have hb3 := K3.at hb hb2
  have hb4 := getElem?_lt hb3
  have hw2 : IntKind.u32.wrap ((le (peekL M a 2) : Nat) : Int) = (w : Int) := by
    rw [hw]
    have : w < 4294967296 := hw3
    simp [IntKind.wrap, IntKind.signed, IntKind.bits]
    omega
  simp -implicitDefEqProofs (disch := first | omega | (simp only [h_szP, h_szS]; done) | (simp only [h_szP, h_szS]; omega)) only [go_sem, Nat.reduceBEq, reduceCtorEq, Nat.reduceAdd, Int.reduceEq, Int.reduceLT, Int.reduceLE, Int.reduceMul, Int.reduceAdd, Int.reduceSub, reduceIte, Nat.reduceLeDiff, Nat.reduceLT, Nat.reduceMul, Nat.reduceSub, Int.reduceToNat, s69, zc31, sd31, pl31_0, pl31_1, sz31, fo73_1, sh70, Tryz.underlying22, Tryz.underlying121, sh31, hb3, hw2]
  exact (K2.of_ext K3 (Nat.le_refl _)).set' (Nat.le_refl _)
theorem fetch_c {h : Heap} {s : Nat} {M : MemD} (a : Nat) (r : MR h s M) (ha : a < 18446744073709551616) (ha2 : a % 2 = 0) (F : FirstN M.rs a 2 4 none) (hw : le (peekL M a 2) = 17669) :
    Fn Tryz.prog 50 [ptr s 0, .int .u64 a] h fun x h' => x = .tuple #[.int .u32 17669, .agg #[.int .i64 0, .int .u64 0]] ∧ Keeps h.size h h' := by
  have a3 : bitI .and .u32 17669 3 = 1 := by decide
  have d1 : ((a : Int) % 2) = 0 := by omega
  refine Fn_c Tryz.func50 mixed c50 (by kernel_rfl) ?_; rw [r50]
  have K0 : ∀ o, Keeps h.size h (h.push o) := fun o => Keeps.push h o (Nat.le_refl _)
  simp -implicitDefEqProofs (disch := first | omega | (simp only [h_szP, h_szS]; done) | (simp only [h_szP, h_szS]; omega)) only [go_sem, Nat.reduceBEq, reduceCtorEq, Nat.reduceAdd, Int.reduceEq, Int.reduceLT, Int.reduceLE, Int.reduceMul, Int.reduceAdd, Int.reduceSub, reduceIte, Nat.reduceLeDiff, Nat.reduceLT, Nat.reduceMul, Nat.reduceSub, Int.reduceToNat, s50, zc31, Tryz.underlying42, Tryz.underlying22, sd31, pl31_0, pl31_1, sz31, fo31_0, sh3, Tryz.underlying3, Tryz.underlying121, sh31, d1]
  refine FnK.use (half_c a 17669 (r.ext (K0 _)) ha F hw (by omega)) ?_
  intro x h1 ⟨e1, K1⟩
  have K2 := (K0 _).of_ext K1 (Nat.le_refl _)
  have hb : h1[h.size]? = some (.cells #[.int .i64 0, .int .u64 0] 31 (0, 0)) := by rw [K1.old _ (by simp)]; simp -implicitDefEqProofs (disch := first | omega | (simp only [h_szP, h_szS]; done) | (simp only [h_szP, h_szS]; omega)) only [go_sem, Nat.reduceBEq, reduceCtorEq, Nat.reduceAdd, Int.reduceEq, Int.reduceLT, Int.reduceLE, Int.reduceMul, Int.reduceAdd, Int.reduceSub, reduceIte, Nat.reduceLeDiff, Nat.reduceLT, Nat.reduceMul, Nat.reduceSub, Int.reduceToNat]
  have hb2 := getElem?_lt hb
  rw [e1]
  simp -implicitDefEqProofs (disch := first | omega | (simp only [h_szP, h_szS]; done) | (simp only [h_szP, h_szS]; omega)) only [go_sem, Nat.reduceBEq, reduceCtorEq, Nat.reduceAdd, Int.reduceEq, Int.reduceLT, Int.reduceLE, Int.reduceMul, Int.reduceAdd, Int.reduceSub, reduceIte, Nat.reduceLeDiff, Nat.reduceLT, Nat.reduceMul, Nat.reduceSub, Int.reduceToNat, s50, zc31, Tryz.underlying42, Tryz.underlying22, sd31, pl31_0, pl31_1, sz31, fo31_0, sh3, Tryz.underlying3, Tryz.underlying121, sh31, hb, a3]
  exact (K2.set' (Nat.le_refl _)).push' (Nat.le_refl _)
end Go.SX.G
