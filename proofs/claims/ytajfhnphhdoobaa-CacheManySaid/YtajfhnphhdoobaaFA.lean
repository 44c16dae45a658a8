/- An instruction is fetched from a space: its bits, or the place that may not be done. No condition but on sizes. -/
import Derived.Test.YtajfhnphhdoobaaMemH
import Derived.Test.YtajfhnphhdoobaaCachePlain
set_option linter.unusedVariables false
set_option linter.unusedSimpArgs false
namespace Go.SX.G
open Go Go.SX Go.Proofs
set_option maxRecDepth 100000
set_option maxHeartbeats 2000000
theorem half_none {h : Heap} {s : Nat} {M : MemD} (a : Nat) (r : MR h s M) (ha : a < 18446744073709551616) (F : firstF M.rs a 2 4 = none) :
    Fn Try.prog 75 [ptr s 0, .int .u64 a] h fun x h' => x = .tuple #[.int .u32 ((memAt M a + 256 * memAt M (a + 1) : Nat) : Int), .agg #[.int .i64 0, .int .u64 0]] ∧ Keeps h.size h h' := by
  have K0 : ∀ o, Keeps h.size h (h.push o) := fun o => Keeps.push h o (Nat.le_refl _)
  have b0 : memAt M a < 256 := byteAt_lt r.sr a
  have b1 : memAt M (a + 1) < 256 := byteAt_lt r.sr (a + 1)
  refine Fn_c Try.func75 mixed c75 (by kernel_rfl) ?_; rw [r75]
  simp -implicitDefEqProofs (disch := first | omega | (simp only [h_szP, h_szS]; done) | (simp only [h_szP, h_szS]; omega)) only [go_sem, Nat.reduceBEq, reduceCtorEq, Nat.reduceAdd, Int.reduceEq, Int.reduceLT, Int.reduceLE, Int.reduceMul, Int.reduceAdd, Int.reduceSub, reduceIte, Nat.reduceLeDiff, Nat.reduceLT, Nat.reduceMul, Nat.reduceSub, Int.reduceToNat, s75, zc36, sd36, pl36_0, pl36_1, sz36, fo78_1, sh75, Try.underlying26, Try.underlying133, sh36]
  refine FnK.use (mfirst_c a 2 4 (r.ext (K0 _)) ha (by omega) (by omega)) ?_
  intro x h1 ⟨o, e1, F2, K1⟩
  have F3 := F2.eqF
  rw [F] at F3
  subst F3
  have K2 := (K0 _).of_ext K1 (Nat.le_refl _)
  have hb : h1[h.size]? = some (.cells #[.int .i64 0, .int .u64 0] 36 (0, 0)) := by rw [K1.old _ (by simp)]; simp -implicitDefEqProofs (disch := first | omega | (simp only [h_szP, h_szS]; done) | (simp only [h_szP, h_szS]; omega)) only [go_sem, Nat.reduceBEq, reduceCtorEq, Nat.reduceAdd, Int.reduceEq, Int.reduceLT, Int.reduceLE, Int.reduceMul, Int.reduceAdd, Int.reduceSub, reduceIte, Nat.reduceLeDiff, Nat.reduceLT, Nat.reduceMul, Nat.reduceSub, Int.reduceToNat]
  have hb2 := getElem?_lt hb
  rw [e1, placeV_none]
  have R1 := r.ext K2
  have ht1 := R1.top
  simp -implicitDefEqProofs (disch := first | omega | (simp only [h_szP, h_szS]; done) | (simp only [h_szP, h_szS]; omega)) only [go_sem, Nat.reduceBEq, reduceCtorEq, Nat.reduceAdd, Int.reduceEq, Int.reduceLT, Int.reduceLE, Int.reduceMul, Int.reduceAdd, Int.reduceSub, reduceIte, Nat.reduceLeDiff, Nat.reduceLT, Nat.reduceMul, Nat.reduceSub, Int.reduceToNat, s75, zc36, sd36, pl36_0, pl36_1, sz36, fo78_1, sh75, Try.underlying26, Try.underlying133, sh36, hb, ht1]
  refine FnK.use (read_c a 2 R1.sr ha (by omega) (by omega)) ?_
  intro v2 h2 ⟨S2, K3⟩
  rw [peekL_get] at S2
  simp -implicitDefEqProofs (disch := first | omega | (simp only [h_szP, h_szS]; done) | (simp only [h_szP, h_szS]; omega)) only [go_sem, Nat.reduceBEq, reduceCtorEq, Nat.reduceAdd, Int.reduceEq, Int.reduceLT, Int.reduceLE, Int.reduceMul, Int.reduceAdd, Int.reduceSub, reduceIte, Nat.reduceLeDiff, Nat.reduceLT, Nat.reduceMul, Nat.reduceSub, Int.reduceToNat, s75, zc36, sd36, pl36_0, pl36_1, sz36, fo78_1, sh75, Try.underlying26, Try.underlying133, sh36]
  refine FnK.val (wget_c 2 (by omega) (by omega) S2.vs (peekL_len _ _ _) (fun b hb => ?_)) ?_
  · simp only [peekL, List.mem_map] at hb
    obtain ⟨i, _, rfl⟩ := hb
    exact byteAt_lt r.sr _
  have hb3 := K3.at hb hb2
  have hb4 := getElem?_lt hb3
  have hw2 : IntKind.u32.wrap ((le (peekL M a 2) : Nat) : Int) = ((memAt M a + 256 * memAt M (a + 1) : Nat) : Int) := by
    rw [le_two, nat_wrap32 _ (by omega)]
  simp -implicitDefEqProofs (disch := first | omega | (simp only [h_szP, h_szS]; done) | (simp only [h_szP, h_szS]; omega)) only [go_sem, Nat.reduceBEq, reduceCtorEq, Nat.reduceAdd, Int.reduceEq, Int.reduceLT, Int.reduceLE, Int.reduceMul, Int.reduceAdd, Int.reduceSub, reduceIte, Nat.reduceLeDiff, Nat.reduceLT, Nat.reduceMul, Nat.reduceSub, Int.reduceToNat, s75, zc36, sd36, pl36_0, pl36_1, sz36, fo78_1, sh75, Try.underlying26, Try.underlying133, sh36, hb3, hw2]
  exact (K2.of_ext K3 (Nat.le_refl _)).set' (Nat.le_refl _)
theorem half_some {h : Heap} {s : Nat} {M : MemD} (a b : Nat) (r : MR h s M) (ha : a < 18446744073709551616) (F : firstF M.rs a 2 4 = some b) :
    Fn Try.prog 75 [ptr s 0, .int .u64 a] h fun x h' => x = .tuple #[.int .u32 0, .agg #[.int .i64 3, .int .u64 b]] ∧ Keeps h.size h h' := by
  have K0 : ∀ o, Keeps h.size h (h.push o) := fun o => Keeps.push h o (Nat.le_refl _)
  refine Fn_c Try.func75 mixed c75 (by kernel_rfl) ?_; rw [r75]
  simp -implicitDefEqProofs (disch := first | omega | (simp only [h_szP, h_szS]; done) | (simp only [h_szP, h_szS]; omega)) only [go_sem, Nat.reduceBEq, reduceCtorEq, Nat.reduceAdd, Int.reduceEq, Int.reduceLT, Int.reduceLE, Int.reduceMul, Int.reduceAdd, Int.reduceSub, reduceIte, Nat.reduceLeDiff, Nat.reduceLT, Nat.reduceMul, Nat.reduceSub, Int.reduceToNat, s75, zc36, sd36, pl36_0, pl36_1, sz36, fo78_1, sh75, Try.underlying26, Try.underlying133, sh36]
  refine FnK.use (mfirst_c a 2 4 (r.ext (K0 _)) ha (by omega) (by omega)) ?_
  intro x h1 ⟨o, e1, F2, K1⟩
  have F3 := F2.eqF
  rw [F] at F3
  subst F3
  have K2 := (K0 _).of_ext K1 (Nat.le_refl _)
  have hb : h1[h.size]? = some (.cells #[.int .i64 0, .int .u64 0] 36 (0, 0)) := by rw [K1.old _ (by simp)]; simp -implicitDefEqProofs (disch := first | omega | (simp only [h_szP, h_szS]; done) | (simp only [h_szP, h_szS]; omega)) only [go_sem, Nat.reduceBEq, reduceCtorEq, Nat.reduceAdd, Int.reduceEq, Int.reduceLT, Int.reduceLE, Int.reduceMul, Int.reduceAdd, Int.reduceSub, reduceIte, Nat.reduceLeDiff, Nat.reduceLT, Nat.reduceMul, Nat.reduceSub, Int.reduceToNat]
  have hb2 := getElem?_lt hb
  rw [e1, placeV_some]
  simp -implicitDefEqProofs (disch := first | omega | (simp only [h_szP, h_szS]; done) | (simp only [h_szP, h_szS]; omega)) only [go_sem, Nat.reduceBEq, reduceCtorEq, Nat.reduceAdd, Int.reduceEq, Int.reduceLT, Int.reduceLE, Int.reduceMul, Int.reduceAdd, Int.reduceSub, reduceIte, Nat.reduceLeDiff, Nat.reduceLT, Nat.reduceMul, Nat.reduceSub, Int.reduceToNat, s75, zc36, sd36, pl36_0, pl36_1, sz36, fo78_1, sh75, Try.underlying26, Try.underlying133, sh36, hb]
  exact K2.set' (Nat.le_refl _)
/-- what 'Fetch' answers. -/
def fetchV : Nat × Option Nat → Value
  | (_, some b) => .tuple #[.int .u32 0, .agg #[.int .i64 3, .int .u64 b]]
  | (w, none) => .tuple #[.int .u32 w, .agg #[.int .i64 0, .int .u64 0]]
theorem mfetch_c {h : Heap} {s : Nat} {M : MemD} (a : Nat) (r : MR h s M) (ha : a < 18446744073709551616) :
    Fn Try.prog 57 [ptr s 0, .int .u64 a] h fun x h' => x = fetchV (fetchF M.rs (memAt M) a) ∧ Keeps h.size h h' := by
  have K0 : ∀ o, Keeps h.size h (h.push o) := fun o => Keeps.push h o (Nat.le_refl _)
  unfold fetchF
  by_cases q0 : a % 2 = 0
  · have d0 : ((a : Int) % 2) = 0 := by omega
    rw [if_neg (by omega)]
    cases F : firstF M.rs a 2 4 with
    | some b =>
      simp only []
      refine Fn_c Try.func57 mixed c57 (by kernel_rfl) ?_; rw [r57]
      simp -implicitDefEqProofs (disch := first | omega | (simp only [h_szP, h_szS]; done) | (simp only [h_szP, h_szS]; omega)) only [go_sem, Nat.reduceBEq, reduceCtorEq, Nat.reduceAdd, Int.reduceEq, Int.reduceLT, Int.reduceLE, Int.reduceMul, Int.reduceAdd, Int.reduceSub, reduceIte, Nat.reduceLeDiff, Nat.reduceLT, Nat.reduceMul, Nat.reduceSub, Int.reduceToNat, s57, zc36, Try.underlying23, Try.underlying26, sd36, pl36_0, pl36_1, sz36, fo36_0, sh3, Try.underlying3, Try.underlying133, sh36, d0]
      refine FnK.use (half_some a b (r.ext (K0 _)) ha F) ?_
      intro x h1 ⟨e1, K1⟩
      have K2 := (K0 _).of_ext K1 (Nat.le_refl _)
      have hb : h1[h.size]? = some (.cells #[.int .i64 0, .int .u64 0] 36 (0, 0)) := by rw [K1.old _ (by simp)]; simp -implicitDefEqProofs (disch := first | omega | (simp only [h_szP, h_szS]; done) | (simp only [h_szP, h_szS]; omega)) only [go_sem, Nat.reduceBEq, reduceCtorEq, Nat.reduceAdd, Int.reduceEq, Int.reduceLT, Int.reduceLE, Int.reduceMul, Int.reduceAdd, Int.reduceSub, reduceIte, Nat.reduceLeDiff, Nat.reduceLT, Nat.reduceMul, Nat.reduceSub, Int.reduceToNat]
      have hb2 := getElem?_lt hb
      rw [e1]
      simp -implicitDefEqProofs (disch := first | omega | (simp only [h_szP, h_szS]; done) | (simp only [h_szP, h_szS]; omega)) only [go_sem, Nat.reduceBEq, reduceCtorEq, Nat.reduceAdd, Int.reduceEq, Int.reduceLT, Int.reduceLE, Int.reduceMul, Int.reduceAdd, Int.reduceSub, reduceIte, Nat.reduceLeDiff, Nat.reduceLT, Nat.reduceMul, Nat.reduceSub, Int.reduceToNat, s57, zc36, Try.underlying23, Try.underlying26, sd36, pl36_0, pl36_1, sz36, fo36_0, sh3, Try.underlying3, Try.underlying133, sh36, hb]
      exact ⟨rfl, ((K2.set' (Nat.le_refl _)).push' (Nat.le_refl _))⟩
    | none =>
      simp only []
      obtain ⟨lo, hlo⟩ : ∃ lo, lo = memAt M a + 256 * memAt M (a + 1) := ⟨_, rfl⟩
      have b0 : memAt M a < 256 := byteAt_lt r.sr a
      have b1 : memAt M (a + 1) < 256 := byteAt_lt r.sr (a + 1)
      have l0 : lo < 65536 := by omega
      have a3 := and3_u32 lo (by omega)
      rw [← hlo]
      by_cases q3 : lo % 4 = 3
      · rw [if_neg (by omega)]
        rw [q3] at a3
        have far := firstF_far r.wf F (by omega) ha (by omega)
        have ad : adr a 2 = a + 2 := by unfold adr; omega
        have w2 : IntKind.u64.wrap ((a : Int) + 2) = ((a + 2 : Nat) : Int) := by rw [wrap_u64]; omega
        rw [ad]
        cases F2 : firstF M.rs (a + 2) 2 4 with
        | some b =>
          simp only []
          refine Fn_c Try.func57 mixed c57 (by kernel_rfl) ?_; rw [r57]
          simp -implicitDefEqProofs (disch := first | omega | (simp only [h_szP, h_szS]; done) | (simp only [h_szP, h_szS]; omega)) only [go_sem, Nat.reduceBEq, reduceCtorEq, Nat.reduceAdd, Int.reduceEq, Int.reduceLT, Int.reduceLE, Int.reduceMul, Int.reduceAdd, Int.reduceSub, reduceIte, Nat.reduceLeDiff, Nat.reduceLT, Nat.reduceMul, Nat.reduceSub, Int.reduceToNat, s57, zc36, Try.underlying23, Try.underlying26, sd36, pl36_0, pl36_1, sz36, fo36_0, sh3, Try.underlying3, Try.underlying133, sh36, d0]
          refine FnK.use (half_none a (r.ext (K0 _)) ha F) ?_
          intro x h1 ⟨e1, K1⟩
          have K2 := (K0 _).of_ext K1 (Nat.le_refl _)
          have hb : h1[h.size]? = some (.cells #[.int .i64 0, .int .u64 0] 36 (0, 0)) := by rw [K1.old _ (by simp)]; simp -implicitDefEqProofs (disch := first | omega | (simp only [h_szP, h_szS]; done) | (simp only [h_szP, h_szS]; omega)) only [go_sem, Nat.reduceBEq, reduceCtorEq, Nat.reduceAdd, Int.reduceEq, Int.reduceLT, Int.reduceLE, Int.reduceMul, Int.reduceAdd, Int.reduceSub, reduceIte, Nat.reduceLeDiff, Nat.reduceLT, Nat.reduceMul, Nat.reduceSub, Int.reduceToNat]
          have hb2 := getElem?_lt hb
          rw [e1, ← hlo]
          simp -implicitDefEqProofs (disch := first | omega | (simp only [h_szP, h_szS]; done) | (simp only [h_szP, h_szS]; omega)) only [go_sem, Nat.reduceBEq, reduceCtorEq, Nat.reduceAdd, Int.reduceEq, Int.reduceLT, Int.reduceLE, Int.reduceMul, Int.reduceAdd, Int.reduceSub, reduceIte, Nat.reduceLeDiff, Nat.reduceLT, Nat.reduceMul, Nat.reduceSub, Int.reduceToNat, s57, zc36, Try.underlying23, Try.underlying26, sd36, pl36_0, pl36_1, sz36, fo36_0, sh3, Try.underlying3, Try.underlying133, sh36, hb, a3, w2]
          refine FnK.use (half_some (a + 2) b (r.ext (K2.push' (Nat.le_refl _))) (by omega) F2) ?_
          intro x h3 ⟨e3, K3⟩
          have K4 := (K2.push' (Nat.le_refl _)).of_ext K3 (Nat.le_refl _)
          rw [e3]
          have sz := K1.size
          have hc : h3[h1.size]? = some (.cells #[.int .i64 0, .int .u64 0] 36 (0, 0)) := by rw [K3.old _ (by simp)]; simp -implicitDefEqProofs (disch := first | omega | (simp only [h_szP, h_szS]; done) | (simp only [h_szP, h_szS]; omega)) only [go_sem, Nat.reduceBEq, reduceCtorEq, Nat.reduceAdd, Int.reduceEq, Int.reduceLT, Int.reduceLE, Int.reduceMul, Int.reduceAdd, Int.reduceSub, reduceIte, Nat.reduceLeDiff, Nat.reduceLT, Nat.reduceMul, Nat.reduceSub, Int.reduceToNat]
          have hc2 := getElem?_lt hc
          have hd : h3[h.size]? = some (.cells #[.int .i64 0, .int .u64 0] 36 (0, 0)) := by rw [K3.old _ (by simp; omega), h_pushL _ _ _ hb2]; exact hb
          have hd2 := getElem?_lt hd
          simp -implicitDefEqProofs (disch := first | omega | (simp only [h_szP, h_szS]; done) | (simp only [h_szP, h_szS]; omega)) only [go_sem, Nat.reduceBEq, reduceCtorEq, Nat.reduceAdd, Int.reduceEq, Int.reduceLT, Int.reduceLE, Int.reduceMul, Int.reduceAdd, Int.reduceSub, reduceIte, Nat.reduceLeDiff, Nat.reduceLT, Nat.reduceMul, Nat.reduceSub, Int.reduceToNat, s57, zc36, Try.underlying23, Try.underlying26, sd36, pl36_0, pl36_1, sz36, fo36_0, sh3, Try.underlying3, Try.underlying133, sh36, hc, hd]
          refine ⟨rfl, ?_⟩
          simp at sz
          repeat (first | exact K4 | refine Keeps.set' ?_ (by first | exact Nat.le_refl _ | omega) | refine Keeps.push' ?_ (by first | exact Nat.le_refl _ | omega))
        | none =>
          simp only []
          obtain ⟨hi, hhi⟩ : ∃ hi, hi = memAt M (a + 2) + 256 * memAt M (a + 3) := ⟨_, rfl⟩
          have b2 : memAt M (a + 2) < 256 := byteAt_lt r.sr (a + 2)
          have b3 : memAt M (a + 3) < 256 := byteAt_lt r.sr (a + 3)
          have j := join_u32 lo hi l0 (by omega)
          rw [← hhi]
          refine Fn_c Try.func57 mixed c57 (by kernel_rfl) ?_; rw [r57]
          simp -implicitDefEqProofs (disch := first | omega | (simp only [h_szP, h_szS]; done) | (simp only [h_szP, h_szS]; omega)) only [go_sem, Nat.reduceBEq, reduceCtorEq, Nat.reduceAdd, Int.reduceEq, Int.reduceLT, Int.reduceLE, Int.reduceMul, Int.reduceAdd, Int.reduceSub, reduceIte, Nat.reduceLeDiff, Nat.reduceLT, Nat.reduceMul, Nat.reduceSub, Int.reduceToNat, s57, zc36, Try.underlying23, Try.underlying26, sd36, pl36_0, pl36_1, sz36, fo36_0, sh3, Try.underlying3, Try.underlying133, sh36, d0]
          refine FnK.use (half_none a (r.ext (K0 _)) ha F) ?_
          intro x h1 ⟨e1, K1⟩
          have K2 := (K0 _).of_ext K1 (Nat.le_refl _)
          have hb : h1[h.size]? = some (.cells #[.int .i64 0, .int .u64 0] 36 (0, 0)) := by rw [K1.old _ (by simp)]; simp -implicitDefEqProofs (disch := first | omega | (simp only [h_szP, h_szS]; done) | (simp only [h_szP, h_szS]; omega)) only [go_sem, Nat.reduceBEq, reduceCtorEq, Nat.reduceAdd, Int.reduceEq, Int.reduceLT, Int.reduceLE, Int.reduceMul, Int.reduceAdd, Int.reduceSub, reduceIte, Nat.reduceLeDiff, Nat.reduceLT, Nat.reduceMul, Nat.reduceSub, Int.reduceToNat]
          have hb2 := getElem?_lt hb
          rw [e1, ← hlo]
          simp -implicitDefEqProofs (disch := first | omega | (simp only [h_szP, h_szS]; done) | (simp only [h_szP, h_szS]; omega)) only [go_sem, Nat.reduceBEq, reduceCtorEq, Nat.reduceAdd, Int.reduceEq, Int.reduceLT, Int.reduceLE, Int.reduceMul, Int.reduceAdd, Int.reduceSub, reduceIte, Nat.reduceLeDiff, Nat.reduceLT, Nat.reduceMul, Nat.reduceSub, Int.reduceToNat, s57, zc36, Try.underlying23, Try.underlying26, sd36, pl36_0, pl36_1, sz36, fo36_0, sh3, Try.underlying3, Try.underlying133, sh36, hb, a3, w2]
          refine FnK.use (half_none (a + 2) (r.ext (K2.push' (Nat.le_refl _))) (by omega) F2) ?_
          intro x h3 ⟨e3, K3⟩
          have K4 := (K2.push' (Nat.le_refl _)).of_ext K3 (Nat.le_refl _)
          rw [e3, show a + 2 + 1 = a + 3 by omega, ← hhi]
          have sz := K1.size
          have hc : h3[h1.size]? = some (.cells #[.int .i64 0, .int .u64 0] 36 (0, 0)) := by rw [K3.old _ (by simp)]; simp -implicitDefEqProofs (disch := first | omega | (simp only [h_szP, h_szS]; done) | (simp only [h_szP, h_szS]; omega)) only [go_sem, Nat.reduceBEq, reduceCtorEq, Nat.reduceAdd, Int.reduceEq, Int.reduceLT, Int.reduceLE, Int.reduceMul, Int.reduceAdd, Int.reduceSub, reduceIte, Nat.reduceLeDiff, Nat.reduceLT, Nat.reduceMul, Nat.reduceSub, Int.reduceToNat]
          have hc2 := getElem?_lt hc
          have hd : h3[h.size]? = some (.cells #[.int .i64 0, .int .u64 0] 36 (0, 0)) := by rw [K3.old _ (by simp; omega), h_pushL _ _ _ hb2]; exact hb
          have hd2 := getElem?_lt hd
          simp -implicitDefEqProofs (disch := first | omega | (simp only [h_szP, h_szS]; done) | (simp only [h_szP, h_szS]; omega)) only [go_sem, Nat.reduceBEq, reduceCtorEq, Nat.reduceAdd, Int.reduceEq, Int.reduceLT, Int.reduceLE, Int.reduceMul, Int.reduceAdd, Int.reduceSub, reduceIte, Nat.reduceLeDiff, Nat.reduceLT, Nat.reduceMul, Nat.reduceSub, Int.reduceToNat, s57, zc36, Try.underlying23, Try.underlying26, sd36, pl36_0, pl36_1, sz36, fo36_0, sh3, Try.underlying3, Try.underlying133, sh36, hc, hd, j]
          refine ⟨rfl, ?_⟩
          simp at sz
          refine Keeps.set' (Keeps.set' K4 (by omega)) (Nat.le_refl _)
      · rw [if_pos q3]
        have d3 : (((lo % 4 : Nat) : Int) = 3) = False := eq_false (by omega)
        refine Fn_c Try.func57 mixed c57 (by kernel_rfl) ?_; rw [r57]
        simp -implicitDefEqProofs (disch := first | omega | (simp only [h_szP, h_szS]; done) | (simp only [h_szP, h_szS]; omega)) only [go_sem, Nat.reduceBEq, reduceCtorEq, Nat.reduceAdd, Int.reduceEq, Int.reduceLT, Int.reduceLE, Int.reduceMul, Int.reduceAdd, Int.reduceSub, reduceIte, Nat.reduceLeDiff, Nat.reduceLT, Nat.reduceMul, Nat.reduceSub, Int.reduceToNat, s57, zc36, Try.underlying23, Try.underlying26, sd36, pl36_0, pl36_1, sz36, fo36_0, sh3, Try.underlying3, Try.underlying133, sh36, d0]
        refine FnK.use (half_none a (r.ext (K0 _)) ha F) ?_
        intro x h1 ⟨e1, K1⟩
        have K2 := (K0 _).of_ext K1 (Nat.le_refl _)
        have hb : h1[h.size]? = some (.cells #[.int .i64 0, .int .u64 0] 36 (0, 0)) := by rw [K1.old _ (by simp)]; simp -implicitDefEqProofs (disch := first | omega | (simp only [h_szP, h_szS]; done) | (simp only [h_szP, h_szS]; omega)) only [go_sem, Nat.reduceBEq, reduceCtorEq, Nat.reduceAdd, Int.reduceEq, Int.reduceLT, Int.reduceLE, Int.reduceMul, Int.reduceAdd, Int.reduceSub, reduceIte, Nat.reduceLeDiff, Nat.reduceLT, Nat.reduceMul, Nat.reduceSub, Int.reduceToNat]
        have hb2 := getElem?_lt hb
        rw [e1, ← hlo]
        simp -implicitDefEqProofs (disch := first | omega | (simp only [h_szP, h_szS]; done) | (simp only [h_szP, h_szS]; omega)) only [go_sem, Nat.reduceBEq, reduceCtorEq, Nat.reduceAdd, Int.reduceEq, Int.reduceLT, Int.reduceLE, Int.reduceMul, Int.reduceAdd, Int.reduceSub, reduceIte, Nat.reduceLeDiff, Nat.reduceLT, Nat.reduceMul, Nat.reduceSub, Int.reduceToNat, s57, zc36, Try.underlying23, Try.underlying26, sd36, pl36_0, pl36_1, sz36, fo36_0, sh3, Try.underlying3, Try.underlying133, sh36, hb, a3, d3]
        exact ⟨rfl, (K2.set' (Nat.le_refl _)).push' (Nat.le_refl _)⟩
  · have d0 : (((a : Int) % 2) = 0) = False := eq_false (by omega)
    rw [if_pos (by omega)]
    refine Fn_c Try.func57 mixed c57 (by kernel_rfl) ?_; rw [r57]
    simp -implicitDefEqProofs (disch := first | omega | (simp only [h_szP, h_szS]; done) | (simp only [h_szP, h_szS]; omega)) only [go_sem, Nat.reduceBEq, reduceCtorEq, Nat.reduceAdd, Int.reduceEq, Int.reduceLT, Int.reduceLE, Int.reduceMul, Int.reduceAdd, Int.reduceSub, reduceIte, Nat.reduceLeDiff, Nat.reduceLT, Nat.reduceMul, Nat.reduceSub, Int.reduceToNat, s57, zc36, Try.underlying23, Try.underlying26, sd36, pl36_0, pl36_1, sz36, fo36_0, sh3, Try.underlying3, Try.underlying133, sh36, d0]
    exact ⟨rfl, Keeps.push _ _ (Nat.le_refl _)⟩
end Go.SX.G
