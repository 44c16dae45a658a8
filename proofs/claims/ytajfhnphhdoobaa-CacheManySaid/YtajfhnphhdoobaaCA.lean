/- A cache: what is read at a place, stamps, New, Len, Clear. No condition but on sizes. -/
import Derived.Test.YtajfhnphhdoobaaDF
import Derived.Test.YtajfhnphhdoobaaFA
set_option linter.unusedVariables false
set_option linter.unusedSimpArgs false
namespace Go.SX.G
open Go Go.SX Go.Proofs
set_option maxRecDepth 100000
set_option maxHeartbeats 2000000
theorem clear_map {P : Program} {h : Heap} {t r c : Nat} {es : Array MapEntry} {K : Value → Heap → Prop} (ht : (P.underlying t).isSome = true) (hr : h[r]? = some (.map es c)) (K1 : K (.tuple #[]) (h.setIfInBounds r (.map #[] c))) : @clearK P h t (.map (some r)) ⟨K⟩ := by
  unfold clearK clearW
  refine ⟨ht, ?_⟩
  simp only [hr]
  exact K1
theorem fetchF_lt {rs : List Reg} {B : Nat → Nat} {a w : Nat} (hB : ∀ x, B x < 256) (h : fetchF rs B a = (w, none)) : w < 4294967296 := by
  have h0 := hB a
  have h1 := hB (a + 1)
  have h2 := hB (a + 2)
  have h3 := hB (a + 3)
  unfold fetchF at h
  split at h
  · simp at h
  · split at h
    · simp at h
    · split at h
      · simp at h; omega
      · split at h
        · simp at h
        · simp at h; omega
theorem cread_c {h : Heap} {s : Nat} {M : MemD} (a : Nat) (r : MR h s M) (ha : a < 18446744073709551616) :
    Fn Try.prog 30 [ptr s 0, .int .u64 a] h fun x h' => x = .tuple #[(readF M.rs (memAt M) a).1.v, (readF M.rs (memAt M) a).2.v] ∧ Keeps h.size h h' := by
  obtain ⟨w, o, hw⟩ : ∃ w o, fetchF M.rs (memAt M) a = (w, o) := ⟨_, _, rfl⟩
  have K0 : ∀ o, Keeps h.size h (h.push o) := fun o => Keeps.push h o (Nat.le_refl _)
  unfold readF
  rw [hw]
  cases o with
  | some b =>
    refine Fn_c Try.func30 mixed c30 (by kernel_rfl) ?_; rw [r30]
    simp -implicitDefEqProofs (disch := first | omega | (simp only [h_szP, h_szS]; done) | (simp only [h_szP, h_szS]; omega)) only [go_sem, Nat.reduceBEq, reduceCtorEq, Nat.reduceAdd, Int.reduceEq, Int.reduceLT, Int.reduceLE, Int.reduceMul, Int.reduceAdd, Int.reduceSub, reduceIte, Nat.reduceLeDiff, Nat.reduceLT, Nat.reduceMul, Nat.reduceSub, Int.reduceToNat, s30, zc34, zc38, zc36, sz36, fo36_0, sh3, Try.underlying3, sd34, sh36, sd38, pl38_0, pl38_1, sz34, sz38, sd36, pl36_0, pl36_1, sh34, sh38]
    refine FnK.use (mfetch_c a (r.ext ((K0 _).push' (Nat.le_refl _))) ha) ?_
    intro x h1 ⟨e1, K1⟩
    have K2 := ((K0 _).push' (Nat.le_refl _)).of_ext K1 (Nat.le_refl _)
    have b0 : h1[h.size]? = some (.cells #[.int .i64 0, .int .i64 0, .int .i64 0, .int .i64 0, .int .i64 0, .int .i64 0, .int .i64 0] 34 (0, 0)) := by (rw [K1.old _ (by simp <;> omega)]; simp -implicitDefEqProofs (disch := first | omega | (simp only [h_szP, h_szS]; done) | (simp only [h_szP, h_szS]; omega)) only [go_sem, Nat.reduceBEq, reduceCtorEq, Nat.reduceAdd, Int.reduceEq, Int.reduceLT, Int.reduceLE, Int.reduceMul, Int.reduceAdd, Int.reduceSub, reduceIte, Nat.reduceLeDiff, Nat.reduceLT, Nat.reduceMul, Nat.reduceSub, Int.reduceToNat])
    have b1 : h1[h.size + 1]? = some (.cells #[.int .i64 0, .int .i64 0, .int .u64 0] 38 (0, 0)) := by (rw [K1.old _ (by simp <;> omega)]; simp -implicitDefEqProofs (disch := first | omega | (simp only [h_szP, h_szS]; done) | (simp only [h_szP, h_szS]; omega)) only [go_sem, Nat.reduceBEq, reduceCtorEq, Nat.reduceAdd, Int.reduceEq, Int.reduceLT, Int.reduceLE, Int.reduceMul, Int.reduceAdd, Int.reduceSub, reduceIte, Nat.reduceLeDiff, Nat.reduceLT, Nat.reduceMul, Nat.reduceSub, Int.reduceToNat])
    have l0 := getElem?_lt b0
    have l1 := getElem?_lt b1
    rw [e1, hw]
    unfold fetchV
    simp -implicitDefEqProofs (disch := first | omega | (simp only [h_szP, h_szS]; done) | (simp only [h_szP, h_szS]; omega)) only [go_sem, Nat.reduceBEq, reduceCtorEq, Nat.reduceAdd, Int.reduceEq, Int.reduceLT, Int.reduceLE, Int.reduceMul, Int.reduceAdd, Int.reduceSub, reduceIte, Nat.reduceLeDiff, Nat.reduceLT, Nat.reduceMul, Nat.reduceSub, Int.reduceToNat, s30, zc34, zc38, zc36, sz36, fo36_0, sh3, Try.underlying3, sd34, sh36, sd38, pl38_0, pl38_1, sz34, sz38, sd36, pl36_0, pl36_1, sh34, sh38, b0, b1, InstR.v, StopR.v, zI]
    first | done | (refine ⟨rfl, ?_⟩; (repeat (first | refine Keeps.set' ?_ (by first | exact Nat.le_refl _ | omega) | refine Keeps.push' ?_ (by first | exact Nat.le_refl _ | omega))); exact K2) | (constructor <;> ((repeat (first | refine Keeps.set' ?_ (by first | exact Nat.le_refl _ | omega) | refine Keeps.push' ?_ (by first | exact Nat.le_refl _ | omega))); exact K2)) | ((repeat (first | refine Keeps.set' ?_ (by first | exact Nat.le_refl _ | omega) | refine Keeps.push' ?_ (by first | exact Nat.le_refl _ | omega))); exact K2)
  | none =>
    have hl := fetchF_lt (fun x => byteAt_lt r.sr x) hw
    have hn : rngI w 4294967296 := by unfold rngI; omega
    by_cases q : (decodeL w).op = 0
    · simp only [if_pos q]
      refine Fn_c Try.func30 mixed c30 (by kernel_rfl) ?_; rw [r30]
      simp -implicitDefEqProofs (disch := first | omega | (simp only [h_szP, h_szS]; done) | (simp only [h_szP, h_szS]; omega)) only [go_sem, Nat.reduceBEq, reduceCtorEq, Nat.reduceAdd, Int.reduceEq, Int.reduceLT, Int.reduceLE, Int.reduceMul, Int.reduceAdd, Int.reduceSub, reduceIte, Nat.reduceLeDiff, Nat.reduceLT, Nat.reduceMul, Nat.reduceSub, Int.reduceToNat, s30, zc34, zc38, zc36, sz36, fo36_0, sh3, Try.underlying3, sd34, sh36, sd38, pl38_0, pl38_1, sz34, sz38, sd36, pl36_0, pl36_1, sh34, sh38]
      refine FnK.use (mfetch_c a (r.ext ((K0 _).push' (Nat.le_refl _))) ha) ?_
      intro x h1 ⟨e1, K1⟩
      have K2 := ((K0 _).push' (Nat.le_refl _)).of_ext K1 (Nat.le_refl _)
      have b0 : h1[h.size]? = some (.cells #[.int .i64 0, .int .i64 0, .int .i64 0, .int .i64 0, .int .i64 0, .int .i64 0, .int .i64 0] 34 (0, 0)) := by (rw [K1.old _ (by simp <;> omega)]; simp -implicitDefEqProofs (disch := first | omega | (simp only [h_szP, h_szS]; done) | (simp only [h_szP, h_szS]; omega)) only [go_sem, Nat.reduceBEq, reduceCtorEq, Nat.reduceAdd, Int.reduceEq, Int.reduceLT, Int.reduceLE, Int.reduceMul, Int.reduceAdd, Int.reduceSub, reduceIte, Nat.reduceLeDiff, Nat.reduceLT, Nat.reduceMul, Nat.reduceSub, Int.reduceToNat])
      have b1 : h1[h.size + 1]? = some (.cells #[.int .i64 0, .int .i64 0, .int .u64 0] 38 (0, 0)) := by (rw [K1.old _ (by simp <;> omega)]; simp -implicitDefEqProofs (disch := first | omega | (simp only [h_szP, h_szS]; done) | (simp only [h_szP, h_szS]; omega)) only [go_sem, Nat.reduceBEq, reduceCtorEq, Nat.reduceAdd, Int.reduceEq, Int.reduceLT, Int.reduceLE, Int.reduceMul, Int.reduceAdd, Int.reduceSub, reduceIte, Nat.reduceLeDiff, Nat.reduceLT, Nat.reduceMul, Nat.reduceSub, Int.reduceToNat])
      have l0 := getElem?_lt b0
      have l1 := getElem?_lt b1
      rw [e1, hw]
      unfold fetchV
      simp -implicitDefEqProofs (disch := first | omega | (simp only [h_szP, h_szS]; done) | (simp only [h_szP, h_szS]; omega)) only [go_sem, Nat.reduceBEq, reduceCtorEq, Nat.reduceAdd, Int.reduceEq, Int.reduceLT, Int.reduceLE, Int.reduceMul, Int.reduceAdd, Int.reduceSub, reduceIte, Nat.reduceLeDiff, Nat.reduceLT, Nat.reduceMul, Nat.reduceSub, Int.reduceToNat, s30, zc34, zc38, zc36, sz36, fo36_0, sh3, Try.underlying3, sd34, sh36, sd38, pl38_0, pl38_1, sz34, sz38, sd36, pl36_0, pl36_1, sh34, sh38, b0, b1]
      refine FnK.use (cdecode_c w hn _) ?_
      intro x h2 ⟨e2, K3⟩
      have b2 := K3.at (by rw [h_pushL _ _ _ l0]; exact b0) (by simp; omega)
      have b3 := K3.at (by rw [h_pushL _ _ _ l1]; exact b1) (by simp; omega)
      have l2 := getElem?_lt b2
      have l3 := getElem?_lt b3
      have K4 := (K2.push' (Nat.le_refl _)).of_ext K3 (Nat.le_refl _)
      rw [e2]
      unfold decV
      rw [if_pos q]
      simp -implicitDefEqProofs (disch := first | omega | (simp only [h_szP, h_szS]; done) | (simp only [h_szP, h_szS]; omega)) only [go_sem, Nat.reduceBEq, reduceCtorEq, Nat.reduceAdd, Int.reduceEq, Int.reduceLT, Int.reduceLE, Int.reduceMul, Int.reduceAdd, Int.reduceSub, reduceIte, Nat.reduceLeDiff, Nat.reduceLT, Nat.reduceMul, Nat.reduceSub, Int.reduceToNat, s30, zc34, zc38, zc36, sz36, fo36_0, sh3, Try.underlying3, sd34, sh36, sd38, pl38_0, pl38_1, sz34, sz38, sd36, pl36_0, pl36_1, sh34, sh38, b2, b3, InstR.v, StopR.v, zI, sOk]
      first | done | (refine ⟨rfl, ?_⟩; (repeat (first | refine Keeps.set' ?_ (by first | exact Nat.le_refl _ | omega) | refine Keeps.push' ?_ (by first | exact Nat.le_refl _ | omega))); exact K4) | (constructor <;> ((repeat (first | refine Keeps.set' ?_ (by first | exact Nat.le_refl _ | omega) | refine Keeps.push' ?_ (by first | exact Nat.le_refl _ | omega))); exact K4)) | ((repeat (first | refine Keeps.set' ?_ (by first | exact Nat.le_refl _ | omega) | refine Keeps.push' ?_ (by first | exact Nat.le_refl _ | omega))); exact K4)
    · simp only [if_neg q]
      refine Fn_c Try.func30 mixed c30 (by kernel_rfl) ?_; rw [r30]
      simp -implicitDefEqProofs (disch := first | omega | (simp only [h_szP, h_szS]; done) | (simp only [h_szP, h_szS]; omega)) only [go_sem, Nat.reduceBEq, reduceCtorEq, Nat.reduceAdd, Int.reduceEq, Int.reduceLT, Int.reduceLE, Int.reduceMul, Int.reduceAdd, Int.reduceSub, reduceIte, Nat.reduceLeDiff, Nat.reduceLT, Nat.reduceMul, Nat.reduceSub, Int.reduceToNat, s30, zc34, zc38, zc36, sz36, fo36_0, sh3, Try.underlying3, sd34, sh36, sd38, pl38_0, pl38_1, sz34, sz38, sd36, pl36_0, pl36_1, sh34, sh38]
      refine FnK.use (mfetch_c a (r.ext ((K0 _).push' (Nat.le_refl _))) ha) ?_
      intro x h1 ⟨e1, K1⟩
      have K2 := ((K0 _).push' (Nat.le_refl _)).of_ext K1 (Nat.le_refl _)
      have b0 : h1[h.size]? = some (.cells #[.int .i64 0, .int .i64 0, .int .i64 0, .int .i64 0, .int .i64 0, .int .i64 0, .int .i64 0] 34 (0, 0)) := by (rw [K1.old _ (by simp <;> omega)]; simp -implicitDefEqProofs (disch := first | omega | (simp only [h_szP, h_szS]; done) | (simp only [h_szP, h_szS]; omega)) only [go_sem, Nat.reduceBEq, reduceCtorEq, Nat.reduceAdd, Int.reduceEq, Int.reduceLT, Int.reduceLE, Int.reduceMul, Int.reduceAdd, Int.reduceSub, reduceIte, Nat.reduceLeDiff, Nat.reduceLT, Nat.reduceMul, Nat.reduceSub, Int.reduceToNat])
      have b1 : h1[h.size + 1]? = some (.cells #[.int .i64 0, .int .i64 0, .int .u64 0] 38 (0, 0)) := by (rw [K1.old _ (by simp <;> omega)]; simp -implicitDefEqProofs (disch := first | omega | (simp only [h_szP, h_szS]; done) | (simp only [h_szP, h_szS]; omega)) only [go_sem, Nat.reduceBEq, reduceCtorEq, Nat.reduceAdd, Int.reduceEq, Int.reduceLT, Int.reduceLE, Int.reduceMul, Int.reduceAdd, Int.reduceSub, reduceIte, Nat.reduceLeDiff, Nat.reduceLT, Nat.reduceMul, Nat.reduceSub, Int.reduceToNat])
      have l0 := getElem?_lt b0
      have l1 := getElem?_lt b1
      rw [e1, hw]
      unfold fetchV
      simp -implicitDefEqProofs (disch := first | omega | (simp only [h_szP, h_szS]; done) | (simp only [h_szP, h_szS]; omega)) only [go_sem, Nat.reduceBEq, reduceCtorEq, Nat.reduceAdd, Int.reduceEq, Int.reduceLT, Int.reduceLE, Int.reduceMul, Int.reduceAdd, Int.reduceSub, reduceIte, Nat.reduceLeDiff, Nat.reduceLT, Nat.reduceMul, Nat.reduceSub, Int.reduceToNat, s30, zc34, zc38, zc36, sz36, fo36_0, sh3, Try.underlying3, sd34, sh36, sd38, pl38_0, pl38_1, sz34, sz38, sd36, pl36_0, pl36_1, sh34, sh38, b0, b1]
      refine FnK.use (cdecode_c w hn _) ?_
      intro x h2 ⟨e2, K3⟩
      have b2 := K3.at (by rw [h_pushL _ _ _ l0]; exact b0) (by simp; omega)
      have b3 := K3.at (by rw [h_pushL _ _ _ l1]; exact b1) (by simp; omega)
      have l2 := getElem?_lt b2
      have l3 := getElem?_lt b3
      have K4 := (K2.push' (Nat.le_refl _)).of_ext K3 (Nat.le_refl _)
      rw [e2]
      unfold decV
      rw [if_neg q]
      simp -implicitDefEqProofs (disch := first | omega | (simp only [h_szP, h_szS]; done) | (simp only [h_szP, h_szS]; omega)) only [go_sem, Nat.reduceBEq, reduceCtorEq, Nat.reduceAdd, Int.reduceEq, Int.reduceLT, Int.reduceLE, Int.reduceMul, Int.reduceAdd, Int.reduceSub, reduceIte, Nat.reduceLeDiff, Nat.reduceLT, Nat.reduceMul, Nat.reduceSub, Int.reduceToNat, s30, zc34, zc38, zc36, sz36, fo36_0, sh3, Try.underlying3, sd34, sh36, sd38, pl38_0, pl38_1, sz34, sz38, sd36, pl36_0, pl36_1, sh34, sh38, b2, b3, InstR.v, StopR.v, zI, sOk]
      first | done | (refine ⟨rfl, ?_⟩; (repeat (first | refine Keeps.set' ?_ (by first | exact Nat.le_refl _ | omega) | refine Keeps.push' ?_ (by first | exact Nat.le_refl _ | omega))); exact K4) | (constructor <;> ((repeat (first | refine Keeps.set' ?_ (by first | exact Nat.le_refl _ | omega) | refine Keeps.push' ?_ (by first | exact Nat.le_refl _ | omega))); exact K4)) | ((repeat (first | refine Keeps.set' ?_ (by first | exact Nat.le_refl _ | omega) | refine Keeps.push' ?_ (by first | exact Nat.le_refl _ | omega))); exact K4)
end Go.SX.G
