/- HartNone, the walk. No condition. -/
import Derived.Test.YteoiokeiddlchaaGreatHH
import Derived.Test.YteoiokeiddlchaaGreatHM
import Derived.Test.YteoiokeiddlchaaGreatHJ
import Derived.Test.YteoiokeiddlchaaGreatSxRows
set_option linter.unusedVariables false
set_option linter.unusedSimpArgs false
namespace Go.SX.G
open Go Go.SX Go.Proofs
set_option maxRecDepth 100000
set_option maxHeartbeats 8000000
theorem answers11_c (h : Heap) : Fn Tryz.prog 8 [] h fun x h' => x = .bool true ∧ Keeps h.size h h' := by
  refine Fn_c Tryz.func8 mixed c8 (by kernel_rfl) ?_; rw [r8]
  simp -implicitDefEqProofs (disch := first | omega | (simp only [h_szP, h_szS]; done) | (simp only [h_szP, h_szS]; omega)) only [go_sem, Nat.reduceBEq, reduceCtorEq, Nat.reduceAdd, Int.reduceEq, Int.reduceLT, Int.reduceLE, Int.reduceMul, Int.reduceAdd, Int.reduceSub, reduceIte, Nat.reduceLeDiff, Nat.reduceLT, Nat.reduceMul, Nat.reduceSub, Int.reduceToNat, s8, sl48, ze5, by5, sz5, Tryz.underlying33, fd33_0, Tryz.underlying3, Tryz.underlying27, fd27_1, Tryz.underlying23, ar23, Tryz.underlying22]
  have K0 := Keeps.push h (.cells #[.int .u8 5, .int .u8 69] 5) (Nat.le_refl _)
  have hv : Vs (h.push (.cells #[.int .u8 5, .int .u8 69] 5)) (.slice (some ⟨h.size, 0, none⟩) 2 2) encB 1 [5, 69] :=
    ⟨rfl, .inr ⟨h.size, 0, 2, #[.int .u8 5, .int .u8 69], 5, _, rfl, Nat.le_refl _, h_pushE _ _ _ rfl, by simp, rfl⟩⟩
  refine FnK.use (machines_c hv (by decide) (by decide)) ?_
  intro x h1 ⟨hb, kb, s, cb, M, g, mv, pv, e1, H, ok, e0, e1', e35, e36, r, hrs, hm, hc, lb, K1⟩
  have F : FirstN M.rs 65536 2 4 none := by
    rw [hrs]
    refine .none fun i hi => ?_
    rcases (show i = 0 ∨ i = 1 by omega) with rfl | rfl <;> exact ⟨⟨65536, 73728, 7⟩, by decide, by decide⟩
  have hw : le (peekL M 65536 2) = 17669 := by
    have a0 := hm 0 (by decide)
    have a1 := hm 1 (by decide)
    have e : peekL M 65536 2 = [5, 69] := by
      unfold peekL
      show [memAt M (65536 + 0), memAt M (65536 + 1)] = _
      rw [a0, a1]
      rfl
    rw [e]
    decide
  rw [e1]
  simp -implicitDefEqProofs (disch := first | omega | (simp only [h_szP, h_szS]; done) | (simp only [h_szP, h_szS]; omega)) only [go_sem, Nat.reduceBEq, reduceCtorEq, Nat.reduceAdd, Int.reduceEq, Int.reduceLT, Int.reduceLE, Int.reduceMul, Int.reduceAdd, Int.reduceSub, reduceIte, Nat.reduceLeDiff, Nat.reduceLT, Nat.reduceMul, Nat.reduceSub, Int.reduceToNat, s8, sl48, ze5, by5, sz5, Tryz.underlying33, fd33_0, Tryz.underlying3, Tryz.underlying27, fd27_1, Tryz.underlying23, ar23, Tryz.underlying22]
  refine FnK.use (step_ok H ok e0 e1' e35 e36 r hc F hw) ?_
  intro x h2 ⟨e2, H2, s2, o2⟩
  rw [e2]
  have ok2 : okS (fun i => if i = 1 then Value.int .u64 0 else if i = 0 then .int .u64 65538 else if i = 11 then .int .u64 1 else g i) := by
    refine ⟨fun i hi => ?_, ?_⟩
    · show ∃ n, (if i = 1 then Value.int .u64 0 else if i = 0 then .int .u64 65538 else if i = 11 then .int .u64 1 else g i) = Value.int .u64 n
      by_cases q1 : i = 1
      · rw [if_pos q1]; exact ⟨_, rfl⟩
      · by_cases q0 : i = 0
        · rw [if_neg q1, if_pos q0]; exact ⟨_, rfl⟩
        · by_cases q11 : i = 11
          · rw [if_neg q1, if_neg q0, if_pos q11]; exact ⟨_, rfl⟩
          · rw [if_neg q1, if_neg q0, if_neg q11]; exact ok.1 i hi
    · show ∃ n, (if (34 : Nat) = 1 then Value.int .u64 0 else if (34 : Nat) = 0 then .int .u64 65538 else if (34 : Nat) = 11 then .int .u64 1 else g 34) = Value.int .i64 n
      rw [if_neg (by omega), if_neg (by omega), if_neg (by omega)]; exact ok.2
  simp -implicitDefEqProofs (disch := first | omega | (simp only [h_szP, h_szS]; done) | (simp only [h_szP, h_szS]; omega)) only [go_sem, Nat.reduceBEq, reduceCtorEq, Nat.reduceAdd, Int.reduceEq, Int.reduceLT, Int.reduceLE, Int.reduceMul, Int.reduceAdd, Int.reduceSub, reduceIte, Nat.reduceLeDiff, Nat.reduceLT, Nat.reduceMul, Nat.reduceSub, Int.reduceToNat, s8, sl48, ze5, by5, sz5, Tryz.underlying33, fd33_0, Tryz.underlying3, Tryz.underlying27, fd27_1, Tryz.underlying23, ar23, Tryz.underlying22]
  refine FnK.use (hstate_c H2 ok2) ?_
  intro x h3 ⟨e3, K3⟩
  rw [e3]
  unfold sv
  have ex : ((fnL 35 (fun i => if i = 1 then Value.int .u64 0 else if i = 0 then .int .u64 65538 else if i = 11 then .int .u64 1 else g i)).extract 1 33) = fnL 32 (fun j => (fun i => if i = 1 then Value.int .u64 0 else if i = 0 then .int .u64 65538 else if i = 11 then .int .u64 1 else g i) (1 + j)) := by
    apply List.ext_getElem?
    intro j
    rw [List.extract_eq_take_drop, List.getElem?_take, List.getElem?_drop]
    by_cases q : j < 32
    · rw [if_pos (by omega), fnL_get _ _ _ (by omega), fnL_get _ _ _ q]
    · rw [if_neg (by omega), List.getElem?_eq_none (by rw [fnL_len]; omega)]
  have ix : idxV Tryz.prog 23 (.agg ((fnL 35 (fun i => if i = 1 then Value.int .u64 0 else if i = 0 then .int .u64 65538 else if i = 11 then .int .u64 1 else g i)).extract 1 33).toArray) (.int .i64 10) = some (.int .u64 1) := by
    rw [ex]
    have ar : arE Tryz.prog 23 = some (32, 22, 1) := by kernel_rfl
    unfold idxV
    simp only [ar, Option.bind_some]
    rw [if_pos (by omega)]
    unfold partV
    rw [sh22]
    show (fnL 32 _).toArray[10]? = _
    rw [List.getElem?_toArray, fnL_get _ _ _ (by omega)]
    rfl
  simp -implicitDefEqProofs (disch := first | omega | (simp only [h_szP, h_szS]; done) | (simp only [h_szP, h_szS]; omega)) only [go_sem, Nat.reduceBEq, reduceCtorEq, Nat.reduceAdd, Int.reduceEq, Int.reduceLT, Int.reduceLE, Int.reduceMul, Int.reduceAdd, Int.reduceSub, reduceIte, Nat.reduceLeDiff, Nat.reduceLT, Nat.reduceMul, Nat.reduceSub, Int.reduceToNat, s8, sl48, ze5, by5, sz5, Tryz.underlying33, fd33_0, Tryz.underlying3, Tryz.underlying27, fd27_1, Tryz.underlying23, ar23, Tryz.underlying22, ix]
  have KA := K0.of_ext K1 (Nat.le_refl _)
  have sA := KA.size
  have sB := K3.size
  rw [Array.size_push] at lb
  exact ⟨by omega, fun b hb' => by rw [K3.old b (by omega), o2 b (by omega) (by omega), KA.old b hb']⟩
theorem hartnone_c {h : Heap} (f : Nat → Value) (ok : okS f) (n : Int) :
    Fn Tryz.prog 3 [sv f, .int .i64 n] h fun x h' => x = .bool true ∧ ∀ b, b < h.size → h'[b]? = h[b]? := by
  have one := ok.one
  have l1 : cellsO 0 35 (some (.cells (fnL 35 f).toArray 27 (0, 0))) = some (fnL 35 f) := by rw [fnL_cells (by omega)]; simp
  unfold sv
  have B0 : (h.push (.cells (fnL 35 f).toArray 27))[h.size]? = some (.cells (fnL 35 f).toArray 27 (0, 0)) := h_pushE _ _ _ rfl
  have K0 := Keeps.push h (.cells (fnL 35 f).toArray 27) (Nat.le_refl _)
  refine Fn_c Tryz.func3 mixed c3 (by kernel_rfl) ?_; rw [r3]
  simp -implicitDefEqProofs (disch := first | omega | (simp only [h_szP, h_szS]; done) | (simp only [h_szP, h_szS]; omega)) only [go_sem, Nat.reduceBEq, reduceCtorEq, Nat.reduceAdd, Int.reduceEq, Int.reduceLT, Int.reduceLE, Int.reduceMul, Int.reduceAdd, Int.reduceSub, reduceIte, Nat.reduceLeDiff, Nat.reduceLT, Nat.reduceMul, Nat.reduceSub, Int.reduceToNat, s3, sh27, zc33, sz33, zc27, sz27, fo27_1, ar23, sz22, Tryz.underlying33, fd33_0, Tryz.underlying3, fo33_0, sh3, Tryz.underlying42, sd27, Tryz.underlying27, l1]
  refine FnK.use (hset_n _ f ok) ?_
  intro x h1 ⟨e1, K1⟩
  have KK1 := K0.of_ext K1 (Nat.le_refl _)
  have B1 := K1.at B0 (by simp)
  have b1 := getElem?_lt B1
  have L1 : cellsO 0 35 h1[h.size]? = some (fnL 35 f) := by rw [B1, l1]
  simp -implicitDefEqProofs (disch := first | omega | (simp only [h_szP, h_szS]; done) | (simp only [h_szP, h_szS]; omega)) only [go_sem, Nat.reduceBEq, reduceCtorEq, Nat.reduceAdd, Int.reduceEq, Int.reduceLT, Int.reduceLE, Int.reduceMul, Int.reduceAdd, Int.reduceSub, reduceIte, Nat.reduceLeDiff, Nat.reduceLT, Nat.reduceMul, Nat.reduceSub, Int.reduceToNat, s3, sh27, zc33, sz33, zc27, sz27, fo27_1, ar23, sz22, Tryz.underlying33, fd33_0, Tryz.underlying3, fo33_0, sh3, Tryz.underlying42, sd27, Tryz.underlying27]
  refine FnK.use (hrun_n _ n) ?_
  intro x h2 ⟨e2, K2⟩
  rw [e2]
  have KK2 := KK1.of_ext K2 (Nat.le_refl _)
  have B2 := K2.at B1 b1
  have b2 := getElem?_lt B2
  simp -implicitDefEqProofs (disch := first | omega | (simp only [h_szP, h_szS]; done) | (simp only [h_szP, h_szS]; omega)) only [go_sem, Nat.reduceBEq, reduceCtorEq, Nat.reduceAdd, Int.reduceEq, Int.reduceLT, Int.reduceLE, Int.reduceMul, Int.reduceAdd, Int.reduceSub, reduceIte, Nat.reduceLeDiff, Nat.reduceLT, Nat.reduceMul, Nat.reduceSub, Int.reduceToNat, s3, sh27, zc33, sz33, zc27, sz27, fo27_1, ar23, sz22, Tryz.underlying33, fd33_0, Tryz.underlying3, fo33_0, sh3, Tryz.underlying42, sd27, Tryz.underlying27]
  have P2 : (h2.push (.cells #[.int .i64 3, .int .i64 0, .int .u64 0] 33))[h2.size]? = some (.cells #[.int .i64 3, .int .i64 0, .int .u64 0] 33 (0, 0)) := h_pushE _ _ _ rfl
  have KK2' := KK2.push' (o := .cells #[.int .i64 3, .int .i64 0, .int .u64 0] 33) (Nat.le_refl _)
  have B2' : (h2.push (.cells #[.int .i64 3, .int .i64 0, .int .u64 0] 33))[h.size]? = some (.cells (fnL 35 f).toArray 27 (0, 0)) := by rw [h_pushL _ _ _ b2]; exact B2
  refine FnK.use (machines_c (cs := []) (Vs.nil _) (fun x hx => by cases hx) (by simp)) ?_
  intro x h3 ⟨hb, kb, s, cb, M, g, mv, pv, e3, H3, okg, g0', g1', g35, g36, r, hrs, hm, hc, lb, K3⟩
  rw [Array.size_push] at lb
  rw [e3]
  have KK3 := KK2'.of_ext K3 (Nat.le_refl _)
  have P3 := K3.at P2 (by simp)
  have B3 := K3.at B2' (by simp; omega)
  have p3 := getElem?_lt P3
  have b3 := getElem?_lt B3
  have L3 : cellsO 0 35 h3[h.size]? = some (fnL 35 f) := by rw [B3, l1]
  simp -implicitDefEqProofs (disch := first | omega | (simp only [h_szP, h_szS]; done) | (simp only [h_szP, h_szS]; omega)) only [go_sem, Nat.reduceBEq, reduceCtorEq, Nat.reduceAdd, Int.reduceEq, Int.reduceLT, Int.reduceLE, Int.reduceMul, Int.reduceAdd, Int.reduceSub, reduceIte, Nat.reduceLeDiff, Nat.reduceLT, Nat.reduceMul, Nat.reduceSub, Int.reduceToNat, s3, sh27, zc33, sz33, zc27, sz27, fo27_1, ar23, sz22, Tryz.underlying33, fd33_0, Tryz.underlying3, fo33_0, sh3, Tryz.underlying42, sd27, Tryz.underlying27, L3]
  refine FnK.use (hset_c H3 ok) ?_
  intro x h4 ⟨e4, H4, s4, o4⟩
  have B4 := (o4 h.size b3 (by omega)).trans B3
  have P4 := (o4 h2.size p3 (by omega)).trans P3
  have okX : okS (fun i => if i < 35 then zeroAt f i else g i) := by
    refine ⟨fun i hi => ?_, ?_⟩
    · show ∃ n, (if i < 35 then zeroAt f i else g i) = Value.int .u64 n
      rw [if_pos (by omega)]; exact ok.zero.1 i hi
    · show ∃ n, (if (34 : Nat) < 35 then zeroAt f 34 else g 34) = Value.int .i64 n
      rw [if_pos (by omega)]; exact ok.zero.2
  simp -implicitDefEqProofs (disch := first | omega | (simp only [h_szP, h_szS]; done) | (simp only [h_szP, h_szS]; omega)) only [go_sem, Nat.reduceBEq, reduceCtorEq, Nat.reduceAdd, Int.reduceEq, Int.reduceLT, Int.reduceLE, Int.reduceMul, Int.reduceAdd, Int.reduceSub, reduceIte, Nat.reduceLeDiff, Nat.reduceLT, Nat.reduceMul, Nat.reduceSub, Int.reduceToNat, s3, sh27, zc33, sz33, zc27, sz27, fo27_1, ar23, sz22, Tryz.underlying33, fd33_0, Tryz.underlying3, fo33_0, sh3, Tryz.underlying42, sd27, Tryz.underlying27]
  refine FnK.use (hstate_c H4 okX) ?_
  intro x h5 ⟨e5, K5⟩
  have ef : fnL 35 (fun i => if i < 35 then zeroAt f i else g i) = fnL 35 (fun i => if i = 1 then Value.int .u64 0 else f i) := fnL_congr fun i hi => by
    show (if i < 35 then zeroAt f i else g i) = _
    rw [if_pos hi]; rfl
  have b4 := getElem?_lt B4
  have p4 := getElem?_lt P4
  have B5 := K5.at B4 b4
  have P5 := K5.at P4 p4
  have b5 := getElem?_lt B5
  have p5 := getElem?_lt P5
  have oneZ : (fnL 35 (fun i => if i = 1 then Value.int .u64 0 else f i)).all SX.one = true := ok.zero.one
  unfold sv at e5
  rw [ef] at e5
  rw [e5]
  simp -implicitDefEqProofs (disch := first | omega | (simp only [h_szP, h_szS]; done) | (simp only [h_szP, h_szS]; omega)) only [go_sem, Nat.reduceBEq, reduceCtorEq, Nat.reduceAdd, Int.reduceEq, Int.reduceLT, Int.reduceLE, Int.reduceMul, Int.reduceAdd, Int.reduceSub, reduceIte, Nat.reduceLeDiff, Nat.reduceLT, Nat.reduceMul, Nat.reduceSub, Int.reduceToNat, s3, sh27, zc33, sz33, zc27, sz27, fo27_1, ar23, sz22, Tryz.underlying33, fd33_0, Tryz.underlying3, fo33_0, sh3, Tryz.underlying42, sd27, Tryz.underlying27, fnL_len, setL_35, oneZ, B5, fnL_set]
  obtain ⟨h6, e6⟩ : ∃ h6, h6 = (h5.setIfInBounds h.size (.cells (fnL 35 (fun i => if i = 1 then Value.int .u64 0 else f i)).toArray 27 (0, 0))).push (.cells (fnL 35 (fun i => if i = 1 then Value.int .u64 0 else f i)).toArray 27 (0, 0)) := ⟨_, rfl⟩
  rw [← e6]
  have s2' := KK2.size
  have z6 : h6.size = h5.size + 1 := by rw [e6]; simp
  have B6 : h6[h.size]? = some (.cells (fnL 35 (fun i => if i = 1 then Value.int .u64 0 else f i)).toArray 27 (0, 0)) := by rw [e6, h_pushL _ _ _ (by simp; omega)]; exact h_setS _ _ _ b5
  have C6 : h6[h5.size]? = some (.cells (fnL 35 (fun i => if i = 1 then Value.int .u64 0 else f i)).toArray 27 (0, 0)) := by rw [e6]; exact h_pushE _ _ _ (by simp)
  have P6 : h6[h2.size]? = some (.cells #[.int .i64 3, .int .i64 0, .int .u64 0] 33 (0, 0)) := by rw [e6, h_pushL _ _ _ (by simp; omega), h_setN _ _ _ _ (by omega)]; exact P5
  have O6 : ∀ b, b < h.size → h6[b]? = h[b]? := fun b hb' => by
    rw [e6, h_pushL _ _ _ (by simp; omega), h_setN _ _ _ _ (by omega), K5.old b (by omega), o4 b (by omega) (by omega), KK3.old b hb']
  refine FnK.use (answers11_c _) ?_
  intro x h7 ⟨e7, K7⟩
  rw [e7]
  have B7 := K7.at B6 (by omega)
  have C7 := K7.at C6 (by omega)
  have P7 := K7.at P6 (by omega)
  have s7 := K7.size
  simp -implicitDefEqProofs (disch := first | omega | (simp only [h_szP, h_szS]; done) | (simp only [h_szP, h_szS]; omega)) only [go_sem, Nat.reduceBEq, reduceCtorEq, Nat.reduceAdd, Int.reduceEq, Int.reduceLT, Int.reduceLE, Int.reduceMul, Int.reduceAdd, Int.reduceSub, reduceIte, Nat.reduceLeDiff, Nat.reduceLT, Nat.reduceMul, Nat.reduceSub, Int.reduceToNat, s3, sh27, zc33, sz33, zc27, sz27, fo27_1, ar23, sz22, Tryz.underlying33, fd33_0, Tryz.underlying3, fo33_0, sh3, Tryz.underlying42, sd27, Tryz.underlying27]
  refine FnK.use (hstep_n _) ?_
  intro x h8 ⟨e8, K8⟩
  rw [e8]
  have B8 := K8.at B7 (by omega)
  have C8 := K8.at C7 (by omega)
  have P8 := K8.at P7 (by omega)
  have s8 := K8.size
  simp -implicitDefEqProofs (disch := first | omega | (simp only [h_szP, h_szS]; done) | (simp only [h_szP, h_szS]; omega)) only [go_sem, Nat.reduceBEq, reduceCtorEq, Nat.reduceAdd, Int.reduceEq, Int.reduceLT, Int.reduceLE, Int.reduceMul, Int.reduceAdd, Int.reduceSub, reduceIte, Nat.reduceLeDiff, Nat.reduceLT, Nat.reduceMul, Nat.reduceSub, Int.reduceToNat, s3, sh27, zc33, sz33, zc27, sz27, fo27_1, ar23, sz22, Tryz.underlying33, fd33_0, Tryz.underlying3, fo33_0, sh3, Tryz.underlying42, sd27, Tryz.underlying27, P8]
  refine FnK.val (hspace_n _) ?_
  simp -implicitDefEqProofs (disch := first | omega | (simp only [h_szP, h_szS]; done) | (simp only [h_szP, h_szS]; omega)) only [go_sem, Nat.reduceBEq, reduceCtorEq, Nat.reduceAdd, Int.reduceEq, Int.reduceLT, Int.reduceLE, Int.reduceMul, Int.reduceAdd, Int.reduceSub, reduceIte, Nat.reduceLeDiff, Nat.reduceLT, Nat.reduceMul, Nat.reduceSub, Int.reduceToNat, s3, sh27, zc33, sz33, zc27, sz27, fo27_1, ar23, sz22, Tryz.underlying33, fd33_0, Tryz.underlying3, fo33_0, sh3, Tryz.underlying42, sd27, Tryz.underlying27]
  refine FnK.use (hstate_n _) ?_
  intro x h9 ⟨e9, K9⟩
  rw [e9]
  have B9 := K9.at B8 (by omega)
  have C9 := K9.at C8 (by omega)
  have okZ : okS (fun i => if i = 1 then Value.int .u64 0 else f i) := ok.zero
  have eS := fun x y => eqS x y okZ
  have lz : cellsO 0 35 (some (.cells (fnL 35 (fun i => if i = 1 then Value.int .u64 0 else f i)).toArray 27 (0, 0))) = some (fnL 35 (fun i => if i = 1 then Value.int .u64 0 else f i)) := by rw [fnL_cells (by omega)]; simp
  have LB : cellsO 0 35 h9[h.size]? = some (fnL 35 (fun i => if i = 1 then Value.int .u64 0 else f i)) := by rw [B9, lz]
  have LC : cellsO 0 35 h9[h5.size]? = some (fnL 35 (fun i => if i = 1 then Value.int .u64 0 else f i)) := by rw [C9, lz]
  simp -implicitDefEqProofs (disch := first | omega | (simp only [h_szP, h_szS]; done) | (simp only [h_szP, h_szS]; omega)) only [go_sem, Nat.reduceBEq, reduceCtorEq, Nat.reduceAdd, Int.reduceEq, Int.reduceLT, Int.reduceLE, Int.reduceMul, Int.reduceAdd, Int.reduceSub, reduceIte, Nat.reduceLeDiff, Nat.reduceLT, Nat.reduceMul, Nat.reduceSub, Int.reduceToNat, s3, sh27, zc33, sz33, zc27, sz27, fo27_1, ar23, sz22, Tryz.underlying33, fd33_0, Tryz.underlying3, fo33_0, sh3, Tryz.underlying42, sd27, Tryz.underlying27, eqZ, eS, LB, LC]
  exact fun b hb' => by rw [K9.old b (by omega), K8.old b (by omega), K7.old b (by omega), O6 b hb']
end Go.SX.G
namespace Go.SX.G
open Go Go.SX Go.Proofs Go.RowKit Go.ChangeShapes Go.WideShapes
set_option maxRecDepth 100000
set_option maxHeartbeats 1000000
/-- a state, by value. -/
def NS (v : Value) : Prop := ∃ f, v = sv f ∧ okS f
theorem int_okWide {W : World} {base : Nat} {t : TypeId} {k : IntKind} {v : Value} (ht : Tryz.prog.underlying t = some (.int k)) (h : Cell.okWide Tryz.prog W .any base t v) : ∃ n, v = .int k n := by
  have : Value.okWide Tryz.prog W .any base t v := by
    simp only [Value.okWide, ht]
    exact h
  exact okWide_int ht this
theorem open_state {H : Type} {enc : TypeId × Value → H} {W : World} {base : Nat} {v : Value} {d : DataW H} {ps : List MemPlace} (hval : Value.okWide Tryz.prog W .any base 27 v)
    (h : DataW.Trod enc Tryz.prog W 0 (fun _ => true) true 27 v d ps) : NS v := by
  simp only [Value.okWide, Tryz.underlying27] at hval
  obtain ⟨cs, rfl, hsz, ts, hts, _, hcell⟩ := hval
  have e : Tryz.prog.cellTypes Tryz.prog.depth 27 = some (List.replicate 34 22 ++ [3]) := by kernel_rfl
  rw [e] at hts
  obtain rfl := Option.some.inj hts
  have h35 : cs.size = 35 := hsz.trans (by kernel_rfl)
  have get : ∀ i (hi : i < 35), cs[i]? = some (cs.getD i .nilIface) := fun i hi => by
    rw [Array.getElem?_eq_getElem (by omega), Array.getD_eq_getD_getElem?, Array.getElem?_eq_getElem (by omega)]
    rfl
  refine ⟨fun i => cs.getD i .nilIface, ?_, fun i hi => ?_, ?_⟩
  · unfold sv
    congr 1
    apply Array.ext_getElem?
    intro i
    have e : (fnL 35 fun i => cs.getD i .nilIface).toArray[i]? = (fnL 35 fun i => cs.getD i .nilIface)[i]? := List.getElem?_toArray ..
    rw [e]
    by_cases hi : i < 35
    · rw [fnL_get _ _ _ hi, get i hi]
    · rw [List.getElem?_eq_none (by rw [fnL_len]; omega), Array.getElem?_eq_none (by omega)]
  · obtain ⟨u, hu, hx⟩ := hcell i _ (get i (by omega))
    have : u = 22 := by
      rw [List.length_append, List.length_replicate, List.length_singleton, Nat.mod_eq_of_lt (by omega), List.getElem?_append_left (by simp; omega), List.getElem?_replicate, if_pos hi] at hu
      exact (Option.some.inj hu).symm
    subst this
    exact int_okWide Tryz.underlying22 hx
  · obtain ⟨u, hu, hx⟩ := hcell 34 _ (get 34 (by omega))
    have : u = 3 := by
      rw [List.length_append, List.length_replicate, List.length_singleton] at hu
      exact (Option.some.inj hu).symm
    subst this
    exact int_okWide Tryz.underlying3 hx
theorem hartnone_v {h : Heap} {v : Value} (hv : NS v) (n : Int) (hn : -9223372036854775808 ≤ n ∧ n < 9223372036854775808) : Fn Tryz.prog 3 [v, .int .i64 n] h fun x h' => x = .bool true ∧ ∀ b, b < h.size → h'[b]? = h[b]? := by
  obtain ⟨f, rfl, ok⟩ := hv
  exact hartnone_c f ok n
end Go.SX.G
