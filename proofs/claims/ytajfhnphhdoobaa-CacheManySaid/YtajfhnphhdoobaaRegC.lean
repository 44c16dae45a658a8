/- Regions, the library's functions on their slices. No condition but on sizes. -/
import Derived.Test.YtajfhnphhdoobaaRegB
import Derived.Test.YtajfhnphhdoobaaSxExt
set_option linter.unusedVariables false
set_option linter.unusedSimpArgs false
namespace Go.SX.G
open Go Go.SX Go.Proofs
set_option maxRecDepth 100000
set_option maxHeartbeats 1000000
theorem insert_c {h : Heap} {lo bw : Nat} {v : Value} {rs : List Reg} {r : Reg} {i : Nat} (hv : Ss h lo v 83 encR 3 rs) (hlo : lo ≤ h.size) (hw : h[bw]? = some (.cells #[.int .u64 r.s, .int .u64 r.e, .int .i64 r.p] 83 (0, 0))) (hne : blk v ≠ some bw)
    (hi : i ≤ rs.length) (hl : rs.length ≤ 4000000000) :
    Fn Try.prog 85 [v, .int .i64 i, .slice (some ⟨bw, 0, none⟩) 1 1] h fun x h' => Ss h' lo x 83 encR 3 (rs.take i ++ [r] ++ rs.drop i) ∧ Keeps lo h h' := by
  obtain ⟨a, cap, e1, hcap⟩ := hv.vs.shape
  subst e1
  have hbw := getElem?_lt hw
  refine Fn_c Try.func85 mixed c85 (by kernel_rfl) ?_; rw [r85]
  by_cases hin : i = rs.length
  · subst hin
    simp -implicitDefEqProofs (disch := first | omega | (simp only [h_szP, h_szS]; done) | (simp only [h_szP, h_szS]; omega)) only [go_sem, Nat.reduceBEq, reduceCtorEq, Nat.reduceAdd, Int.reduceEq, Int.reduceLT, Int.reduceLE, Int.reduceMul, Int.reduceAdd, Int.reduceSub, reduceIte, Nat.reduceLeDiff, Nat.reduceLT, Nat.reduceMul, Nat.reduceSub, Int.reduceToNat, s85, Try.underlying115, sl115, ze83, by83, sz83, Try.underlying3]
    refine app_one (x := r) elR encR_len hv hw rfl rfl (by omega) hlo ?_
    intro v' h' S' K' F' B'
    simp -implicitDefEqProofs (disch := first | omega | (simp only [h_szP, h_szS]; done) | (simp only [h_szP, h_szS]; omega)) only [go_sem, Nat.reduceBEq, reduceCtorEq, Nat.reduceAdd, Int.reduceEq, Int.reduceLT, Int.reduceLE, Int.reduceMul, Int.reduceAdd, Int.reduceSub, reduceIte, Nat.reduceLeDiff, Nat.reduceLT, Nat.reduceMul, Nat.reduceSub, Int.reduceToNat, s85, Try.underlying115, sl115, ze83, by83, sz83, Try.underlying3]
    refine ⟨?_, K'⟩
    rw [List.take_length, List.drop_length, List.append_nil]
    exact S'
  · have hin' : i < rs.length := by omega
    obtain ⟨b, cap', e1, hcap', hlb, hb⟩ := hv.open hin'
    cases e1
    have hd1 : ((i : Int) = rs.length) = False := eq_false (by omega)
    by_cases hroom : cap < rs.length + 1
    · have hd2 : ((cap : Int) < rs.length + 1) = True := eq_true (by omega)
      simp -implicitDefEqProofs (disch := first | omega | (simp only [h_szP, h_szS]; done) | (simp only [h_szP, h_szS]; omega)) only [go_sem, Nat.reduceBEq, reduceCtorEq, Nat.reduceAdd, Int.reduceEq, Int.reduceLT, Int.reduceLE, Int.reduceMul, Int.reduceAdd, Int.reduceSub, reduceIte, Nat.reduceLeDiff, Nat.reduceLT, Nat.reduceMul, Nat.reduceSub, Int.reduceToNat, s85, Try.underlying115, sl115, ze83, by83, sz83, Try.underlying3, hd1, hd2]
      refine app_make (old := flat encR (rs.take i)) elR (by rw [Try.underlying3]; rfl) (by omega) (by omega) ?_ (by omega) ?_
      · have := hv.vs.src (k := i) hi
        rw [flat_take encR_len] at this
        simpa [srcCells] using this
      · intro cap2 hcap2
        have ec : i + ((rs.length : Int) + 1 - i).toNat = rs.length + 1 := by omega
        rw [ec]
        simp -implicitDefEqProofs (disch := first | omega | (simp only [h_szP, h_szS]; done) | (simp only [h_szP, h_szS]; omega)) only [go_sem, Nat.reduceBEq, reduceCtorEq, Nat.reduceAdd, Int.reduceEq, Int.reduceLT, Int.reduceLE, Int.reduceMul, Int.reduceAdd, Int.reduceSub, reduceIte, Nat.reduceLeDiff, Nat.reduceLT, Nat.reduceMul, Nat.reduceSub, Int.reduceToNat, s85, Try.underlying115, sl115, ze83, by83, sz83, Try.underlying3]
        have hdl : (flat encR (rs.drop i)).length = (rs.length - i) * 3 := by rw [flat_len encR_len, List.length_drop]
        have htl : (flat encR (rs.take i)).length = i * 3 := by rw [flat_len encR_len, List.length_take, Nat.min_eq_left hi]
        have hzl := zeros_len (z := .agg #[.int .u64 0, .int .u64 0, .int .i64 0]) (size := 3) rfl (cap2 - i)
        refine copy_into (cs := encR r) sl115 rfl rfl ?_ (h_pushE _ _ _ rfl) rfl ?_ ?_
        · have e1 : min 1 (rs.length + 1 - i) = 1 := by omega
          rw [e1]
          simp only [srcCells, cells?]
          rw [h_pushL _ _ _ hbw, hw]; rfl
        · simp only [List.size_toArray, List.length_append]; rw [htl, hzl, encR_len]; omega
        simp -implicitDefEqProofs (disch := first | omega | (simp only [h_szP, h_szS]; done) | (simp only [h_szP, h_szS]; omega)) only [go_sem, Nat.reduceBEq, reduceCtorEq, Nat.reduceAdd, Int.reduceEq, Int.reduceLT, Int.reduceLE, Int.reduceMul, Int.reduceAdd, Int.reduceSub, reduceIte, Nat.reduceLeDiff, Nat.reduceLT, Nat.reduceMul, Nat.reduceSub, Int.reduceToNat, s85, Try.underlying115, sl115, ze83, by83, sz83, Try.underlying3]
        refine copy_into (cs := flat encR (rs.drop i)) sl115 rfl rfl ?_ (h_pushE _ _ _ rfl) ?_ ?_ ?_
        · have e1 : min (rs.length - i) (rs.length + 1 - (i + 1)) = rs.length - i := by omega
          rw [e1]
          have := hv.vs.srcDrop (i := i) hi (rs.length) cap
          rw [flat_drop encR_len, Nat.zero_add] at this
          simpa [srcCells, cells?, h_pushL _ _ _ hb, h_setPE] using this
        · exact flat_all encR_one _
        · simp only [List.size_toArray, setL_len, List.length_append]; rw [htl, hzl, hdl]; omega
        simp -implicitDefEqProofs (disch := first | omega | (simp only [h_szP, h_szS]; done) | (simp only [h_szP, h_szS]; omega)) only [go_sem, Nat.reduceBEq, reduceCtorEq, Nat.reduceAdd, Int.reduceEq, Int.reduceLT, Int.reduceLE, Int.reduceMul, Int.reduceAdd, Int.reduceSub, reduceIte, Nat.reduceLeDiff, Nat.reduceLT, Nat.reduceMul, Nat.reduceSub, Int.reduceToNat, s85, Try.underlying115, sl115, ze83, by83, sz83, Try.underlying3]
        refine ⟨?_, Keeps.push _ _ hlo⟩
        have hl2 : (rs.take i ++ [r] ++ rs.drop i).length = rs.length + 1 := by simp; omega
        have hz := ins_new (flat encR (rs.take i)) (flat encR (rs.drop i)) (zeros (.agg #[.int .u64 0, .int .u64 0, .int .i64 0]) (cap2 - i)) (encR r) (by rw [hdl, hzl, encR_len]; omega)
        rw [htl, encR_len] at hz
        rw [Nat.add_mul, Nat.one_mul, hz]
        refine Ss.mk encR_len _ (h_pushE _ _ _ rfl) (by rw [flat_app, flat_app]; congr 1) (by rw [hl2]) (by omega) ?_ hlo
        simp only [List.length_append, List.length_drop, hzl, hdl, htl, encR_len]; omega
    · have hd2 : ((cap : Int) < rs.length + 1) = False := eq_false (by omega)
      simp -implicitDefEqProofs (disch := first | omega | (simp only [h_szP, h_szS]; done) | (simp only [h_szP, h_szS]; omega)) only [go_sem, Nat.reduceBEq, reduceCtorEq, Nat.reduceAdd, Int.reduceEq, Int.reduceLT, Int.reduceLE, Int.reduceMul, Int.reduceAdd, Int.reduceSub, reduceIte, Nat.reduceLeDiff, Nat.reduceLT, Nat.reduceMul, Nat.reduceSub, Int.reduceToNat, s85, Try.underlying115, sl115, ze83, by83, sz83, Try.underlying3, hd1, hd2]
      have hroom' : rs.length + 1 ≤ cap := by omega
      rcases hv.2 with ⟨h0, _⟩ | ⟨b', cap', hv', hc', hlb', rest, hB, hr⟩
      · cases h0
      cases hv'
      have hr2 := hr
      rw [flat_len encR_len] at hr2
      refine FnK.val (overlaps_Fn Try.func103 (by kernel_rfl) (by kernel_rfl) (by kernel_rfl) (tS := 115) (tR := 4) (by kernel_rfl) Try.underlying115 sz83 (fun e => hne (by rw [e]; rfl)) hw hB ?_) ?_
      · simp [flat_len encR_len]; omega
      simp -implicitDefEqProofs (disch := first | omega | (simp only [h_szP, h_szS]; done) | (simp only [h_szP, h_szS]; omega)) only [go_sem, Nat.reduceBEq, reduceCtorEq, Nat.reduceAdd, Int.reduceEq, Int.reduceLT, Int.reduceLE, Int.reduceMul, Int.reduceAdd, Int.reduceSub, reduceIte, Nat.reduceLeDiff, Nat.reduceLT, Nat.reduceMul, Nat.reduceSub, Int.reduceToNat, s85, Try.underlying115, sl115, ze83, by83, sz83, Try.underlying3]
      refine copy_into (cs := flat encR (rs.drop i)) sl115 rfl rfl ?_ hB ?_ ?_ ?_
      · have e1 : min (rs.length + 1 - i) (rs.length + 1 - (i + 1)) = rs.length - i := by omega
        rw [e1]
        have := hv.vs.srcDrop (i := i) hi (rs.length + 1 - i) (cap - i)
        rw [flat_drop encR_len, Nat.zero_add] at this
        exact this
      · exact flat_all encR_one _
      · simp only [List.size_toArray, List.length_append, flat_len encR_len, List.length_drop]; omega
      simp -implicitDefEqProofs (disch := first | omega | (simp only [h_szP, h_szS]; done) | (simp only [h_szP, h_szS]; omega)) only [go_sem, Nat.reduceBEq, reduceCtorEq, Nat.reduceAdd, Int.reduceEq, Int.reduceLT, Int.reduceLE, Int.reduceMul, Int.reduceAdd, Int.reduceSub, reduceIte, Nat.reduceLeDiff, Nat.reduceLT, Nat.reduceMul, Nat.reduceSub, Int.reduceToNat, s85, Try.underlying115, sl115, ze83, by83, sz83, Try.underlying3]
      have hbs : (h.setIfInBounds b (.cells (setL (flat encR rs ++ rest) ((i + 1) * 3) (flat encR (rs.drop i))).toArray 83))[b]? = some (.cells (setL (flat encR rs ++ rest) ((i + 1) * 3) (flat encR (rs.drop i))).toArray 83 (0, 0)) := h_setS _ _ _ hb
      refine copy_into (cs := encR r) sl115 rfl rfl ?_ hbs rfl ?_ ?_
      · have e1 : min 1 (rs.length + 1 - i) = 1 := by omega
        rw [e1]
        simp only [srcCells, cells?]
        rw [h_setN _ _ _ _ (fun e => hne (by rw [e]; rfl)), hw]; rfl
      · simp only [List.size_toArray, setL_len, List.length_append, flat_len encR_len, encR_len]; omega
      simp -implicitDefEqProofs (disch := first | omega | (simp only [h_szP, h_szS]; done) | (simp only [h_szP, h_szS]; omega)) only [go_sem, Nat.reduceBEq, reduceCtorEq, Nat.reduceAdd, Int.reduceEq, Int.reduceLT, Int.reduceLE, Int.reduceMul, Int.reduceAdd, Int.reduceSub, reduceIte, Nat.reduceLeDiff, Nat.reduceLT, Nat.reduceMul, Nat.reduceSub, Int.reduceToNat, s85, Try.underlying115, sl115, ze83, by83, sz83, Try.underlying3]
      refine ⟨?_, Keeps.set _ hlb⟩
      have hdl : (flat encR (rs.drop i)).length = (rs.length - i) * 3 := by rw [flat_len encR_len, List.length_drop]
      have htl : (flat encR (rs.take i)).length = i * 3 := by rw [flat_len encR_len, List.length_take, Nat.min_eq_left hi]
      have hal : (flat encR rs).length = rs.length * 3 := flat_len encR_len rs
      have hz := ins_room (flat encR (rs.take i)) (flat encR (rs.drop i)) rest (encR r) (by rw [encR_len]; omega)
      rw [htl, encR_len, ← flat_app, List.take_append_drop] at hz
      rw [Nat.add_mul, Nat.one_mul, hz]
      refine Ss.mk encR_len _ (h_setS _ _ _ hb) (by rw [flat_app, flat_app]; congr 1) (by simp; omega) (by omega) ?_ hlb
      simp only [List.length_append, List.length_drop, hdl, htl, encR_len]; omega
end Go.SX.G
