/- Regions: what the package's functions do. No condition but on sizes. -/
import Derived.Test.YteoiokeiddlchaaGreatRegE
set_option linter.unusedVariables false
set_option linter.unusedSimpArgs false
namespace Go.SX.G
open Go Go.SX Go.Proofs
set_option maxRecDepth 100000
set_option maxHeartbeats 1000000
theorem with1_c {h : Heap} {bc : Nat} {f : Nat × Nat} {t : Nat} (q r : Reg) (hb : h[bc]? = some (.cells #[.int .u64 r.s, .int .u64 r.e, .int .i64 r.p] t f)) :
    Fn Tryz.prog 93 [.agg #[.int .u64 q.s, .int .u64 q.e, .int .i64 q.p], ptr bc 0] h fun x h' => x = .bool (decide (r.s < q.s)) ∧ Keeps h.size h h' := by
  have hlt := getElem?_lt hb
  have kp : ∀ o, Keeps h.size h (h.push o) := fun o => Keeps.push h o (Nat.le_refl _)
  refine Fn_c Tryz.func93 mixed c93 (by kernel_rfl) ?_; rw [r93]
  simp -implicitDefEqProofs (disch := first | omega | (simp only [h_szP, h_szS]; done) | (simp only [h_szP, h_szS]; omega)) only [go_sem, Nat.reduceBEq, reduceCtorEq, Nat.reduceAdd, Int.reduceEq, Int.reduceLT, Int.reduceLE, Int.reduceMul, Int.reduceAdd, Int.reduceSub, reduceIte, Nat.reduceLeDiff, Nat.reduceLT, Nat.reduceMul, Nat.reduceSub, Int.reduceToNat, s93, fo85_0, sh22, Tryz.underlying22, hb]
  refine ⟨?_, kp _⟩
  congr 2; apply propext; omega
theorem free1_c {h : Heap} {b1 b2 s e : Nat} {f1 f2 : Nat × Nat} {t1 t2 : Nat} (q : Reg) (hb1 : h[b1]? = some (.cells #[.int .u64 e] t1 f1)) (hb2 : h[b2]? = some (.cells #[.int .u64 s] t2 f2)) :
    Fn Tryz.prog 63 [.agg #[.int .u64 q.s, .int .u64 q.e, .int .i64 q.p], ptr b1 0, ptr b2 0] h fun x h' => x = .bool (decide (q.s < e ∧ s < q.e)) ∧ Keeps h.size h h' := by
  have hlt1 := getElem?_lt hb1
  have hlt2 := getElem?_lt hb2
  have kp : ∀ o, Keeps h.size h (h.push o) := fun o => Keeps.push h o (Nat.le_refl _)
  refine Fn_c Tryz.func63 mixed c63 (by kernel_rfl) ?_; rw [r63]
  simp -implicitDefEqProofs (disch := first | omega | (simp only [h_szP, h_szS]; done) | (simp only [h_szP, h_szS]; omega)) only [go_sem, Nat.reduceBEq, reduceCtorEq, Nat.reduceAdd, Int.reduceEq, Int.reduceLT, Int.reduceLE, Int.reduceMul, Int.reduceAdd, Int.reduceSub, reduceIte, Nat.reduceLeDiff, Nat.reduceLT, Nat.reduceMul, Nat.reduceSub, Int.reduceToNat, s63, fo85_0, sh22, Tryz.underlying22, fo85_1, hb1, hb2]
  repeat' first | intro _ | refine And.intro ?_ ?_
  all_goals first | exact kp _ | (congr 1; symm; first | (apply decide_eq_true; omega) | (apply decide_eq_false; omega) | (congr 1; apply propext; omega))
theorem with_c {h : Heap} {v : Value} {rs : List Reg} (r : Reg) (hv : Vs h v encR 3 rs) (hn : rs.length ≤ 1000000000) :
    Fn Tryz.prog 67 [v, .agg #[.int .u64 r.s, .int .u64 r.e, .int .i64 r.p]] h fun x h' => Ss h' h.size x 85 encR 3 (wiL rs r) ∧ Keeps h.size h h' := by
  have K0 : Keeps h.size h (h.push (.cells #[.int .u64 r.s, .int .u64 r.e, .int .i64 r.p] 85)) := Keeps.push h _ (Nat.le_refl _)
  refine Fn_c Tryz.func67 mixed c67 (by kernel_rfl) ?_; rw [r67]
  simp -implicitDefEqProofs (disch := first | omega | (simp only [h_szP, h_szS]; done) | (simp only [h_szP, h_szS]; omega)) only [go_sem, Nat.reduceBEq, reduceCtorEq, Nat.reduceAdd, Int.reduceEq, Int.reduceLT, Int.reduceLE, Int.reduceMul, Int.reduceAdd, Int.reduceSub, reduceIte, Nat.reduceLeDiff, Nat.reduceLT, Nat.reduceMul, Nat.reduceSub, Int.reduceToNat, s67, fo85_0, sh22, fo85_1, Tryz.underlying3, Tryz.underlying82, sl82, ze85, by85, sz85, sh85]
  refine FnK.use (without_c r.s r.e (hv.ext K0) hn) ?_
  intro v1 h1 ⟨S1, K1⟩
  have hwl := woL_len r.s r.e rs
  have hbx : h1[h.size]? = some (.cells #[.int .u64 r.s, .int .u64 r.e, .int .i64 r.p] 85 (0, 0)) := by rw [K1.old _ (by simp)]; simp -implicitDefEqProofs (disch := first | omega | (simp only [h_szP, h_szS]; done) | (simp only [h_szP, h_szS]; omega)) only [go_sem, Nat.reduceBEq, reduceCtorEq, Nat.reduceAdd, Int.reduceEq, Int.reduceLT, Int.reduceLE, Int.reduceMul, Int.reduceAdd, Int.reduceSub, reduceIte, Nat.reduceLeDiff, Nat.reduceLT, Nat.reduceMul, Nat.reduceSub, Int.reduceToNat]
  simp -implicitDefEqProofs (disch := first | omega | (simp only [h_szP, h_szS]; done) | (simp only [h_szP, h_szS]; omega)) only [go_sem, Nat.reduceBEq, reduceCtorEq, Nat.reduceAdd, Int.reduceEq, Int.reduceLT, Int.reduceLE, Int.reduceMul, Int.reduceAdd, Int.reduceSub, reduceIte, Nat.reduceLeDiff, Nat.reduceLT, Nat.reduceMul, Nat.reduceSub, Int.reduceToNat, s67, fo85_0, sh22, fo85_1, Tryz.underlying3, Tryz.underlying82, sl82, ze85, by85, sz85, sh85]
  refine FnK.use (indexFunc_c (fun q => decide (r.s < q.s)) S1.vs (by omega) ?_) ?_
  · intro q hq h2 K2
    exact with1_c (t := 85) (f := (0, 0)) q r (K2.at hbx (getElem?_lt hbx))
  intro x h2 hx
  obtain ⟨e1, K2⟩ := hx
  have K3 : Keeps (h.size + 1) (h.push (.cells #[.int .u64 r.s, .int .u64 r.e, .int .i64 r.p] 85)) h2 := by
    have := K1.trans (K2.le K1.1)
    rwa [Array.size_push] at this
  have hbx2 := K2.at hbx (getElem?_lt hbx)
  have S2 := S1.ext K2
  have hlt2 := getElem?_lt hbx2
  have fin : ∀ {K : Value → Heap → Prop}, (∀ x h', (Ss h' h.size x 85 encR 3 (wiL rs r) ∧ Keeps h.size h h') → K x h') →
      @FnK Tryz.prog 94 [v1, .int .i64 ((insAt (woL r.s r.e rs) r : Nat) : Int), .slice (some ⟨h2.size, 0, none⟩) 1 1] (h2.push (.cells #[.int .u64 r.s, .int .u64 r.e, .int .i64 r.p] 85)) ⟨K⟩ := by
    intro K hK
    refine FnK.use (insert_c (lo := h.size) (r := r) ((S2.push _).le (by simp)) (by simp; have := K3.1; simp at this; omega) (h_pushE _ _ _ rfl) (fun e => by have := (S2.blk e).2; omega) List.findIdx_le_length (by omega)) ?_
    intro y h3 ⟨S3, K4⟩
    refine hK y h3 ⟨S3, (K0.trans (K3.le (by omega))).trans ((Keeps.push h2 _ ?_).trans K4)⟩
    have := K3.1; simp at this; omega
  rw [e1]
  rcases idxOf_ins (fun q => decide (r.s < q.s)) (woL r.s r.e rs) with ⟨hneg, hi⟩ | ⟨hneg, hi, hi2⟩
  · have hd : decide (idxOf (fun q => decide (r.s < q.s)) (woL r.s r.e rs) < 0) = true := decide_eq_true hneg
    obtain ⟨a, cap, e2, hcap⟩ := S2.vs.shape
    subst e2
    simp -implicitDefEqProofs (disch := first | omega | (simp only [h_szP, h_szS]; done) | (simp only [h_szP, h_szS]; omega)) only [go_sem, Nat.reduceBEq, reduceCtorEq, Nat.reduceAdd, Int.reduceEq, Int.reduceLT, Int.reduceLE, Int.reduceMul, Int.reduceAdd, Int.reduceSub, reduceIte, Nat.reduceLeDiff, Nat.reduceLT, Nat.reduceMul, Nat.reduceSub, Int.reduceToNat, s67, fo85_0, sh22, fo85_1, Tryz.underlying3, Tryz.underlying82, sl82, ze85, by85, sz85, sh85, hd, hbx2]
    have e3 : insAt (woL r.s r.e rs) r = (woL r.s r.e rs).length := hi
    rw [← e3]
    rw [← e3] at fin
    refine fin ?_
    intro x h3 hh
    simp -implicitDefEqProofs (disch := first | omega | (simp only [h_szP, h_szS]; done) | (simp only [h_szP, h_szS]; omega)) only [go_sem, Nat.reduceBEq, reduceCtorEq, Nat.reduceAdd, Int.reduceEq, Int.reduceLT, Int.reduceLE, Int.reduceMul, Int.reduceAdd, Int.reduceSub, reduceIte, Nat.reduceLeDiff, Nat.reduceLT, Nat.reduceMul, Nat.reduceSub, Int.reduceToNat, s67, fo85_0, sh22, fo85_1, Tryz.underlying3, Tryz.underlying82, sl82, ze85, by85, sz85, sh85]
    exact hh
  · have hd : decide (idxOf (fun q => decide (r.s < q.s)) (woL r.s r.e rs) < 0) = false := decide_eq_false hneg
    simp -implicitDefEqProofs (disch := first | omega | (simp only [h_szP, h_szS]; done) | (simp only [h_szP, h_szS]; omega)) only [go_sem, Nat.reduceBEq, reduceCtorEq, Nat.reduceAdd, Int.reduceEq, Int.reduceLT, Int.reduceLE, Int.reduceMul, Int.reduceAdd, Int.reduceSub, reduceIte, Nat.reduceLeDiff, Nat.reduceLT, Nat.reduceMul, Nat.reduceSub, Int.reduceToNat, s67, fo85_0, sh22, fo85_1, Tryz.underlying3, Tryz.underlying82, sl82, ze85, by85, sz85, sh85, hd, hbx2]
    rw [hi]
    refine fin ?_
    intro x h3 hh
    simp -implicitDefEqProofs (disch := first | omega | (simp only [h_szP, h_szS]; done) | (simp only [h_szP, h_szS]; omega)) only [go_sem, Nat.reduceBEq, reduceCtorEq, Nat.reduceAdd, Int.reduceEq, Int.reduceLT, Int.reduceLE, Int.reduceMul, Int.reduceAdd, Int.reduceSub, reduceIte, Nat.reduceLeDiff, Nat.reduceLT, Nat.reduceMul, Nat.reduceSub, Int.reduceToNat, s67, fo85_0, sh22, fo85_1, Tryz.underlying3, Tryz.underlying82, sl82, ze85, by85, sz85, sh85]
    exact hh
end Go.SX.G
