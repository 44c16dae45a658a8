/- The machines of HartNone. No condition. -/
import Derived.Test.YteoiokeiddlchaaGreatHA
import Derived.Test.YteoiokeiddlchaaGreatHD
set_option linter.unusedVariables false
set_option linter.unusedSimpArgs false
namespace Go.SX.G
open Go Go.SX Go.Proofs
set_option maxRecDepth 100000
set_option maxHeartbeats 4000000
theorem RQ.ge {h : Heap} {lo sp : Nat} {v : Value} {ps : List Pg} (R : RQ h lo sp v ps) {b : Nat} (f : rqf sp v ps b) : lo ≤ b := by
  rcases f with rfl | f | ⟨p, hp, rfl⟩
  · exact R.ls
  · exact R.lv b f
  · exact (R.pg p hp).1
/-- two bytes, or none, put into the reference's first page. -/
theorem rset16_c {h : Heap} {lo sp : Nat} {v : Value} {ps : List Pg} (j c : Nat) (hj : j < 4096) (hc : c < 256) (R : RQ h lo sp v ps) (hl : ps.length = 5) (hn : ∀ i (hi : i < ps.length), ps[i].no = [16, 17, 32, 33, 34].getD i 0) :
    Fn Tryz.prog 30 [ptr sp 0, .int .u64 (65536 + j : Nat), .int .u8 c] h fun r h' => r = .tuple #[] ∧ RQ h' lo sp v ps ∧ h'.size = h.size ∧ ∀ b, ¬ rqf sp v ps b → h'[b]? = h[b]? := by
  have ht := R.top
  have hv := R.vs
  obtain ⟨b, o, cap, e1, hcap, hb⟩ := hv.open (i := 0) (by omega)
  subst e1
  have d1 : (((65536 + j : Nat) : Int) / 4096) = 16 := by omega
  have d2 : (((65536 + j : Nat) : Int) % 4096) = (j : Int) := by omega
  have hE : cellsO (o + 0 * 3) 3 h[b]? = some (encPg ps[0]) := hv.elem encPg_len (by omega)
  have hE2 : cellO (o + 2) h[b]? = some (.slice (some ⟨ps[0].blk, 0, none⟩) 4096 4096) := by
    have := hv.field encPg_len (i := 0) (j := 2) (by omega) (by omega)
    simpa [encPg] using this
  refine Fn_c Tryz.func30 mixed c30 (by kernel_rfl) ?_; rw [r30]
  simp -implicitDefEqProofs (disch := first | omega | (simp only [h_szP, h_szS]; done) | (simp only [h_szP, h_szS]; omega)) only [go_sem, Nat.reduceBEq, reduceCtorEq, Nat.reduceAdd, Int.reduceEq, Int.reduceLT, Int.reduceLE, Int.reduceMul, Int.reduceAdd, Int.reduceSub, reduceIte, Nat.reduceLeDiff, Nat.reduceLT, Nat.reduceMul, Nat.reduceSub, Int.reduceToNat, s30, Tryz.underlying22, fo76_0, sh74, sl74, ze81, by81, sz81, fo81_2, sh48, sl48, ze5, by5, sz5, d1, d2]
  refine FnK.val (rat5_c R hl hn) ?_
  rw [hl] at ht
  simp -implicitDefEqProofs (disch := first | omega | (simp only [h_szP, h_szS]; done) | (simp only [h_szP, h_szS]; omega)) only [go_sem, Nat.reduceBEq, reduceCtorEq, Nat.reduceAdd, Int.reduceEq, Int.reduceLT, Int.reduceLE, Int.reduceMul, Int.reduceAdd, Int.reduceSub, reduceIte, Nat.reduceLeDiff, Nat.reduceLT, Nat.reduceMul, Nat.reduceSub, Int.reduceToNat, s30, Tryz.underlying22, fo76_0, sh74, sl74, ze81, by81, sz81, fo81_2, sh48, sl48, ze5, by5, sz5, ht, hE2, d1, d2]
  obtain ⟨p1, C, c1, c2⟩ := R.pg _ (List.getElem_mem (show 0 < ps.length by omega))
  have lp := getElem?_lt c2
  have w : wrO h ps[0].blk j [.int .u8 (c : Int)] h[ps[0].blk]? = some (h.setIfInBounds ps[0].blk (.cells (setL C.toList j [.int .u8 (c : Int)]).toArray 5 (0, 0))) := by
    rw [c2, h_wrO, if_pos ⟨by simp; omega, rfl⟩]
  simp -implicitDefEqProofs (disch := first | omega | (simp only [h_szP, h_szS]; done) | (simp only [h_szP, h_szS]; omega)) only [go_sem, Nat.reduceBEq, reduceCtorEq, Nat.reduceAdd, Int.reduceEq, Int.reduceLT, Int.reduceLE, Int.reduceMul, Int.reduceAdd, Int.reduceSub, reduceIte, Nat.reduceLeDiff, Nat.reduceLT, Nat.reduceMul, Nat.reduceSub, Int.reduceToNat, s30, Tryz.underlying22, fo76_0, sh74, sl74, ze81, by81, sz81, fo81_2, sh48, sl48, ze5, by5, sz5, w, Nat.mul_one]
  have n1 : sp ≠ ps[0].blk := fun e => by have := R.top; rw [e, c2] at this; simp at this
  have ot : ∀ b, b ≠ ps[0].blk → (h.setIfInBounds ps[0].blk (.cells (setL C.toList j [.int .u8 (c : Int)]).toArray 5 (0, 0)))[b]? = h[b]? := fun b n => h_setN _ _ _ _ n
  refine ⟨⟨(ot sp n1).trans R.top, R.vs.mono fun b e => ot b fun q => R.ne _ (List.getElem_mem (show 0 < ps.length by omega)) (q ▸ e), fun p hp => ⟨(R.pg p hp).1, ?_⟩, R.ls, R.lv, R.ne⟩, fun b hb' => ot b fun e => hb' (.inr (.inr ⟨_, List.getElem_mem (show 0 < ps.length by omega), e⟩))⟩
  by_cases q : p.blk = ps[0].blk
  · refine ⟨_, ?_, by rw [q]; exact h_setS _ _ _ lp⟩
    simp [setL_len, c1]
  · obtain ⟨_, C', k1, k2⟩ := R.pg p hp
    exact ⟨C', k1, (ot _ q).trans k2⟩
/-- no bytes, or two. -/
theorem rlays16_c {h : Heap} {lo sp : Nat} {v cv : Value} {ps : List Pg} {cs : List Nat} (hcv : Vs h cv encB 1 cs) (hb : ∀ x ∈ cs, x < 256) (hlen : cs.length ≤ 2) (hlo : ∀ b, blk cv = some b → b < lo) (R : RQ h lo sp v ps) (hl : ps.length = 5) (hn : ∀ i (hi : i < ps.length), ps[i].no = [16, 17, 32, 33, 34].getD i 0) :
    Fn Tryz.prog 16 [ptr sp 0, .int .u64 65536, cv] h fun r h' => r = .tuple #[] ∧ RQ h' lo sp v ps ∧ h'.size = h.size ∧ ∀ b, ¬ rqf sp v ps b → h'[b]? = h[b]? := by
  obtain ⟨a, cap, e1, _⟩ := hcv.shape
  subst e1
  refine Fn_c Tryz.func16 mixed c16 (by kernel_rfl) ?_; rw [r16]
  simp -implicitDefEqProofs (disch := first | omega | (simp only [h_szP, h_szS]; done) | (simp only [h_szP, h_szS]; omega)) only [go_sem, Nat.reduceBEq, reduceCtorEq, Nat.reduceAdd, Int.reduceEq, Int.reduceLT, Int.reduceLE, Int.reduceMul, Int.reduceAdd, Int.reduceSub, reduceIte, Nat.reduceLeDiff, Nat.reduceLT, Nat.reduceMul, Nat.reduceSub, Int.reduceToNat, s16, Tryz.underlying48, sl48, ze5, by5, sz5, Tryz.underlying3, Tryz.underlying22, sh5]
  obtain ⟨I, hI⟩ : ∃ I : Nat → Fr → Heap → Prop, I = fun k fr g => ∃ i, i + k = cs.length ∧ RQ g lo sp v ps ∧ g.size = h.size ∧ (∀ b, ¬ rqf sp v ps b → g[b]? = h[b]?) ∧
      fr = ((((fr0.up 6 (.int .i64 i)).up 2 (.slice a cs.length cap)).up 1 (.int .u64 65536)).up 0 (ptr sp 0)) := ⟨_, rfl⟩
  refine LoopK.use I cs.length (by rw [hI]; exact ⟨0, by omega, R, rfl, fun _ _ => rfl, rfl⟩) ?_
  intro k fr g hK
  rw [hI] at hK
  obtain ⟨i, hk, R1, z1, o1, hf⟩ := hK
  subst hf
  by_cases hi : i < cs.length
  · have d1 : decide ((i : Int) < cs.length) = true := decide_eq_true (by omega)
    obtain ⟨b, o, cap', e1, _, hbb⟩ := hcv.open hi
    cases e1
    have hE : cellO (o + i) g[b]? = some (.int .u8 (cs[i] : Nat)) := by
      rw [o1 b (fun f => by have := R.ge f; have := hlo b rfl; omega)]
      have := hcv.field encB_len hi (j := 0) (by omega)
      simpa [encB] using this
    have w1 : IntKind.u64.wrap (i : Int) = (i : Int) := by rw [wrap_u64]; omega
    have w2 : IntKind.u64.wrap (65536 + (i : Int)) = ((65536 + i : Nat) : Int) := by rw [wrap_u64]; omega
    have e2 : (65536 + (i : Int)) = ((65536 + i : Nat) : Int) := by omega
    have d2 : decide (((65536 + i : Nat) : Int) < 274877906944) = true := decide_eq_true (by omega)
    simp -implicitDefEqProofs (disch := first | omega | (simp only [h_szP, h_szS]; done) | (simp only [h_szP, h_szS]; omega)) only [go_sem, Nat.reduceBEq, reduceCtorEq, Nat.reduceAdd, Int.reduceEq, Int.reduceLT, Int.reduceLE, Int.reduceMul, Int.reduceAdd, Int.reduceSub, reduceIte, Nat.reduceLeDiff, Nat.reduceLT, Nat.reduceMul, Nat.reduceSub, Int.reduceToNat, s16, Tryz.underlying48, sl48, ze5, by5, sz5, Tryz.underlying3, Tryz.underlying22, sh5, d1, hE, w1, w2, e2, d2, Nat.mul_one]
    refine FnK.use (rset16_c i cs[i] (by omega) (hb _ (List.getElem_mem hi)) R1 hl hn) ?_
    intro x h2 ⟨e3, R2, z2, o2⟩
    simp -implicitDefEqProofs (disch := first | omega | (simp only [h_szP, h_szS]; done) | (simp only [h_szP, h_szS]; omega)) only [go_sem, Nat.reduceBEq, reduceCtorEq, Nat.reduceAdd, Int.reduceEq, Int.reduceLT, Int.reduceLE, Int.reduceMul, Int.reduceAdd, Int.reduceSub, reduceIte, Nat.reduceLeDiff, Nat.reduceLT, Nat.reduceMul, Nat.reduceSub, Int.reduceToNat, s16, Tryz.underlying48, sl48, ze5, by5, sz5, Tryz.underlying3, Tryz.underlying22, sh5]
    refine ⟨k - 1, by omega, ?_⟩
    rw [hI]
    exact ⟨i + 1, by omega, R2, by omega, fun b hb' => by rw [o2 b hb', o1 b hb'], rfl⟩
  · have d1 : decide ((i : Int) < cs.length) = false := decide_eq_false (by omega)
    simp -implicitDefEqProofs (disch := first | omega | (simp only [h_szP, h_szS]; done) | (simp only [h_szP, h_szS]; omega)) only [go_sem, Nat.reduceBEq, reduceCtorEq, Nat.reduceAdd, Int.reduceEq, Int.reduceLT, Int.reduceLE, Int.reduceMul, Int.reduceAdd, Int.reduceSub, reduceIte, Nat.reduceLeDiff, Nat.reduceLT, Nat.reduceMul, Nat.reduceSub, Int.reduceToNat, s16, Tryz.underlying48, sl48, ze5, by5, sz5, Tryz.underlying3, Tryz.underlying22, sh5, d1]
    exact ⟨R1, z1, o1⟩
end Go.SX.G
