/- The machines of HartNone: made. No condition. -/
import Derived.Test.YteoiokeiddlchaaGreatHI
set_option linter.unusedVariables false
set_option linter.unusedSimpArgs false
namespace Go.SX.G
open Go Go.SX Go.Proofs
set_option maxRecDepth 100000
set_option maxHeartbeats 8000000
/-- zero states. -/
def zS (i : Nat) : Value := if i = 34 then .int .i64 0 else .int .u64 0
def g0 (s cb : Nat) (i : Nat) : Value := if i = 35 then ptr s 0 else if i = 36 then ptr cb 0 else zS i
theorem cnew_c (h : Heap) : Fn Tryz.prog 18 [.bool false] h fun x h' => x = ptr (h.size + 1) 0 ∧ h'[h.size + 1]? = some (.cells #[.bool false, .map (some h.size), .pointer none] 91 (0, 0)) ∧ h'.size = h.size + 2 ∧ Keeps h.size h h' := by
  refine Fn_c Tryz.func18 mixed c18 (by kernel_rfl) ?_; rw [r18]
  simp -implicitDefEqProofs (disch := first | omega | (simp only [h_szP, h_szS]; done) | (simp only [h_szP, h_szS]; omega)) only [go_sem, Nat.reduceBEq, reduceCtorEq, Nat.reduceAdd, Int.reduceEq, Int.reduceLT, Int.reduceLE, Int.reduceMul, Int.reduceAdd, Int.reduceSub, reduceIte, Nat.reduceLeDiff, Nat.reduceLT, Nat.reduceMul, Nat.reduceSub, Int.reduceToNat, s18, zc91, sd91, pl91_0, pl91_1]
  exact (Keeps.push _ _ (Nat.le_refl _)).push' (Nat.le_refl _)
theorem hnew_c (h : Heap) (s cb : Nat) : Fn Tryz.prog 17 [ptr s 0, ptr cb 0] h fun x h' => x = ptr h.size 0 ∧ h' = h.push (hO (g0 s cb)) := by
  refine Fn_c Tryz.func17 mixed c17 (by kernel_rfl) ?_; rw [r17]
  simp -implicitDefEqProofs (disch := first | omega | (simp only [h_szP, h_szS]; done) | (simp only [h_szP, h_szS]; omega)) only [go_sem, Nat.reduceBEq, reduceCtorEq, Nat.reduceAdd, Int.reduceEq, Int.reduceLT, Int.reduceLE, Int.reduceMul, Int.reduceAdd, Int.reduceSub, reduceIte, Nat.reduceLeDiff, Nat.reduceLT, Nat.reduceMul, Nat.reduceSub, Int.reduceToNat, s17, zc47, sd47, pl47_1, pl47_2]
  rfl
/-- the states while they are filled. -/
def TT (i j : Nat) : Value := if j = 34 then .int .i64 0 else if j = 0 then .int .u64 65536 else if 2 ≤ j ∧ j ≤ i then .int .u64 ((131072 + 8 * (j - 1) : Nat) : Int) else .int .u64 0
def KK (sp i j : Nat) : Value := if j = 35 then ptr sp 0 else TT i j
theorem TT_ok (i : Nat) : okS (TT i) := by
  refine ⟨fun j hj => ?_, ⟨_, by unfold TT; rw [if_pos rfl]⟩⟩
  unfold TT
  rw [if_neg (by omega)]
  split
  · exact ⟨_, rfl⟩
  · split
    · exact ⟨_, rfl⟩
    · exact ⟨_, rfl⟩
theorem TT_next (i : Nat) (hi : 1 ≤ i) (hi2 : i < 32) : (fun j => if j = 1 + i then Value.int .u64 ((131072 + 8 * i : Nat) : Int) else TT i j) = TT (i + 1) := by
  funext j
  unfold TT
  by_cases q : j = 1 + i
  · rw [if_pos q, if_neg (by omega), if_neg (by omega), if_pos (by omega), q, show 1 + i - 1 = i by omega]
  · rw [if_neg q]
    by_cases q2 : 2 ≤ j ∧ j ≤ i
    · rw [if_pos q2, if_pos (show 2 ≤ j ∧ j ≤ i + 1 by omega)]
    · rw [if_neg q2, if_neg (show ¬ (2 ≤ j ∧ j ≤ i + 1) by omega)]
theorem KK_next (sp i : Nat) (hi : 1 ≤ i) (hi2 : i < 32) : (fun j => if j = 1 + i then Value.int .u64 ((131072 + 8 * i : Nat) : Int) else KK sp i j) = KK sp (i + 1) := by
  funext j
  unfold KK
  by_cases q : j = 35
  · rw [if_pos q, if_pos q, if_neg (by omega)]
  · rw [if_neg q, if_neg q, ← TT_next i hi hi2]
def RS3 : List Reg := [⟨65536, 73728, 7⟩, ⟨131072, 139264, 3⟩, ⟨139264, 143360, 1⟩]
theorem machines_c {h : Heap} {cv : Value} {cs : List Nat} (hcv : Vs h cv encB 1 cs) (hb : ∀ x ∈ cs, x < 256) (hlen : cs.length ≤ 2) :
    Fn Tryz.prog 6 [cv, .slice none 0 0, .bool false] h fun x h' => ∃ hb kb s cb M g mv pv, x = .tuple #[ptr hb 0, ptr kb 0] ∧ h'[hb]? = some (hO g) ∧ okS g ∧ g 0 = .int .u64 65536 ∧ g 1 = .int .u64 0 ∧ g 35 = ptr s 0 ∧ g 36 = ptr cb 0 ∧ MR h' s M ∧ M.rs = RS3 ∧
      (∀ j, j < cs.length → memAt M (65536 + j) = cs.getD j 0) ∧ h'[cb]? = some (.cells #[.bool false, mv, pv] 91 (0, 0)) ∧ h.size ≤ hb ∧ Keeps h.size h h' := by
  obtain ⟨ca, cc, ec, _⟩ := hcv.shape
  have hcv0 := hcv
  rw [ec] at hcv ⊢
  refine Fn_c Tryz.func6 mixed c6 (by kernel_rfl) ?_; rw [r6]
  simp -implicitDefEqProofs (disch := first | omega | (simp only [h_szP, h_szS]; done) | (simp only [h_szP, h_szS]; omega)) only [go_sem, Nat.reduceBEq, reduceCtorEq, Nat.reduceAdd, Int.reduceEq, Int.reduceLT, Int.reduceLE, Int.reduceMul, Int.reduceAdd, Int.reduceSub, reduceIte, Nat.reduceLeDiff, Nat.reduceLT, Nat.reduceMul, Nat.reduceSub, Int.reduceToNat, s6, zc61, sd61, pl61_4, pl61_0, zc27, sd27, pl27_0, sz27, Tryz.underlying3, Tryz.underlying22, fo27_1, ar23, sz22, Tryz.underlying49, sl49, ze22, by22, sh22, fo61_1, sh27]
  refine FnK.use (mnew_c h 20 (by omega)) ?_
  intro y h1 ⟨s, M0, e1, r0, K1, hF0, m1, m2, m3, m4, m5, m6⟩
  have s1 := K1.size
  rw [e1]
  simp -implicitDefEqProofs (disch := first | omega | (simp only [h_szP, h_szS]; done) | (simp only [h_szP, h_szS]; omega)) only [go_sem, Nat.reduceBEq, reduceCtorEq, Nat.reduceAdd, Int.reduceEq, Int.reduceLT, Int.reduceLE, Int.reduceMul, Int.reduceAdd, Int.reduceSub, reduceIte, Nat.reduceLeDiff, Nat.reduceLT, Nat.reduceMul, Nat.reduceSub, Int.reduceToNat, s6, zc61, sd61, pl61_4, pl61_0, zc27, sd27, pl27_0, sz27, Tryz.underlying3, Tryz.underlying22, fo27_1, ar23, sz22, Tryz.underlying49, sl49, ze22, by22, sh22, fo61_1, sh27]
  refine FnK.use (rnew20_c h1) ?_
  intro y h2 ⟨e2, e3⟩
  rw [e2]
  have K2 : Keeps h1.size h1 h2 := by rw [e3]; exact Keeps.push _ _ (Nat.le_refl _)
  have Q2 : RQ h2 h.size h1.size (.slice none 0 0) [] := ⟨by rw [e3]; exact h_pushE _ _ _ rfl, Vs.nil _, fun p hp => (by cases hp), by omega, fun b e => (by simp [blk] at e), fun p hp => (by cases hp)⟩
  have z0 : ∀ y, memAt M0 y = 0 := fun y => by unfold memAt byteAt; rw [m2]; rfl
  have ap0 : ∀ b, rqf h1.size (.slice none 0 0) [] b → ¬ mfoot s M0 b := by
    rintro b (rfl | f | ⟨p, hp, _⟩) g
    · have := r0.lt g; omega
    · simp [blk] at f
    · cases hp
  have r2 := r0.ext K2
  simp -implicitDefEqProofs (disch := first | omega | (simp only [h_szP, h_szS]; done) | (simp only [h_szP, h_szS]; omega)) only [go_sem, Nat.reduceBEq, reduceCtorEq, Nat.reduceAdd, Int.reduceEq, Int.reduceLT, Int.reduceLE, Int.reduceMul, Int.reduceAdd, Int.reduceSub, reduceIte, Nat.reduceLeDiff, Nat.reduceLT, Nat.reduceMul, Nat.reduceSub, Int.reduceToNat, s6, zc61, sd61, pl61_4, pl61_0, zc27, sd27, pl27_0, sz27, Tryz.underlying3, Tryz.underlying22, fo27_1, ar23, sz22, Tryz.underlying49, sl49, ze22, by22, sh22, fo61_1, sh27]
  refine FnK.use (map20_c 65536 8192 7 [⟨65536, 73728, 7⟩] r2 m3 z0 (by rw [m1]; decide) (by omega) (by omega) (by omega) (by omega) (by omega) (by decide) (by decide) (by decide)) ?_
  intro y h3 ⟨_, M1, r3, q3, m3', z3, fx3⟩
  have k3 : ∀ b, rqf h1.size (.slice none 0 0) [] b → h3[b]? = h2[b]? := fun b f => fx3.old b (Q2.lt f) (ap0 b f)
  have Q3 := Q2.monof k3
  have ap3 : ∀ b, rqf h1.size (.slice none 0 0) [] b → ¬ mfoot s M1 b := fun b f g => by
    rcases fx3.ft b g with q | q
    · exact ap0 b f q
    · have := Q2.lt f; omega
  have s3 := fx3.size
  have s2 := K2.size
  simp -implicitDefEqProofs (disch := first | omega | (simp only [h_szP, h_szS]; done) | (simp only [h_szP, h_szS]; omega)) only [go_sem, Nat.reduceBEq, reduceCtorEq, Nat.reduceAdd, Int.reduceEq, Int.reduceLT, Int.reduceLE, Int.reduceMul, Int.reduceAdd, Int.reduceSub, reduceIte, Nat.reduceLeDiff, Nat.reduceLT, Nat.reduceMul, Nat.reduceSub, Int.reduceToNat, s6, zc61, sd61, pl61_4, pl61_0, zc27, sd27, pl27_0, sz27, Tryz.underlying3, Tryz.underlying22, fo27_1, ar23, sz22, Tryz.underlying49, sl49, ze22, by22, sh22, fo61_1, sh27]
  refine FnK.use (rlay_c 16 2 h1.size 7 Q3 (by omega) (by omega) (by simp) (by omega) (fun p hp => by cases hp)) ?_
  intro y h4 ⟨⟨v4, p4, Q4, l4, n4, f4⟩, s4, o4⟩
  rw [List.nil_append] at Q4 f4
  have r4 : MR h4 s M1 := r3.mono fun b f => o4 b (r3.lt f) fun e => ap3 b (e ▸ .inl rfl) f
  have ap4 : ∀ b, rqf h1.size v4 p4 b → ¬ mfoot s M1 b := fun b f g => by
    rcases f4 b f with q | q
    · exact ap3 b q g
    · have := r3.lt g; omega
  simp -implicitDefEqProofs (disch := first | omega | (simp only [h_szP, h_szS]; done) | (simp only [h_szP, h_szS]; omega)) only [go_sem, Nat.reduceBEq, reduceCtorEq, Nat.reduceAdd, Int.reduceEq, Int.reduceLT, Int.reduceLE, Int.reduceMul, Int.reduceAdd, Int.reduceSub, reduceIte, Nat.reduceLeDiff, Nat.reduceLT, Nat.reduceMul, Nat.reduceSub, Int.reduceToNat, s6, zc61, sd61, pl61_4, pl61_0, zc27, sd27, pl27_0, sz27, Tryz.underlying3, Tryz.underlying22, fo27_1, ar23, sz22, Tryz.underlying49, sl49, ze22, by22, sh22, fo61_1, sh27]
  refine FnK.use (map20_c 131072 8192 3 [⟨65536, 73728, 7⟩, ⟨131072, 139264, 3⟩] r4 m3' z3 (by rw [q3]; decide) (by omega) (by omega) (by omega) (by omega) (by omega) (by decide) (by decide) (by decide)) ?_
  intro y h5 ⟨_, M2, r5, q5, m5', z5, fx5⟩
  have Q5 := Q4.monof fun b f => fx5.old b (Q4.lt f) (ap4 b f)
  have ap5 : ∀ b, rqf h1.size v4 p4 b → ¬ mfoot s M2 b := fun b f g => by
    rcases fx5.ft b g with q | q
    · exact ap4 b f q
    · have := Q4.lt f; omega
  have s5 := fx5.size
  simp -implicitDefEqProofs (disch := first | omega | (simp only [h_szP, h_szS]; done) | (simp only [h_szP, h_szS]; omega)) only [go_sem, Nat.reduceBEq, reduceCtorEq, Nat.reduceAdd, Int.reduceEq, Int.reduceLT, Int.reduceLE, Int.reduceMul, Int.reduceAdd, Int.reduceSub, reduceIte, Nat.reduceLeDiff, Nat.reduceLT, Nat.reduceMul, Nat.reduceSub, Int.reduceToNat, s6, zc61, sd61, pl61_4, pl61_0, zc27, sd27, pl27_0, sz27, Tryz.underlying3, Tryz.underlying22, fo27_1, ar23, sz22, Tryz.underlying49, sl49, ze22, by22, sh22, fo61_1, sh27]
  refine FnK.use (rlay_c 32 2 h1.size 3 Q5 (by omega) (by omega) (by omega) (by omega) (fun p hp => ?_)) ?_
  · obtain ⟨i, hi, rfl⟩ := List.mem_iff_getElem.1 hp
    rw [n4 i hi]; omega
  intro y h6 ⟨⟨v6, p6, Q6, l6, n6, f6⟩, s6, o6⟩
  have r6 : MR h6 s M2 := r5.mono fun b f => o6 b (r5.lt f) fun e => ap5 b (e ▸ .inl rfl) f
  have ap6 : ∀ b, rqf h1.size v6 (p4 ++ p6) b → ¬ mfoot s M2 b := fun b f g => by
    rcases f6 b f with q | q
    · exact ap5 b q g
    · have := r5.lt g; omega
  simp -implicitDefEqProofs (disch := first | omega | (simp only [h_szP, h_szS]; done) | (simp only [h_szP, h_szS]; omega)) only [go_sem, Nat.reduceBEq, reduceCtorEq, Nat.reduceAdd, Int.reduceEq, Int.reduceLT, Int.reduceLE, Int.reduceMul, Int.reduceAdd, Int.reduceSub, reduceIte, Nat.reduceLeDiff, Nat.reduceLT, Nat.reduceMul, Nat.reduceSub, Int.reduceToNat, s6, zc61, sd61, pl61_4, pl61_0, zc27, sd27, pl27_0, sz27, Tryz.underlying3, Tryz.underlying22, fo27_1, ar23, sz22, Tryz.underlying49, sl49, ze22, by22, sh22, fo61_1, sh27]
  refine FnK.use (map20_c 139264 4096 1 RS3 r6 m5' z5 (by rw [q5]; decide) (by omega) (by omega) (by omega) (by omega) (by omega) (by decide) (by decide) (by decide)) ?_
  intro y h7 ⟨_, M3, r7, q7, m7', z7, fx7⟩
  have Q7 := Q6.monof fun b f => fx7.old b (Q6.lt f) (ap6 b f)
  have ap7 : ∀ b, rqf h1.size v6 (p4 ++ p6) b → ¬ mfoot s M3 b := fun b f g => by
    rcases fx7.ft b g with q | q
    · exact ap6 b f q
    · have := Q6.lt f; omega
  have s7 := fx7.size
  simp -implicitDefEqProofs (disch := first | omega | (simp only [h_szP, h_szS]; done) | (simp only [h_szP, h_szS]; omega)) only [go_sem, Nat.reduceBEq, reduceCtorEq, Nat.reduceAdd, Int.reduceEq, Int.reduceLT, Int.reduceLE, Int.reduceMul, Int.reduceAdd, Int.reduceSub, reduceIte, Nat.reduceLeDiff, Nat.reduceLT, Nat.reduceMul, Nat.reduceSub, Int.reduceToNat, s6, zc61, sd61, pl61_4, pl61_0, zc27, sd27, pl27_0, sz27, Tryz.underlying3, Tryz.underlying22, fo27_1, ar23, sz22, Tryz.underlying49, sl49, ze22, by22, sh22, fo61_1, sh27]
  refine FnK.use (rlay_c 34 1 h1.size 1 Q7 (by omega) (by omega) (by rw [List.length_append]; omega) (by omega) (fun p hp => ?_)) ?_
  · rcases List.mem_append.1 hp with z | z
    · obtain ⟨i, hi, rfl⟩ := List.mem_iff_getElem.1 z
      rw [n4 i hi]; omega
    · obtain ⟨i, hi, rfl⟩ := List.mem_iff_getElem.1 z
      rw [n6 i hi]; omega
  intro y h8 ⟨⟨v8, p8, Q8, l8, n8, f8⟩, s8, o8⟩
  have r8 : MR h8 s M3 := r7.mono fun b f => o8 b (r7.lt f) fun e => ap7 b (e ▸ .inl rfl) f
  have ap8 : ∀ b, rqf h1.size v8 ((p4 ++ p6) ++ p8) b → ¬ mfoot s M3 b := fun b f g => by
    rcases f8 b f with q | q
    · exact ap7 b q g
    · have := r7.lt g; omega
  have g1' : ∀ b, mfoot s M1 b → h.size ≤ b := fun b f => by
    rcases fx3.ft b f with q | q
    · exact hF0 b q
    · omega
  have g2' : ∀ b, mfoot s M2 b → h.size ≤ b := fun b f => by
    rcases fx5.ft b f with q | q
    · exact g1' b q
    · omega
  have g3' : ∀ b, mfoot s M3 b → h.size ≤ b := fun b f => by
    rcases fx7.ft b f with q | q
    · exact g2' b q
    · omega
  have old8 : ∀ b, b < h.size → h8[b]? = h[b]? := fun b hb' => by
    rw [o8 b (by omega) (by omega), fx7.old b (by omega) (fun f => by have := g2' b f; omega), o6 b (by omega) (by omega), fx5.old b (by omega) (fun f => by have := g1' b f; omega), o4 b (by omega) (by omega), fx3.old b (by omega) (fun f => by have := hF0 b f; omega), K2.old b (by omega), K1.old b hb']
  have hcv8 : Vs h8 (.slice ca cs.length cc) encB 1 cs := hcv.mono fun b e => old8 b (hcv.blk_lt e)
  simp -implicitDefEqProofs (disch := first | omega | (simp only [h_szP, h_szS]; done) | (simp only [h_szP, h_szS]; omega)) only [go_sem, Nat.reduceBEq, reduceCtorEq, Nat.reduceAdd, Int.reduceEq, Int.reduceLT, Int.reduceLE, Int.reduceMul, Int.reduceAdd, Int.reduceSub, reduceIte, Nat.reduceLeDiff, Nat.reduceLT, Nat.reduceMul, Nat.reduceSub, Int.reduceToNat, s6, zc61, sd61, pl61_4, pl61_0, zc27, sd27, pl27_0, sz27, Tryz.underlying3, Tryz.underlying22, fo27_1, ar23, sz22, Tryz.underlying49, sl49, ze22, by22, sh22, fo61_1, sh27]
  refine FnK.use (mput_c 65536 r8 (by omega) (by omega) hcv8 (fun b e f => by have := g3' b f; have := hcv.blk_lt e; omega) hb) ?_
  intro y h9 ⟨M4, P⟩
  have Q9 := Q8.monof fun b f => P.g.fx.old b (Q8.lt f) (ap8 b f)
  have ap9 : ∀ b, rqf h1.size v8 ((p4 ++ p6) ++ p8) b → ¬ mfoot s M4 b := fun b f g => by
    rcases P.g.fx.ft b g with q | q
    · exact ap8 b f q
    · have := Q8.lt f; omega
  have s9 := P.g.fx.size
  have old9 : ∀ b, b < h.size → h9[b]? = h[b]? := fun b hb' => by rw [P.g.fx.old b (by omega) (fun f => by have := g3' b f; omega), old8 b hb']
  have g4' : ∀ b, mfoot s M4 b → h.size ≤ b := fun b f => by
    rcases P.g.fx.ft b f with q | q
    · exact g3' b q
    · omega
  have hcv9 : Vs h9 (.slice ca cs.length cc) encB 1 cs := hcv.mono fun b e => old9 b (hcv.blk_lt e)
  have lps : ((p4 ++ p6) ++ p8).length = 5 := by simp; omega
  have nps : ∀ i (hi : i < ((p4 ++ p6) ++ p8).length), ((p4 ++ p6) ++ p8)[i].no = [16, 17, 32, 33, 34].getD i 0 := by
    intro i hi
    rw [lps] at hi
    by_cases q1 : i < 2
    · rw [List.getElem_append_left (by simp; omega), List.getElem_append_left (by omega), n4 i (by omega)]
      rcases (show i = 0 ∨ i = 1 by omega) with rfl | rfl <;> rfl
    · by_cases q2 : i < 4
      · rw [List.getElem_append_left (by simp; omega), List.getElem_append_right (by omega), n6 _ (by omega), l4]
        rcases (show i = 2 ∨ i = 3 by omega) with rfl | rfl <;> rfl
      · rw [List.getElem_append_right (by simp; omega), n8 _ (by simp; omega)]
        have : i = 4 := by omega
        subst this
        simp [l4, l6]
  simp -implicitDefEqProofs (disch := first | omega | (simp only [h_szP, h_szS]; done) | (simp only [h_szP, h_szS]; omega)) only [go_sem, Nat.reduceBEq, reduceCtorEq, Nat.reduceAdd, Int.reduceEq, Int.reduceLT, Int.reduceLE, Int.reduceMul, Int.reduceAdd, Int.reduceSub, reduceIte, Nat.reduceLeDiff, Nat.reduceLT, Nat.reduceMul, Nat.reduceSub, Int.reduceToNat, s6, zc61, sd61, pl61_4, pl61_0, zc27, sd27, pl27_0, sz27, Tryz.underlying3, Tryz.underlying22, fo27_1, ar23, sz22, Tryz.underlying49, sl49, ze22, by22, sh22, fo61_1, sh27]
  refine FnK.use (rlays16_c hcv9 hb hlen (fun b e => hcv.blk_lt e) Q9 lps nps) ?_
  intro y h10 ⟨_, Q10, z10, o10⟩
  have r10 : MR h10 s M4 := P.g.r.mono fun b f => o10 b fun q => ap9 b q f
  have old10 : ∀ b, b < h.size → h10[b]? = h[b]? := fun b hb' => by rw [o10 b (fun f => by have := Q9.ge f; omega), old9 b hb']
  simp -implicitDefEqProofs (disch := first | omega | (simp only [h_szP, h_szS]; done) | (simp only [h_szP, h_szS]; omega)) only [go_sem, Nat.reduceBEq, reduceCtorEq, Nat.reduceAdd, Int.reduceEq, Int.reduceLT, Int.reduceLE, Int.reduceMul, Int.reduceAdd, Int.reduceSub, reduceIte, Nat.reduceLeDiff, Nat.reduceLT, Nat.reduceMul, Nat.reduceSub, Int.reduceToNat, s6, zc61, sd61, pl61_4, pl61_0, zc27, sd27, pl27_0, sz27, Tryz.underlying3, Tryz.underlying22, fo27_1, ar23, sz22, Tryz.underlying49, sl49, ze22, by22, sh22, fo61_1, sh27]
  refine FnK.use (cnew_c h10) ?_
  intro y h11 ⟨e11, c11, z11, K11⟩
  rw [e11]
  simp -implicitDefEqProofs (disch := first | omega | (simp only [h_szP, h_szS]; done) | (simp only [h_szP, h_szS]; omega)) only [go_sem, Nat.reduceBEq, reduceCtorEq, Nat.reduceAdd, Int.reduceEq, Int.reduceLT, Int.reduceLE, Int.reduceMul, Int.reduceAdd, Int.reduceSub, reduceIte, Nat.reduceLeDiff, Nat.reduceLT, Nat.reduceMul, Nat.reduceSub, Int.reduceToNat, s6, zc61, sd61, pl61_4, pl61_0, zc27, sd27, pl27_0, sz27, Tryz.underlying3, Tryz.underlying22, fo27_1, ar23, sz22, Tryz.underlying49, sl49, ze22, by22, sh22, fo61_1, sh27]
  refine FnK.use (hnew_c h11 s (h10.size + 1)) ?_
  intro y h12 ⟨e12, e13⟩
  rw [e12]
  simp -implicitDefEqProofs (disch := first | omega | (simp only [h_szP, h_szS]; done) | (simp only [h_szP, h_szS]; omega)) only [go_sem, Nat.reduceBEq, reduceCtorEq, Nat.reduceAdd, Int.reduceEq, Int.reduceLT, Int.reduceLE, Int.reduceMul, Int.reduceAdd, Int.reduceSub, reduceIte, Nat.reduceLeDiff, Nat.reduceLT, Nat.reduceMul, Nat.reduceSub, Int.reduceToNat, s6, zc61, sd61, pl61_4, pl61_0, zc27, sd27, pl27_0, sz27, Tryz.underlying3, Tryz.underlying22, fo27_1, ar23, sz22, Tryz.underlying49, sl49, ze22, by22, sh22, fo61_1, sh27]
  have lh11 : (h12[h11.size]? : Option Obj) = some (hO (g0 s (h10.size + 1))) := by rw [e13]; exact h_pushE _ _ _ rfl
  have s11 := K11.size
  have s12 : h12.size = h11.size + 1 := by rw [e13]; simp
  obtain ⟨I, hI⟩ : ∃ I : Nat → Fr → Heap → Prop, I = fun k fr hh => ∃ i : Nat, 1 ≤ i ∧ i + k = 32 ∧ hh[h12.size + 1]? = some (.cells (fnL 35 (TT i)).toArray 27 (0, 0)) ∧ hh[h12.size]? = some (.cells (fnL 36 (KK h1.size i)).toArray 61 (0, 0)) ∧ hh.size = h12.size + 2 ∧ (∀ b, b < h12.size → hh[b]? = h12[b]?) ∧
      fr = (((((fr0.up 13 (.int .i64 i)).up 12 (ptr (h12.size + 1) 0)).up 11 (ptr h12.size 0)).up 10 (ptr h11.size 0)).up 1 (.slice none 0 0)) := ⟨_, rfl⟩
  refine LoopK.use I 31 ?_ ?_
  · rw [hI]
    refine ⟨1, by omega, by omega, ?_, ?_, by simp, fun b hb' => ?_, rfl⟩
    · exact h_pushE _ _ _ (by simp)
    · rw [h_pushL _ _ _ (by simp)]
      exact h_pushE _ _ _ rfl
    · rw [h_pushL _ _ _ (by simp; omega), h_pushL _ _ _ hb']
  intro k fr hh hK
  rw [hI] at hK
  obtain ⟨i, hi1, hk, ht, hkk, zz, oo, hf⟩ := hK
  subst hf
  by_cases hi : i < 32
  · have d1 : decide ((i : Int) < 32) = true := decide_eq_true (by omega)
    have d2 : decide ((i : Int) < 0) = false := decide_eq_false (by omega)
    have w1 : IntKind.u64.wrap ((i : Int) * 8) = ((8 * i : Nat) : Int) := by rw [wrap_u64]; omega
    have w2 : IntKind.u64.wrap (131072 + ((8 * i : Nat) : Int)) = ((131072 + 8 * i : Nat) : Int) := by rw [wrap_u64]; omega
    have w3 : 131072 + ((8 * i : Nat) : Int) = ((131072 + 8 * i : Nat) : Int) := by omega
    obtain ⟨h14, x14, c14, z14, o14⟩ := fnL_one (o := 1 + i) (v := .int .u64 ((131072 + 8 * i : Nat) : Int)) ht (by omega) rfl
    rw [TT_next i hi1 hi] at c14
    have k14 := (o14 h12.size (by omega)).trans hkk
    have l14 : cellO (1 + i) h14[h12.size + 1]? = some (.int .u64 ((131072 + 8 * i : Nat) : Int)) := by
      rw [c14, fnL_cell (by omega), ← TT_next i hi1 hi]
      exact congrArg some (if_pos rfl)
    obtain ⟨h15, x15, c15, z15, o15⟩ := fnL_one (o := 1 + i) (v := .int .u64 ((131072 + 8 * i : Nat) : Int)) k14 (by omega) rfl
    rw [KK_next _ i hi1 hi] at c15
    simp -implicitDefEqProofs (disch := first | omega | (simp only [h_szP, h_szS]; done) | (simp only [h_szP, h_szS]; omega)) only [go_sem, Nat.reduceBEq, reduceCtorEq, Nat.reduceAdd, Int.reduceEq, Int.reduceLT, Int.reduceLE, Int.reduceMul, Int.reduceAdd, Int.reduceSub, reduceIte, Nat.reduceLeDiff, Nat.reduceLT, Nat.reduceMul, Nat.reduceSub, Int.reduceToNat, s6, zc61, sd61, pl61_4, pl61_0, zc27, sd27, pl27_0, sz27, Tryz.underlying3, Tryz.underlying22, fo27_1, ar23, sz22, Tryz.underlying49, sl49, ze22, by22, sh22, fo61_1, sh27, d1, d2, w1, w2, w3, x14, l14, x15, Nat.mul_one]
    refine ⟨k - 1, by omega, ?_⟩
    rw [hI]
    exact ⟨i + 1, by omega, by omega, (o15 _ (by omega)).trans c14, c15, by omega, fun b hb' => by rw [o15 b (by omega), o14 b (by omega), oo b hb'], rfl⟩
  · have d1 : decide ((i : Int) < 32) = false := decide_eq_false (by omega)
    have l35 : cellsO 0 35 hh[h12.size + 1]? = some (fnL 35 (TT i)) := by rw [ht, fnL_cells (by omega)]; simp
    simp -implicitDefEqProofs (disch := first | omega | (simp only [h_szP, h_szS]; done) | (simp only [h_szP, h_szS]; omega)) only [go_sem, Nat.reduceBEq, reduceCtorEq, Nat.reduceAdd, Int.reduceEq, Int.reduceLT, Int.reduceLE, Int.reduceMul, Int.reduceAdd, Int.reduceSub, reduceIte, Nat.reduceLeDiff, Nat.reduceLT, Nat.reduceMul, Nat.reduceSub, Int.reduceToNat, s6, zc61, sd61, pl61_4, pl61_0, zc27, sd27, pl27_0, sz27, Tryz.underlying3, Tryz.underlying22, fo27_1, ar23, sz22, Tryz.underlying49, sl49, ze22, by22, sh22, fo61_1, sh27, d1, l35]
    refine FnK.use (hset_c (f := TT i) ((oo _ (by omega)).trans lh11) (TT_ok i)) ?_
    intro x h16 ⟨e16, H16, s16, o16⟩
    simp -implicitDefEqProofs (disch := first | omega | (simp only [h_szP, h_szS]; done) | (simp only [h_szP, h_szS]; omega)) only [go_sem, Nat.reduceBEq, reduceCtorEq, Nat.reduceAdd, Int.reduceEq, Int.reduceLT, Int.reduceLE, Int.reduceMul, Int.reduceAdd, Int.reduceSub, reduceIte, Nat.reduceLeDiff, Nat.reduceLT, Nat.reduceMul, Nat.reduceSub, Int.reduceToNat, s6, zc61, sd61, pl61_4, pl61_0, zc27, sd27, pl27_0, sz27, Tryz.underlying3, Tryz.underlying22, fo27_1, ar23, sz22, Tryz.underlying49, sl49, ze22, by22, sh22, fo61_1, sh27]
    have ge4 : ∀ b, mfoot s M4 b → b < h10.size := fun b f => r10.lt f
    have old16 : ∀ b, b < h11.size → h16[b]? = h11[b]? := fun b hb' => by
      rw [o16 b (by omega) (by omega), oo b (by omega), e13, h_pushL _ _ _ hb']
    refine ⟨h11.size, h12.size, s, h10.size + 1, M4, (fun j => if j < 35 then zeroAt (TT i) j else g0 s (h10.size + 1) j), .map (some h10.size), .pointer none, rfl, H16, ⟨fun j hj => ?_, ?_⟩, rfl, rfl, rfl, rfl, ?_, ?_, fun j hj => ?_, ?_, by omega, ⟨by omega, fun b hb' => ?_⟩⟩
    · show ∃ n, (if j < 35 then zeroAt (TT i) j else g0 s (h10.size + 1) j) = Value.int .u64 n
      rw [if_pos (by omega)]
      exact (TT_ok i).zero.1 j hj
    · show ∃ n, (if (34 : Nat) < 35 then zeroAt (TT i) 34 else g0 s (h10.size + 1) 34) = Value.int .i64 n
      rw [if_pos (by omega)]
      exact (TT_ok i).zero.2
    · exact r10.mono fun b f => by rw [old16 b (by have := ge4 b f; omega), K11.old b (ge4 b f)]
    · rw [P.rs]; exact q7
    · rw [P.byte, q7]
      have e : (atL RS3 (65536 + j)).isSome = true := by
        rcases (show j = 0 ∨ j = 1 by omega) with rfl | rfl <;> decide
      rw [if_pos ⟨by omega, by omega, by omega, e⟩, Nat.add_sub_cancel_left]
    · rw [old16 _ (by omega)]; exact c11
    · rw [old16 b (by omega), K11.old b (by omega), old10 b hb']
end Go.SX.G
