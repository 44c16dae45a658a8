/- What neither moves nor leads. No condition but on ranges. An instruction is done. No condition but on ranges. The cache of a machine, on or off. No condition. -/
import Derived.Test.YtajfhnphhdoobaaGreatHUb
import Derived.Test.YtajfhnphhdoobaaGreatC
set_option linter.unusedVariables false
set_option linter.unusedSimpArgs false
namespace Go.SX.G
open Go Go.SX Go.Proofs
set_option maxRecDepth 100000
set_option maxHeartbeats 4000000
theorem other_g {h : Heap} {hb tb s : Nat} {M : MemD} {g : Nat → Value} (t : HS) (i : InstR) (H : h[hb]? = some (.cells (fnL 37 g).toArray 120 (0, 0))) (g35 : g 35 = ptr s 0) (HT : h[tb]? = some (sO t.cell)) (tok : t.ok) (ok : i.ok)
    (r : MR h s M) (nt : ¬ mfoot s M tb) (hne : hb ≠ tb) :
    Fn Tryz.prog 110 [ptr hb 0, ptr tb 0, i.v] h fun x h' => x = (otherF M.rs (memAt M) t i).st.v ∧ h'[tb]? = some (sO (otherF M.rs (memAt M) t i).t.cell) ∧ h.size ≤ h'.size ∧ (∃ M', Gone h h' s M M' (otherF M.rs (memAt M) t i).B) ∧ ∀ b, b < h.size → b ≠ tb → ¬ mfoot s M b → h'[b]? = h[b]? := by
  have lh := getElem?_lt H
  have lt := getElem?_lt HT
  obtain ⟨rd, hrd, lrd⟩ := toN32 ok.rd
  obtain ⟨r1, hr1, lr1⟩ := toN32 ok.rs1
  obtain ⟨r2, hr2, lr2⟩ := toN32 ok.rs2
  have c0 := pcCell HT
  have c1 := xCell HT r1 lr1
  have c2 := xCell HT r2 lr2
  have c35 : cellO 35 h[hb]? = some (ptr s 0) := by rw [H, fnL_cell (by omega), g35]
  have d1 : decide ((rd : Int) < 32) = true := decide_eq_true (by omega)
  have d2 : decide ((rd : Int) < 0) = false := decide_eq_false (by omega)
  have d3 : decide ((r1 : Int) < 32) = true := decide_eq_true (by omega)
  have d4 : decide ((r1 : Int) < 0) = false := decide_eq_false (by omega)
  have d5 : decide ((r2 : Int) < 32) = true := decide_eq_true (by omega)
  have d6 : decide ((r2 : Int) < 0) = false := decide_eq_false (by omega)
  have ntb : ∀ j, h.size + j ≠ tb := fun j => by omega
  have nf : ∀ j, ¬ mfoot s M (h.size + j) := fun j q => by have := r.lt q; omega
  obtain ⟨X, eX⟩ : ∃ X, X = (h.push (.cells #[.int .i64 i.op, .int .i64 rd, .int .i64 r1, .int .i64 r2, .int .i64 i.imm, .int .i64 i.order, .int .i64 i.size] 47)).push (.cells #[.int .i64 0, .int .i64 0, .int .u64 0] 49) := ⟨_, rfl⟩
  have KX : Keeps h.size h X := by rw [eX]; exact (Keeps.push _ _ (Nat.le_refl _)).push' (Nat.le_refl _)
  have zX : X.size = h.size + 2 := by rw [eX]; simp
  have p0 : X[h.size]? = some (.cells #[.int .i64 i.op, .int .i64 rd, .int .i64 r1, .int .i64 r2, .int .i64 i.imm, .int .i64 i.order, .int .i64 i.size] 47 (0, 0)) := by rw [eX]; refine gs0 ?_; (try with_reducible exact trivial)
  have p1 : X[h.size + 1]? = some (.cells #[.int .i64 0, .int .i64 0, .int .u64 0] 49 (0, 0)) := by rw [eX]; refine gs0 ?_; (try with_reducible exact trivial)
  have rX := r.ext KX
  have TX := KX.at HT lt
  have HX := KX.at H lh
  unfold otherF
  by_cases q0 : i.op = 87
  · have t0 : (i.op = 87) = True := eq_true q0
    rw [if_pos q0]
    refine Fn_c Tryz.func110 mixed c110 (by kernel_rfl) ?_; rw [r110]
    simp -implicitDefEqProofs (disch := first | omega | (simp only [h_szP, h_szS]; done) | (simp only [h_szP, h_szS]; omega)) only [go_sem, Nat.reduceBEq, reduceCtorEq, Nat.reduceAdd, Int.reduceEq, Int.reduceLT, Int.reduceLE, Int.reduceMul, Int.reduceAdd, Int.reduceSub, reduceIte, Nat.reduceLeDiff, Nat.reduceLT, Nat.reduceMul, Nat.reduceSub, Int.reduceToNat, InstR.v, hrd, hr1, hr2, c0, c1, c2, c35, d1, d2, d3, d4, d5, d6, Nat.mul_one, t0, sOk, StopR.v]
    exact ⟨HT, by omega, ⟨M, Gone.refl (r.ext ((Keeps.push _ _ (Nat.le_refl _)).push' (Nat.le_refl _)))⟩, fun b hb' n1 n2 => ((Keeps.push h _ (Nat.le_refl _)).push' (Nat.le_refl _)).old b hb'⟩
  have t0 : (i.op = 87) = False := eq_false q0
  rw [if_neg q0]
  by_cases q1 : i.op = 88
  · have t1 : (i.op = 88) = True := eq_true q1
    rw [if_pos q1]
    refine Fn_c Tryz.func110 mixed c110 (by kernel_rfl) ?_; rw [r110]
    simp -implicitDefEqProofs (disch := first | omega | (simp only [h_szP, h_szS]; done) | (simp only [h_szP, h_szS]; omega)) only [go_sem, Nat.reduceBEq, reduceCtorEq, Nat.reduceAdd, Int.reduceEq, Int.reduceLT, Int.reduceLE, Int.reduceMul, Int.reduceAdd, Int.reduceSub, reduceIte, Nat.reduceLeDiff, Nat.reduceLT, Nat.reduceMul, Nat.reduceSub, Int.reduceToNat, InstR.v, hrd, hr1, hr2, c0, c1, c2, c35, d1, d2, d3, d4, d5, d6, Nat.mul_one, t0, t1, sOk, StopR.v]
    exact ⟨HT, by omega, ⟨M, Gone.refl (r.ext ((Keeps.push _ _ (Nat.le_refl _)).push' (Nat.le_refl _)))⟩, fun b hb' n1 n2 => ((Keeps.push h _ (Nat.le_refl _)).push' (Nat.le_refl _)).old b hb'⟩
  have t1 : (i.op = 88) = False := eq_false q1
  rw [if_neg q1]
  by_cases q2 : i.op = 85
  · have t2 : (i.op = 85) = True := eq_true q2
    rw [if_pos q2]
    refine Fn_c Tryz.func110 mixed c110 (by kernel_rfl) ?_; rw [r110]
    simp -implicitDefEqProofs (disch := first | omega | (simp only [h_szP, h_szS]; done) | (simp only [h_szP, h_szS]; omega)) only [go_sem, Nat.reduceBEq, reduceCtorEq, Nat.reduceAdd, Int.reduceEq, Int.reduceLT, Int.reduceLE, Int.reduceMul, Int.reduceAdd, Int.reduceSub, reduceIte, Nat.reduceLeDiff, Nat.reduceLT, Nat.reduceMul, Nat.reduceSub, Int.reduceToNat, InstR.v, hrd, hr1, hr2, c0, c1, c2, c35, d1, d2, d3, d4, d5, d6, Nat.mul_one, t0, t1, t2, sOk, StopR.v]
    exact ⟨HT, by omega, ⟨M, Gone.refl (r.ext ((Keeps.push _ _ (Nat.le_refl _)).push' (Nat.le_refl _)))⟩, fun b hb' n1 n2 => ((Keeps.push h _ (Nat.le_refl _)).push' (Nat.le_refl _)).old b hb'⟩
  have t2 : (i.op = 85) = False := eq_false q2
  rw [if_neg q2]
  by_cases q3 : i.op = 86
  · have t3 : (i.op = 86) = True := eq_true q3
    rw [if_pos q3]
    refine Fn_c Tryz.func110 mixed c110 (by kernel_rfl) ?_; rw [r110]
    simp -implicitDefEqProofs (disch := first | omega | (simp only [h_szP, h_szS]; done) | (simp only [h_szP, h_szS]; omega)) only [go_sem, Nat.reduceBEq, reduceCtorEq, Nat.reduceAdd, Int.reduceEq, Int.reduceLT, Int.reduceLE, Int.reduceMul, Int.reduceAdd, Int.reduceSub, reduceIte, Nat.reduceLeDiff, Nat.reduceLT, Nat.reduceMul, Nat.reduceSub, Int.reduceToNat, InstR.v, hrd, hr1, hr2, c0, c1, c2, c35, d1, d2, d3, d4, d5, d6, Nat.mul_one, t0, t1, t2, t3, sOk, StopR.v]
    exact ⟨HT, by omega, ⟨M, Gone.refl (r.ext ((Keeps.push _ _ (Nat.le_refl _)).push' (Nat.le_refl _)))⟩, fun b hb' n1 n2 => ((Keeps.push h _ (Nat.le_refl _)).push' (Nat.le_refl _)).old b hb'⟩
  have t3 : (i.op = 86) = False := eq_false q3
  rw [if_neg q3]
  obtain ⟨h2, w2, H2, z2, o2⟩ := xSet TX rd (IntKind.u64.wrap (t.pc + IntKind.u64.wrap i.imm)) lrd
  rw [eX, h_pushL _ _ _ (by simp; omega), h_pushL _ _ _ lt] at w2
  have p02 : h2[h.size]? = _ := (o2 _ (ntb 0)).trans p0
  have p12 : h2[h.size + 1]? = _ := (o2 _ (ntb 1)).trans p1
  have l02 := getElem?_lt p02
  have l12 := getElem?_lt p12
  by_cases q4 : i.op = 2
  · have t4 : (i.op = 2) = True := eq_true q4
    rw [if_pos q4, hrd]
    refine Fn_c Tryz.func110 mixed c110 (by kernel_rfl) ?_; rw [r110]
    simp -implicitDefEqProofs (disch := first | omega | (simp only [h_szP, h_szS]; done) | (simp only [h_szP, h_szS]; omega)) only [go_sem, Nat.reduceBEq, reduceCtorEq, Nat.reduceAdd, Int.reduceEq, Int.reduceLT, Int.reduceLE, Int.reduceMul, Int.reduceAdd, Int.reduceSub, reduceIte, Nat.reduceLeDiff, Nat.reduceLT, Nat.reduceMul, Nat.reduceSub, Int.reduceToNat, InstR.v, hrd, hr1, hr2, c0, c1, c2, c35, d1, d2, d3, d4, d5, d6, Nat.mul_one, t0, t1, t2, t3, t4, w2, p12, sOk, StopR.v]
    exact ⟨H2, by omega, ⟨M, Gone.refl (r.mono fun b f => by rw [h_setN _ _ _ _ (fun e => by have := r.lt f; omega), o2 b (fun e => nt (e ▸ f)), KX.old b (r.lt f)])⟩, fun b hb' n1 n2 => by rw [h_setN _ _ _ _ (by omega), o2 b n1, KX.old b hb']⟩
  have t4 : (i.op = 2) = False := eq_false q4
  rw [if_neg q4]
  have sec := second_g (h := X) t i TX ok
  unfold InstR.v at sec
  rw [hrd, hr1, hr2] at sec
  have sR := secondF_R tok i
  have aR := tok.x r1
  obtain ⟨sv, hsv⟩ : ∃ sv, sv = secondF t i := ⟨_, rfl⟩
  rw [← hsv] at sec sR ⊢
  rw [hr1]
  have ado := ado_c i.op (t.get r1) sv sR
  cases A : aluE i.op (t.get r1) sv with
  | some v =>
    rw [A] at ado
    unfold okV at ado
    simp only [hrd]
    refine Fn_c Tryz.func110 mixed c110 (by kernel_rfl) ?_; rw [r110]
    simp -implicitDefEqProofs (disch := first | omega | (simp only [h_szP, h_szS]; done) | (simp only [h_szP, h_szS]; omega)) only [go_sem, Nat.reduceBEq, reduceCtorEq, Nat.reduceAdd, Int.reduceEq, Int.reduceLT, Int.reduceLE, Int.reduceMul, Int.reduceAdd, Int.reduceSub, reduceIte, Nat.reduceLeDiff, Nat.reduceLT, Nat.reduceMul, Nat.reduceSub, Int.reduceToNat, InstR.v, hrd, hr1, hr2, c0, c1, c2, c35, d1, d2, d3, d4, d5, d6, Nat.mul_one, t0, t1, t2, t3, t4]
    rw [← eX]
    repeat' refine And.intro ?_ ?_
    all_goals
      refine FnK.use sec ?_
      intro x h3 ⟨e3, K3⟩
      rw [e3]
      have s3 := K3.size
      have T3 := K3.at TX (by omega)
      have lt3 := getElem?_lt T3
      have c13 := xCell T3 r1 lr1
      have p03 := K3.at p0 (by omega)
      have p13 := K3.at p1 (by omega)
      have l03 := getElem?_lt p03
      have l13 := getElem?_lt p13
      refine gs6 @p03 @p13 @c13 @d3 @d4 @Nat.mul_one ?_; (try with_reducible exact trivial)
      refine FnK.val (ado _) ?_
      obtain ⟨h4, w4, H4, z4, o4⟩ := xSet T3 rd v lrd
      have p04 := (o4 _ (ntb 0)).trans p03
      have p14 := (o4 _ (ntb 1)).trans p13
      have l04 := getElem?_lt p04
      have l14 := getElem?_lt p14
      refine gs10 @p03 @p13 @p04 @p14 @d1 @d2 @w4 @Nat.mul_one sOk.eq_1 StopR.v.eq_1 ?_; (try with_reducible exact trivial)
      refine ⟨H4, by omega, ⟨M, Gone.refl (r.mono fun b f => ?_)⟩, fun b hb' n1 n2 => ?_⟩
      · rw [h_setN _ _ _ _ (fun e => by have := r.lt f; omega), o4 b (fun e => nt (e ▸ f)), K3.old b (by have := r.lt f; omega), KX.old b (r.lt f)]
      · rw [h_setN _ _ _ _ (by omega), o4 b n1, K3.old b (by omega), KX.old b hb']
  | none =>
    have A' : aluE i.op (t.get i.rs1) (secondF t i) = none := by rw [hr1, ← hsv]; exact A
    have := other_a t i H g35 HT tok ok r nt hne q0 q1 q2 q3 q4 A'
    rw [hr1] at this
    exact this
end Go.SX.G
namespace Go.SX.G
open Go Go.SX Go.Proofs
set_option maxRecDepth 100000
set_option maxHeartbeats 8000000
theorem jumpF_ok {t : HS} (k : t.ok) (i : InstR) : (jumpF t i).t.ok := by
  unfold jumpF
  split
  · exact HS.set_ok k _ _ (w64_R _)
  · split
    · exact HS.set_ok k _ _ (w64_R _)
    · split
      · exact k
      · exact k
theorem accE_good {op : Int} (h : 0 < (accE op).1) : ∃ n : Nat, (accE op).1 = n ∧ goodN n = true := by
  unfold accE at h ⊢
  repeat' split
  all_goals first | exact ⟨1, rfl, rfl⟩ | exact ⟨2, rfl, rfl⟩ | exact ⟨4, rfl, rfl⟩ | exact ⟨8, rfl, rfl⟩ | (simp_all; done)
theorem pcSet {h : Heap} {tb : Nat} {t : HS} (H : h[tb]? = some (sO t.cell)) (v : Int) : ∃ h', wrO h tb 0 [.int .u64 v] h[tb]? = some h' ∧ h'[tb]? = some (sO ({ t with pc := v } : HS).cell) ∧ h'.size = h.size ∧ ∀ c, c ≠ tb → h'[c]? = h[c]? := by
  obtain ⟨h', w, c, z, o⟩ := fnL_one (o := 0) (v := .int .u64 v) H (by omega) rfl
  rw [HS.cell_pc t v] at c
  exact ⟨h', w, c, z, o⟩
theorem do_g {h : Heap} {hb tb s : Nat} {M : MemD} {g : Nat → Value} (t : HS) (i : InstR) (H : h[hb]? = some (.cells (fnL 37 g).toArray 120 (0, 0))) (g35 : g 35 = ptr s 0) (HT : h[tb]? = some (sO t.cell)) (tok : t.ok) (ok : i.ok)
    (r : MR h s M) (nt : ¬ mfoot s M tb) (hne : hb ≠ tb) :
    Fn Tryz.prog 65 [ptr hb 0, ptr tb 0, i.v] h fun x h' => x = (doF M.rs (memAt M) t i).st.v ∧ h'[tb]? = some (sO (doF M.rs (memAt M) t i).t.cell) ∧ h.size ≤ h'.size ∧ (∃ M', Gone h h' s M M' (doF M.rs (memAt M) t i).B) ∧ ∀ b, b < h.size → b ≠ tb → ¬ mfoot s M b → h'[b]? = h[b]? := by
  have lh := getElem?_lt H
  have lt := getElem?_lt HT
  obtain ⟨rd, hrd, lrd⟩ := toN32 ok.rd
  obtain ⟨r1, hr1, lr1⟩ := toN32 ok.rs1
  obtain ⟨r2, hr2, lr2⟩ := toN32 ok.rs2
  have ntb : ∀ j, h.size + j ≠ tb := fun j => by omega
  have ntb0 : h.size ≠ tb := by omega
  have nf : ∀ j, ¬ mfoot s M (h.size + j) := fun j q => by have := r.lt q; omega
  obtain ⟨X, eX⟩ : ∃ X, X = (h.push (.cells #[.int .i64 i.op, .int .i64 rd, .int .i64 r1, .int .i64 r2, .int .i64 i.imm, .int .i64 i.order, .int .i64 i.size] 47)).push (.cells #[.int .i64 0, .int .i64 0, .int .u64 0] 49) := ⟨_, rfl⟩
  have KX : Keeps h.size h X := by rw [eX]; exact (Keeps.push _ _ (Nat.le_refl _)).push' (Nat.le_refl _)
  have zX : X.size = h.size + 2 := by rw [eX]; simp
  have p0 : X[h.size]? = some (.cells #[.int .i64 i.op, .int .i64 rd, .int .i64 r1, .int .i64 r2, .int .i64 i.imm, .int .i64 i.order, .int .i64 i.size] 47 (0, 0)) := by rw [eX]; refine gs0 ?_; (try with_reducible exact trivial)
  have p1 : X[h.size + 1]? = some (.cells #[.int .i64 0, .int .i64 0, .int .u64 0] 49 (0, 0)) := by rw [eX]; refine gs0 ?_; (try with_reducible exact trivial)
  have rX := r.ext KX
  have TX := KX.at HT lt
  have HX := KX.at H lh
  have jmp := jump_g (h := X) t i TX ok
  unfold InstR.v at jmp
  rw [hrd, hr1, hr2] at jmp
  obtain ⟨J, hJ⟩ : ∃ J, J = jumpF t i := ⟨_, rfl⟩
  have Jok : J.t.ok := by rw [hJ]; exact jumpF_ok tok i
  unfold doF
  simp only [← hJ] at jmp ⊢
  refine Fn_c Tryz.func65 mixed c65 (by kernel_rfl) ?_; rw [r65]
  refine gs4 InstR.v.eq_1 @hrd @hr1 @hr2 ?_; (try with_reducible exact trivial)
  rw [← eX]
  refine FnK.use jmp ?_
  intro x h1 ⟨e1, T1, s1, o1⟩
  rw [e1]
  have H1 : h1[hb]? = _ := (o1 hb (by omega) hne).trans HX
  have p01 := (o1 _ (by omega) ntb0).trans p0
  have p11 := (o1 _ (by omega) (ntb 1)).trans p1
  have l01 := getElem?_lt p01
  have l11 := getElem?_lt p11
  have lt1 := getElem?_lt T1
  have r1' : MR h1 s M := rX.mono fun b f => o1 b (rX.lt f) fun e => nt (e ▸ f)
  cases jk : J.ok with
  | true =>
    rw [if_pos rfl]
    obtain ⟨h2, w2, T2, z2, o2⟩ := pcSet T1 J.to
    obtain ⟨h3, w3, T3, z3, o3⟩ := xSet T2 0 0 (by omega)
    have p13 := (o3 _ (ntb 1)).trans ((o2 _ (ntb 1)).trans p11)
    have l13 := getElem?_lt p13
    refine gs5 @p01 @p11 @w2 @w3 @p13 ?_; (try with_reducible exact trivial)
    exact ⟨rfl, T3, by omega, ⟨M, Gone.refl (r1'.mono fun b f => by rw [h_setN _ _ _ _ (fun e => by have := r.lt f; omega), o3 b (fun e => nt (e ▸ f)), o2 b (fun e => nt (e ▸ f))])⟩, fun b hb' n1 n2 => by rw [h_setN _ _ _ _ (by omega), o3 b n1, o2 b n1, o1 b (by omega) n1, KX.old b hb']⟩
  | false =>
    rw [if_neg (by simp)]
    refine gs2 @p01 @p11 ?_; (try with_reducible exact trivial)
    refine FnK.val (access_c i.op _) ?_
    obtain ⟨Y, eY⟩ : ∃ Y, Y = h1.push (.cells #[.int .i64 0, .int .i64 0, .int .u64 0] 49) := ⟨_, rfl⟩
    have KY : Keeps h1.size h1 Y := by rw [eY]; exact Keeps.push _ _ (Nat.le_refl _)
    have zY : Y.size = h1.size + 1 := by rw [eY]; simp
    have TY := KY.at T1 lt1
    have HY := KY.at H1 (getElem?_lt H1)
    have rY := r1'.ext KY
    have p0Y := KY.at p01 l01
    have p1Y := KY.at p11 l11
    have pyY : Y[h1.size]? = some (.cells #[.int .i64 0, .int .i64 0, .int .u64 0] 49 (0, 0)) := by rw [eY]; exact h_pushE _ _ _ rfl
    by_cases qa : 0 < (accE i.op).1
    obtain ⟨n, hn, hg⟩ := accE_good qa
    have mv := move_g (h := Y) J.t i n (accE i.op).2 HY g35 TY Jok ok hg rY nt
    unfold InstR.v at mv
    rw [hrd, hr1, hr2] at mv
    obtain ⟨O, hO⟩ : ∃ O, O = moveF M.rs (memAt M) J.t i n (accE i.op).2 := ⟨_, rfl⟩
    simp only [if_pos qa, hn, Int.toNat_natCast, ← hO] at mv ⊢
    have dn : decide ((0 : Int) < (n : Int)) = true := decide_eq_true (by omega)
    refine gs3 @p01 @p11 @dn ?_; (try with_reducible exact trivial)
    rw [← eY]
    refine FnK.use mv ?_
    rotate_left
    have ot := other_g (h := Y) J.t i HY g35 TY Jok ok rY nt hne
    unfold InstR.v at ot
    rw [hrd, hr1, hr2] at ot
    obtain ⟨O, hO⟩ : ∃ O, O = otherF M.rs (memAt M) J.t i := ⟨_, rfl⟩
    simp only [if_neg qa, ← hO] at ot ⊢
    have dn : decide ((0 : Int) < (accE i.op).1) = false := decide_eq_false qa
    refine gs3 @p01 @p11 @dn ?_; (try with_reducible exact trivial)
    rw [← eY]
    refine FnK.use ot ?_
    rotate_left
    all_goals
      intro x h2 ⟨e2, T2, s2, ⟨M', G2⟩, o2⟩
      rw [e2]
      have ny : h1.size ≠ tb := by omega
      have nfY : ∀ j, h.size ≤ j → ¬ mfoot s M j := fun j q f => by have := r.lt f; omega
      have p02 := (o2 h.size (by omega) ntb0 (nfY _ (by omega))).trans p0Y
      have p12 := (o2 (h.size + 1) (by omega) (ntb 1) (nfY _ (by omega))).trans p1Y
      have py2 := (o2 h1.size (by omega) ny (nfY _ (by omega))).trans pyY
      have l02 := getElem?_lt p02
      have l12 := getElem?_lt p12
      have ly2 := getElem?_lt py2
      have nfM' : ∀ b, mfoot s M' b → b < h.size ∨ Y.size ≤ b := fun b f => by
        rcases G2.ft b f with z | z
        · exact .inl (r.lt z)
        · exact .inr z
      have ntM' : ¬ mfoot s M' tb := fun f => by
        rcases G2.ft tb f with z | z
        · exact nt z
        · omega
      have c02 := pcCell T2
      have lt2 := getElem?_lt T2
      obtain ⟨Z, eZ⟩ : ∃ Z, Z = h2.setIfInBounds h1.size (.cells #[.int .i64 O.st.kind, .int .i64 O.st.fk, .int .u64 O.st.fa] 49 (0, 0)) := ⟨_, rfl⟩
      have zZ : Z.size = h2.size := by rw [eZ]; simp
      have oZ : ∀ b, b ≠ h1.size → Z[b]? = h2[b]? := fun b q => by rw [eZ, h_setN _ _ _ _ q]
      have TZ := (oZ tb (by omega)).trans T2
      have p1Z := (oZ (h.size + 1) (by omega)).trans p12
      by_cases qk : O.st.kind = 0
      · have tk : (O.st.kind = 0) = True := eq_true qk
        obtain ⟨h4, w4, T4, z4, o4⟩ := pcSet TZ (IntKind.u64.wrap (O.t.pc + IntKind.u64.wrap i.size))
        rw [eZ, h_setN _ _ _ _ (show tb ≠ h1.size by omega)] at w4
        obtain ⟨h5, w5, T5, z5, o5⟩ := xSet T4 0 0 (by omega)
        have p15 := (o5 _ (ntb 1)).trans ((o4 _ (ntb 1)).trans p1Z)
        have l15 := getElem?_lt p15
        refine gs9 @p02 @p12 @py2 StopR.v.eq_1 @tk @c02 @w4 @w5 @p15 ?_; (try with_reducible exact trivial)
        refine ⟨rfl, T5, by omega, ⟨M', G2.mono (by omega) fun b f => ?_⟩, fun b hb' n1 n2 => ?_⟩
        · have := nfM' b f
          rw [h_setN _ _ _ _ (by omega), o5 b (fun e => ntM' (e ▸ f)), o4 b (fun e => ntM' (e ▸ f)), oZ b (by omega)]
        · rw [h_setN _ _ _ _ (by omega), o5 b n1, o4 b n1, oZ b (by omega), o2 b (by omega) n1 n2, KY.old b (by omega), o1 b (by omega) n1, KX.old b hb']
      · have tk : (O.st.kind = 0) = False := eq_false qk
        refine gs6 @p02 @p12 @py2 StopR.v.eq_1 @tk @c02 ?_; (try with_reducible exact trivial)
        refine ⟨T2, by omega, ⟨M', G2.mono (by omega) fun b f => ?_⟩, fun b hb' n1 n2 => ?_⟩
        · have := nfM' b f
          rw [h_setN _ _ _ _ (by omega), h_setN _ _ _ _ (by omega)]
        · rw [h_setN _ _ _ _ (by omega), h_setN _ _ _ _ (by omega), o2 b (by omega) n1 n2, KY.old b (by omega), o1 b (by omega) n1, KX.old b hb']
end Go.SX.G
namespace Go.SX.G
open Go Go.SX Go.Proofs
set_option maxRecDepth 100000
set_option maxHeartbeats 8000000
/-- a machine's cache: off, or on and true of its space. -/
def Ca (h : Heap) (s c m : Nat) (M : MemD) : Prop :=
  (∃ mv pv, h[c]? = some (.cells #[.bool false, mv, pv] 102 (0, 0)) ∧ m = c) ∨ ∃ n sp es, CR h c m n sp es ∧ (sp = .pointer none ∨ sp = ptr s 0) ∧ (sp = ptr s 0 → ∀ e ∈ es, e.ok M)
theorem Ca.lt {h : Heap} {s c m : Nat} {M : MemD} (k : Ca h s c m M) : c < h.size ∧ m < h.size := by
  rcases k with ⟨mv, pv, e, q⟩ | ⟨n, sp, es, C, _⟩
  · have := getElem?_lt e; omega
  · exact C.lt
theorem Ca.mono {h h' : Heap} {s c m : Nat} {M : MemD} (k : Ca h s c m M) (h1 : h'[c]? = h[c]?) (h2 : h'[m]? = h[m]?) : Ca h' s c m M := by
  rcases k with ⟨mv, pv, e, q⟩ | ⟨n, sp, es, C, hsp, o1⟩
  · exact .inl ⟨mv, pv, h1.trans e, q⟩
  · exact .inr ⟨n, sp, es, C.mono h1 h2, hsp, o1⟩
theorem cfetch_off {h : Heap} {s c : Nat} {M : MemD} {mv pv : Value} (a : Nat) (r : MR h s M) (hc : h[c]? = some (.cells #[.bool false, mv, pv] 102 (0, 0))) (ha : a < 18446744073709551616) :
    Fn Tryz.prog 26 [ptr c 0, ptr s 0, .int .u64 a] h fun x h' => x = .tuple #[(readF M.rs (memAt M) a).1.v, (readF M.rs (memAt M) a).2.v] ∧ Keeps h.size h h' := by
  have lc := getElem?_lt hc
  refine Fn_c Tryz.func26 mixed c26 (by kernel_rfl) ?_; rw [r26]
  refine gs1 @hc ?_; (try with_reducible exact trivial)
  refine FnK.use (cread_c a (r.ext ((Keeps.push _ _ (Nat.le_refl _)).push' (Nat.le_refl _))) ha) ?_
  intro x h1 ⟨e1, K1⟩
  have K2 := ((Keeps.push h _ (Nat.le_refl _)).push' (Nat.le_refl _)).of_ext K1 (Nat.le_refl _)
  have b0 : h1[h.size]? = some (.cells #[.int .i64 0, .int .i64 0, .int .i64 0, .int .i64 0, .int .i64 0, .int .i64 0, .int .i64 0] 47 (0, 0)) := by (rw [K1.old _ (by simp <;> omega)]; refine gs0 ?_; (try with_reducible exact trivial))
  have b1 : h1[h.size + 1]? = some (.cells #[.int .i64 0, .int .i64 0, .int .u64 0] 49 (0, 0)) := by (rw [K1.old _ (by simp <;> omega)]; refine gs0 ?_; (try with_reducible exact trivial))
  have l0 := getElem?_lt b0
  have l1 := getElem?_lt b1
  rw [e1]
  refine gs4 @b0 @b1 InstR.v.eq_1 StopR.v.eq_1 ?_; (try with_reducible exact trivial)
  exact (K2.set' (Nat.le_refl _)).set' (by omega)
theorem Ca.fetch {h : Heap} {s c m : Nat} {M : MemD} (k : Ca h s c m M) (a : Nat) (r : MR h s M) (ha : a < 18446744073709551616) (nc : ¬ mfoot s M c) (nm : ¬ mfoot s M m) :
    Fn Tryz.prog 26 [ptr c 0, ptr s 0, .int .u64 a] h fun x h' => x = .tuple #[(readF M.rs (memAt M) a).1.v, (readF M.rs (memAt M) a).2.v] ∧ Ca h' s c m M ∧ h.size ≤ h'.size ∧ ∀ b, b < h.size → b ≠ c → b ≠ m → h'[b]? = h[b]? := by
  rcases k with ⟨mv, pv, e, q⟩ | ⟨n, sp, es, C, hsp, o1⟩
  · exact (cfetch_off a r e ha).mono fun x h' ⟨e1, K⟩ => ⟨e1, .inl ⟨mv, pv, K.at e (getElem?_lt e), q⟩, K.size, fun b hb _ _ => K.old b hb⟩
  · refine (cfetch_on a r ha C ?_ o1 nc nm).mono fun x h' ⟨e, n', es', C', ok', z, o⟩ => ⟨e, .inr ⟨n', _, es', C', .inr rfl, fun _ => ok'⟩, z, o⟩
    rcases hsp with q | q
    · exact .inl q
    · exact .inr ⟨s, _, _, q, r.top⟩
/-- a machine's cells. -/
def hg (t : HS) (s c : Nat) (j : Nat) : Value := if j < 35 then t.cell j else if j = 35 then ptr s 0 else ptr c 0
theorem cell_one (t : HS) : (fnL 35 t.cell).all SX.one = true := by
  rw [List.all_eq_true]
  intro x hx
  obtain ⟨i, hi, rfl⟩ := List.mem_map.1 hx
  unfold HS.cell
  split
  · rfl
  · split
    · rfl
    · split <;> rfl
theorem hg_cells (t : HS) (s c : Nat) : fnL 35 (hg t s c) = fnL 35 t.cell := fnL_congr fun i hi => by unfold hg; rw [if_pos hi]
end Go.SX.G
