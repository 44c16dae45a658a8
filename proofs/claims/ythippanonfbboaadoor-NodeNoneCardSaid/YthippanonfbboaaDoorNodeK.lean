/- NodeNone, the walk. No condition but on sizes. -/
import Derived.Test.YthippanonfbboaaDoorNodeI
import Derived.Test.YthippanonfbboaaDoorNodeJ
set_option linter.unusedVariables false
set_option linter.unusedSimpArgs false
namespace Go.SX.G
open Go Go.SX Go.Proofs
set_option maxRecDepth 100000
set_option maxHeartbeats 4000000
theorem both_all {h : Heap} {m bn r : Nat} {v : Value} {ds : List Nat} (R : Rt h m bn r) (D A B N M : Int) (s u : ByteArray) (isd : Bool) (hs : s.size ≤ 300) (hu : u.size ≤ 300) (hv : Vs h v encB 1 ds) (hl : ds.length ≤ 5000) :
    Fn Tryd.prog 19 [.pointer none, ptr m 0, .agg #[.int .i64 D, .int .i64 A, .int .i64 B, .int .i64 N, .int .i64 M, .string s, .string u, v, .bool isd]] h fun x h' => Bth h h' m bn r x (¬ (D < 1 ∨ 12 < D ∨ D = 9 ∨ D = 10)) := by
  have w : ∀ {x h'} {p q : Prop}, (q → p) → Bth h h' m bn r x p → Bth h h' m bn r x q := fun f b => ⟨by obtain ⟨a, c, e, g⟩ := b.1; exact ⟨a, c, e, fun z => g (f z)⟩, b.2⟩
  by_cases h0 : D < 1 ∨ 12 < D
  · exact (both0_c R D A B N M s u isd hv h0).mono fun x h' b => w (fun z => by omega) b
  have : D = 1 ∨ D = 2 ∨ D = 3 ∨ D = 4 ∨ D = 5 ∨ D = 6 ∨ D = 7 ∨ D = 8 ∨ D = 9 ∨ D = 10 ∨ D = 11 ∨ D = 12 := by omega
  rcases this with q | q | q | q | q | q | q | q | q | q | q | q <;> subst q
  · exact (both1_c R A B N M s u isd hs hu hv hl).mono fun x h' b => w (fun _ => trivial) b
  · exact (both2_c R A B N M s u isd hs hu hv hl).mono fun x h' b => w (fun _ => trivial) b
  · exact (both3_c R A B N M s u isd hs hu hv hl).mono fun x h' b => w (fun _ => trivial) b
  · exact (both4_c R A B N M s u isd hs hu hv hl).mono fun x h' b => w (fun _ => trivial) b
  · exact (both5_c R A B N M s u isd hs hu hv hl).mono fun x h' b => w (fun _ => trivial) b
  · exact (both6_c R A B N M s u isd hs hu hv hl).mono fun x h' b => w (fun _ => trivial) b
  · exact (both7_c R A B N M s u isd hs hu hv hl).mono fun x h' b => w (fun _ => trivial) b
  · exact (both8_c R A B N M s u isd hs hu hv hl).mono fun x h' b => w (fun _ => trivial) b
  · exact (both9_c R A B N M s u isd hs hu hv hl).mono fun x h' b => w (fun z => by omega) b
  · exact (both10_c R A B N M s u isd hs hu hv hl).mono fun x h' b => w (fun z => by omega) b
  · exact (both11_c R A B N M s u isd hs hu hv hl).mono fun x h' b => w (fun _ => trivial) b
  · exact (both12_c R A B N M s u isd hs hu hv hl).mono fun x h' b => w (fun _ => trivial) b
theorem info_z (h : Heap) (n : Int) : Fn Tryd.prog 14 [.pointer none, .int .i64 n] h fun x h' => x = .tuple #[.agg #[.int .i64 0, .int .i64 0, .int .i64 0, .int .i64 0, .int .i64 0], .bool false] ∧ Keeps h.size h h' := by
  refine Fn_c Tryd.func14 mixed c14 (by kernel_rfl) ?_; rw [r14]
  simp -implicitDefEqProofs (disch := first | omega | (simp only [h_szP, h_szS]; done) | (simp only [h_szP, h_szS]; omega)) only [go_sem, Nat.reduceBEq, reduceCtorEq, Nat.reduceAdd, Int.reduceEq, Int.reduceLT, Int.reduceLE, Int.reduceMul, Int.reduceAdd, Int.reduceSub, reduceIte, Nat.reduceLeDiff, Nat.reduceLT, Nat.reduceMul, Nat.reduceSub, Int.reduceToNat, s14, zc38, Tryd.underlying67, sd38, sz38, fo69_0, sh3, fo69_1, fo69_5, fo69_2, sh23, Tryd.underlying23, sl23, ze5, by5, sz5, pl38_0, pl38_1, pl38_2, pl38_3, pl38_4, Tryd.underlying3, fo69_3, sh55, Tryd.underlying55, sl55, ze59, by59, sz59, fo38_4, sz3, fo38_3, sh59, zc59, fo59_2, sh38]
  refine FnK.use (get_n _ _) ?_
  intro x h1 ⟨e1, K1⟩
  rw [e1]
  have hb : h1[h.size]? = some (.cells #[.int .i64 0, .int .i64 0, .int .i64 0, .int .i64 0, .int .i64 0] 38 (0, 0)) := by rw [K1.old _ (by simp)]; exact h_pushE _ _ _ rfl
  have hl := getElem?_lt hb
  simp -implicitDefEqProofs (disch := first | omega | (simp only [h_szP, h_szS]; done) | (simp only [h_szP, h_szS]; omega)) only [go_sem, Nat.reduceBEq, reduceCtorEq, Nat.reduceAdd, Int.reduceEq, Int.reduceLT, Int.reduceLE, Int.reduceMul, Int.reduceAdd, Int.reduceSub, reduceIte, Nat.reduceLeDiff, Nat.reduceLT, Nat.reduceMul, Nat.reduceSub, Int.reduceToNat, s14, zc38, Tryd.underlying67, sd38, sz38, fo69_0, sh3, fo69_1, fo69_5, fo69_2, sh23, Tryd.underlying23, sl23, ze5, by5, sz5, pl38_0, pl38_1, pl38_2, pl38_3, pl38_4, Tryd.underlying3, fo69_3, sh55, Tryd.underlying55, sl55, ze59, by59, sz59, fo38_4, sz3, fo38_3, sh59, zc59, fo59_2, sh38, hb]
  first | exact ((Keeps.push _ _ (Nat.le_refl _)).of_ext K1 (Nat.le_refl _)).set' (Nat.le_refl _) | exact ⟨rfl, ((Keeps.push _ _ (Nat.le_refl _)).of_ext K1 (Nat.le_refl _)).set' (Nat.le_refl _)⟩
theorem ba_refl (x : ByteArray) : (x == x) = true := by
  first
    | exact beq_self_eq_true x
    | exact decide_eq_true rfl
    | (cases x with | mk d => first | (show (d == d) = true; simp) | (simp [BEq.beq]) | (unfold BEq.beq; simp))
theorem nodenone_c {h : Heap} {v : Value} {ds : List Nat} (D A B N M : Int) (s u : ByteArray) (isd : Bool) (hv : Vs h v encB 1 ds) :
    Fn Tryd.prog 6 [.agg #[.int .i64 D, .int .i64 A, .int .i64 B, .int .i64 N, .int .i64 M, .string s, .string u, v, .bool isd]] h fun x h' => x = .bool true ∧ ∀ b, b < h.size → h'[b]? = h[b]? := by
  obtain ⟨a, cap, e1, hcap⟩ := hv.shape
  rw [e1] at hv ⊢
  have hA : (h.push (.cells #[.int .i64 D, .int .i64 A, .int .i64 B, .int .i64 N, .int .i64 M, .string s, .string u, .slice a ds.length cap, .bool isd] 52))[h.size]? = some (.cells #[.int .i64 D, .int .i64 A, .int .i64 B, .int .i64 N, .int .i64 M, .string s, .string u, .slice a ds.length cap, .bool isd] 52 (0, 0)) := h_pushE _ _ _ rfl
  have K0 := Keeps.push h (.cells #[.int .i64 D, .int .i64 A, .int .i64 B, .int .i64 N, .int .i64 M, .string s, .string u, .slice a ds.length cap, .bool isd] 52) (Nat.le_refl _)
  have hv0 := hv.ext K0
  refine Fn_c Tryd.func6 mixed c6 (by kernel_rfl) ?_; rw [r6]
  simp -implicitDefEqProofs (disch := first | omega | (simp only [h_szP, h_szS]; done) | (simp only [h_szP, h_szS]; omega)) only [go_sem, Nat.reduceBEq, reduceCtorEq, Nat.reduceAdd, Int.reduceEq, Int.reduceLT, Int.reduceLE, Int.reduceMul, Int.reduceAdd, Int.reduceSub, reduceIte, Nat.reduceLeDiff, Nat.reduceLT, Nat.reduceMul, Nat.reduceSub, Int.reduceToNat, s6, sh52, fo52_1, sh3, zc38, sz38, fo52_0, Tryd.underlying3, Tryd.underlying26, Tryd.underlying9]
  refine FnK.use (light_c D A B N M s u isd hv0) ?_
  intro x1 h1 ⟨⟨b, e1, hb⟩, K1⟩
  have hA1 := K1.at hA (by simp)
  have l1 := getElem?_lt hA1
  rw [e1]
  simp -implicitDefEqProofs (disch := first | omega | (simp only [h_szP, h_szS]; done) | (simp only [h_szP, h_szS]; omega)) only [go_sem, Nat.reduceBEq, reduceCtorEq, Nat.reduceAdd, Int.reduceEq, Int.reduceLT, Int.reduceLE, Int.reduceMul, Int.reduceAdd, Int.reduceSub, reduceIte, Nat.reduceLeDiff, Nat.reduceLT, Nat.reduceMul, Nat.reduceSub, Int.reduceToNat, s6, sh52, fo52_1, sh3, zc38, sz38, fo52_0, Tryd.underlying3, Tryd.underlying26, Tryd.underlying9, hA1]
  rw [t_all]
  refine ⟨fun hbt => ?_, fun _ => ?_⟩
  · obtain ⟨hs, hu, hl⟩ := hb hbt
    refine FnK.use (info_z _ _) ?_
    intro x2 h2 ⟨e2, K2⟩
    have hA2 := K2.at hA1 (getElem?_lt hA1)
    have l2 := getElem?_lt hA2
    rw [e2]
    simp -implicitDefEqProofs (disch := first | omega | (simp only [h_szP, h_szS]; done) | (simp only [h_szP, h_szS]; omega)) only [go_sem, Nat.reduceBEq, reduceCtorEq, Nat.reduceAdd, Int.reduceEq, Int.reduceLT, Int.reduceLE, Int.reduceMul, Int.reduceAdd, Int.reduceSub, reduceIte, Nat.reduceLeDiff, Nat.reduceLT, Nat.reduceMul, Nat.reduceSub, Int.reduceToNat, s6, sh52, fo52_1, sh3, zc38, sz38, fo52_0, Tryd.underlying3, Tryd.underlying26, Tryd.underlying9, hA2]
    refine FnK.use (list_n _ _) ?_
    intro x3 h3 ⟨e3, K3⟩
    have KP := Keeps.push h2 (.cells #[.int .i64 0, .int .i64 0, .int .i64 0, .int .i64 0, .int .i64 0] 38) (Nat.le_refl _)
    have hA3 := K3.at (b := h.size) (by rw [h_pushL _ _ _ l2]; exact hA2) (by simp; omega)
    have l3 := getElem?_lt hA3
    rw [e3]
    simp -implicitDefEqProofs (disch := first | omega | (simp only [h_szP, h_szS]; done) | (simp only [h_szP, h_szS]; omega)) only [go_sem, Nat.reduceBEq, reduceCtorEq, Nat.reduceAdd, Int.reduceEq, Int.reduceLT, Int.reduceLE, Int.reduceMul, Int.reduceAdd, Int.reduceSub, reduceIte, Nat.reduceLeDiff, Nat.reduceLT, Nat.reduceMul, Nat.reduceSub, Int.reduceToNat, s6, sh52, fo52_1, sh3, zc38, sz38, fo52_0, Tryd.underlying3, Tryd.underlying26, Tryd.underlying9, hA3]
    repeat' refine And.intro ?_ ?_
    all_goals
      refine FnK.use (empty_c _) ?_
      intro x4 h4 ⟨⟨m, bn, r, e4, R, p1, p2, p3⟩, K4⟩
      have hA4 := K4.at hA3 (getElem?_lt hA3)
      have l4 := getElem?_lt hA4
      rw [e4]
      simp -implicitDefEqProofs (disch := first | omega | (simp only [h_szP, h_szS]; done) | (simp only [h_szP, h_szS]; omega)) only [go_sem, Nat.reduceBEq, reduceCtorEq, Nat.reduceAdd, Int.reduceEq, Int.reduceLT, Int.reduceLE, Int.reduceMul, Int.reduceAdd, Int.reduceSub, reduceIte, Nat.reduceLeDiff, Nat.reduceLT, Nat.reduceMul, Nat.reduceSub, Int.reduceToNat, s6, sh52, fo52_1, sh3, zc38, sz38, fo52_0, Tryd.underlying3, Tryd.underlying26, Tryd.underlying9, hA4]
      have hv4 := ((((hv0.ext K1).ext K2).ext KP).ext K3).ext K4
      refine FnK.use (both_all R D A B N M s u isd hs hu hv4 hl) ?_
      intro x5 h5 ⟨⟨s1, s2, e5, hsame⟩, L5⟩
      rw [e5]
      simp -implicitDefEqProofs (disch := first | omega | (simp only [h_szP, h_szS]; done) | (simp only [h_szP, h_szS]; omega)) only [go_sem, Nat.reduceBEq, reduceCtorEq, Nat.reduceAdd, Int.reduceEq, Int.reduceLT, Int.reduceLE, Int.reduceMul, Int.reduceAdd, Int.reduceSub, reduceIte, Nat.reduceLeDiff, Nat.reduceLT, Nat.reduceMul, Nat.reduceSub, Int.reduceToNat, s6, sh52, fo52_1, sh3, zc38, sz38, fo52_0, Tryd.underlying3, Tryd.underlying26, Tryd.underlying9]
      refine FnK.use (told_c 0 2 (by omega) (by omega) _) ?_
      intro x6 h6 ⟨e6, K6⟩
      rw [e6]
      simp -implicitDefEqProofs (disch := first | omega | (simp only [h_szP, h_szS]; done) | (simp only [h_szP, h_szS]; omega)) only [go_sem, Nat.reduceBEq, reduceCtorEq, Nat.reduceAdd, Int.reduceEq, Int.reduceLT, Int.reduceLE, Int.reduceMul, Int.reduceAdd, Int.reduceSub, reduceIte, Nat.reduceLeDiff, Nat.reduceLT, Nat.reduceMul, Nat.reduceSub, Int.reduceToNat, s6, sh52, fo52_1, sh3, zc38, sz38, fo52_0, Tryd.underlying3, Tryd.underlying26, Tryd.underlying9]
      refine FnK.use (hold_n _ _) ?_
      intro x7 h7 K7
      simp -implicitDefEqProofs (disch := first | omega | (simp only [h_szP, h_szS]; done) | (simp only [h_szP, h_szS]; omega)) only [go_sem, Nat.reduceBEq, reduceCtorEq, Nat.reduceAdd, Int.reduceEq, Int.reduceLT, Int.reduceLE, Int.reduceMul, Int.reduceAdd, Int.reduceSub, reduceIte, Nat.reduceLeDiff, Nat.reduceLT, Nat.reduceMul, Nat.reduceSub, Int.reduceToNat, s6, sh52, fo52_1, sh3, zc38, sz38, fo52_0, Tryd.underlying3, Tryd.underlying26, Tryd.underlying9]
      refine FnK.use (release_n _ _) ?_
      intro x8 h8 K8
      have z2 := K2.size
      have z3 := K3.size
      simp only [Array.size_push] at z3
      have z4 := K4.size
      have z5 := L5.size
      have K68 := (K6.of_ext K7 (Nat.le_refl _)).of_ext K8 (Nat.le_refl _)
      have hA5 := L5.old h.size l4 (by omega) (by omega) (by omega)
      rw [hA4] at hA5
      have hA8 := K68.at hA5 (by omega)
      have l8 := getElem?_lt hA8
      simp -implicitDefEqProofs (disch := first | omega | (simp only [h_szP, h_szS]; done) | (simp only [h_szP, h_szS]; omega)) only [go_sem, Nat.reduceBEq, reduceCtorEq, Nat.reduceAdd, Int.reduceEq, Int.reduceLT, Int.reduceLE, Int.reduceMul, Int.reduceAdd, Int.reduceSub, reduceIte, Nat.reduceLeDiff, Nat.reduceLT, Nat.reduceMul, Nat.reduceSub, Int.reduceToNat, s6, sh52, fo52_1, sh3, zc38, sz38, fo52_0, Tryd.underlying3, Tryd.underlying26, Tryd.underlying9, hA8, s_eql]
      have last : ∀ {h9 h10 h11 : Heap} (b : Nat), b < h.size → Keeps h8.size h8 h9 → Keeps h9.size h9 h10 → Keeps h10.size h10 h11 → h11[b]? = h[b]? := by
        intro h9 h10 h11 b hb K9 K10 K11
        have zz := K68.size
        have z9 := K9.size
        have z10 := K10.size
        rw [K11.old b (by omega), K10.old b (by omega), K9.old b (by omega), K68.old b (by omega), L5.old b (by omega) (by omega) (by omega) (by omega), K4.old b (by omega), K3.old b (by simp; omega), h_pushL _ _ _ (by omega)]
        exact ((K0.of_ext K1 (Nat.le_refl _)).of_ext K2 (Nat.le_refl _)).old b hb
      have wz : (toldS 0 2 == toldS 0 2) = true := ba_refl _
      refine ⟨fun q => ?_, fun _ => ⟨fun q => ?_, fun _ => ⟨fun q => ?_, fun q9 => ?_⟩⟩⟩
      · refine FnK.use (answers15_c _) ?_
        intro x9 h9 ⟨e9, K9⟩
        have hA9 := K9.at hA8 l8
        have l9 := getElem?_lt hA9
        rw [e9]
        simp -implicitDefEqProofs (disch := first | omega | (simp only [h_szP, h_szS]; done) | (simp only [h_szP, h_szS]; omega)) only [go_sem, Nat.reduceBEq, reduceCtorEq, Nat.reduceAdd, Int.reduceEq, Int.reduceLT, Int.reduceLE, Int.reduceMul, Int.reduceAdd, Int.reduceSub, reduceIte, Nat.reduceLeDiff, Nat.reduceLT, Nat.reduceMul, Nat.reduceSub, Int.reduceToNat, s6, sh52, fo52_1, sh3, zc38, sz38, fo52_0, Tryd.underlying3, Tryd.underlying26, Tryd.underlying9, hA9]
        refine FnK.use (parent_n _ _) ?_
        intro x10 h10 ⟨e10, K10⟩
        rw [e10]
        simp -implicitDefEqProofs (disch := first | omega | (simp only [h_szP, h_szS]; done) | (simp only [h_szP, h_szS]; omega)) only [go_sem, Nat.reduceBEq, reduceCtorEq, Nat.reduceAdd, Int.reduceEq, Int.reduceLT, Int.reduceLE, Int.reduceMul, Int.reduceAdd, Int.reduceSub, reduceIte, Nat.reduceLeDiff, Nat.reduceLT, Nat.reduceMul, Nat.reduceSub, Int.reduceToNat, s6, sh52, fo52_1, sh3, zc38, sz38, fo52_0, Tryd.underlying3, Tryd.underlying26, Tryd.underlying9]
        refine FnK.use (len_n _) ?_
        intro x11 h11 ⟨e11, K11⟩
        rw [e11]
        simp -implicitDefEqProofs (disch := first | omega | (simp only [h_szP, h_szS]; done) | (simp only [h_szP, h_szS]; omega)) only [go_sem, Nat.reduceBEq, reduceCtorEq, Nat.reduceAdd, Int.reduceEq, Int.reduceLT, Int.reduceLE, Int.reduceMul, Int.reduceAdd, Int.reduceSub, reduceIte, Nat.reduceLeDiff, Nat.reduceLT, Nat.reduceMul, Nat.reduceSub, Int.reduceToNat, s6, sh52, fo52_1, sh3, zc38, sz38, fo52_0, Tryd.underlying3, Tryd.underlying26, Tryd.underlying9]
        exact fun b hb => last b hb K9 K10 K11
      · refine FnK.use (answers15_c _) ?_
        intro x9 h9 ⟨e9, K9⟩
        have hA9 := K9.at hA8 l8
        have l9 := getElem?_lt hA9
        rw [e9]
        simp -implicitDefEqProofs (disch := first | omega | (simp only [h_szP, h_szS]; done) | (simp only [h_szP, h_szS]; omega)) only [go_sem, Nat.reduceBEq, reduceCtorEq, Nat.reduceAdd, Int.reduceEq, Int.reduceLT, Int.reduceLE, Int.reduceMul, Int.reduceAdd, Int.reduceSub, reduceIte, Nat.reduceLeDiff, Nat.reduceLT, Nat.reduceMul, Nat.reduceSub, Int.reduceToNat, s6, sh52, fo52_1, sh3, zc38, sz38, fo52_0, Tryd.underlying3, Tryd.underlying26, Tryd.underlying9, hA9]
        refine FnK.use (parent_n _ _) ?_
        intro x10 h10 ⟨e10, K10⟩
        rw [e10]
        simp -implicitDefEqProofs (disch := first | omega | (simp only [h_szP, h_szS]; done) | (simp only [h_szP, h_szS]; omega)) only [go_sem, Nat.reduceBEq, reduceCtorEq, Nat.reduceAdd, Int.reduceEq, Int.reduceLT, Int.reduceLE, Int.reduceMul, Int.reduceAdd, Int.reduceSub, reduceIte, Nat.reduceLeDiff, Nat.reduceLT, Nat.reduceMul, Nat.reduceSub, Int.reduceToNat, s6, sh52, fo52_1, sh3, zc38, sz38, fo52_0, Tryd.underlying3, Tryd.underlying26, Tryd.underlying9]
        refine FnK.use (len_n _) ?_
        intro x11 h11 ⟨e11, K11⟩
        rw [e11]
        simp -implicitDefEqProofs (disch := first | omega | (simp only [h_szP, h_szS]; done) | (simp only [h_szP, h_szS]; omega)) only [go_sem, Nat.reduceBEq, reduceCtorEq, Nat.reduceAdd, Int.reduceEq, Int.reduceLT, Int.reduceLE, Int.reduceMul, Int.reduceAdd, Int.reduceSub, reduceIte, Nat.reduceLeDiff, Nat.reduceLT, Nat.reduceMul, Nat.reduceSub, Int.reduceToNat, s6, sh52, fo52_1, sh3, zc38, sz38, fo52_0, Tryd.underlying3, Tryd.underlying26, Tryd.underlying9]
        exact fun b hb => last b hb K9 K10 K11
      · refine FnK.use (answers15_c _) ?_
        intro x9 h9 ⟨e9, K9⟩
        have hA9 := K9.at hA8 l8
        have l9 := getElem?_lt hA9
        rw [e9]
        simp -implicitDefEqProofs (disch := first | omega | (simp only [h_szP, h_szS]; done) | (simp only [h_szP, h_szS]; omega)) only [go_sem, Nat.reduceBEq, reduceCtorEq, Nat.reduceAdd, Int.reduceEq, Int.reduceLT, Int.reduceLE, Int.reduceMul, Int.reduceAdd, Int.reduceSub, reduceIte, Nat.reduceLeDiff, Nat.reduceLT, Nat.reduceMul, Nat.reduceSub, Int.reduceToNat, s6, sh52, fo52_1, sh3, zc38, sz38, fo52_0, Tryd.underlying3, Tryd.underlying26, Tryd.underlying9, hA9]
        refine FnK.use (parent_n _ _) ?_
        intro x10 h10 ⟨e10, K10⟩
        rw [e10]
        simp -implicitDefEqProofs (disch := first | omega | (simp only [h_szP, h_szS]; done) | (simp only [h_szP, h_szS]; omega)) only [go_sem, Nat.reduceBEq, reduceCtorEq, Nat.reduceAdd, Int.reduceEq, Int.reduceLT, Int.reduceLE, Int.reduceMul, Int.reduceAdd, Int.reduceSub, reduceIte, Nat.reduceLeDiff, Nat.reduceLT, Nat.reduceMul, Nat.reduceSub, Int.reduceToNat, s6, sh52, fo52_1, sh3, zc38, sz38, fo52_0, Tryd.underlying3, Tryd.underlying26, Tryd.underlying9]
        refine FnK.use (len_n _) ?_
        intro x11 h11 ⟨e11, K11⟩
        rw [e11]
        simp -implicitDefEqProofs (disch := first | omega | (simp only [h_szP, h_szS]; done) | (simp only [h_szP, h_szS]; omega)) only [go_sem, Nat.reduceBEq, reduceCtorEq, Nat.reduceAdd, Int.reduceEq, Int.reduceLT, Int.reduceLE, Int.reduceMul, Int.reduceAdd, Int.reduceSub, reduceIte, Nat.reduceLeDiff, Nat.reduceLT, Nat.reduceMul, Nat.reduceSub, Int.reduceToNat, s6, sh52, fo52_1, sh3, zc38, sz38, fo52_0, Tryd.underlying3, Tryd.underlying26, Tryd.underlying9]
        exact fun b hb => last b hb K9 K10 K11
      · by_cases q10 : D = 10
        · have d10 : (D = 10) = True := eq_true q10
          refine FnK.use (answers15_c _) ?_
          intro x9 h9 ⟨e9, K9⟩
          have hA9 := K9.at hA8 l8
          have l9 := getElem?_lt hA9
          rw [e9]
          simp -implicitDefEqProofs (disch := first | omega | (simp only [h_szP, h_szS]; done) | (simp only [h_szP, h_szS]; omega)) only [go_sem, Nat.reduceBEq, reduceCtorEq, Nat.reduceAdd, Int.reduceEq, Int.reduceLT, Int.reduceLE, Int.reduceMul, Int.reduceAdd, Int.reduceSub, reduceIte, Nat.reduceLeDiff, Nat.reduceLT, Nat.reduceMul, Nat.reduceSub, Int.reduceToNat, s6, sh52, fo52_1, sh3, zc38, sz38, fo52_0, Tryd.underlying3, Tryd.underlying26, Tryd.underlying9, hA9, d10]
          refine FnK.use (parent_n _ _) ?_
          intro x10 h10 ⟨e10, K10⟩
          rw [e10]
          simp -implicitDefEqProofs (disch := first | omega | (simp only [h_szP, h_szS]; done) | (simp only [h_szP, h_szS]; omega)) only [go_sem, Nat.reduceBEq, reduceCtorEq, Nat.reduceAdd, Int.reduceEq, Int.reduceLT, Int.reduceLE, Int.reduceMul, Int.reduceAdd, Int.reduceSub, reduceIte, Nat.reduceLeDiff, Nat.reduceLT, Nat.reduceMul, Nat.reduceSub, Int.reduceToNat, s6, sh52, fo52_1, sh3, zc38, sz38, fo52_0, Tryd.underlying3, Tryd.underlying26, Tryd.underlying9]
          refine FnK.use (len_n _) ?_
          intro x11 h11 ⟨e11, K11⟩
          rw [e11]
          simp -implicitDefEqProofs (disch := first | omega | (simp only [h_szP, h_szS]; done) | (simp only [h_szP, h_szS]; omega)) only [go_sem, Nat.reduceBEq, reduceCtorEq, Nat.reduceAdd, Int.reduceEq, Int.reduceLT, Int.reduceLE, Int.reduceMul, Int.reduceAdd, Int.reduceSub, reduceIte, Nat.reduceLeDiff, Nat.reduceLT, Nat.reduceMul, Nat.reduceSub, Int.reduceToNat, s6, sh52, fo52_1, sh3, zc38, sz38, fo52_0, Tryd.underlying3, Tryd.underlying26, Tryd.underlying9]
          exact fun b hb => last b hb K9 K10 K11
        · have d10 : (D = 10) = False := eq_false q10
          have es := hsame (by omega)
          refine FnK.use (answers15_c _) ?_
          intro x9 h9 ⟨e9, K9⟩
          have hA9 := K9.at hA8 l8
          have l9 := getElem?_lt hA9
          rw [e9]
          simp -implicitDefEqProofs (disch := first | omega | (simp only [h_szP, h_szS]; done) | (simp only [h_szP, h_szS]; omega)) only [go_sem, Nat.reduceBEq, reduceCtorEq, Nat.reduceAdd, Int.reduceEq, Int.reduceLT, Int.reduceLE, Int.reduceMul, Int.reduceAdd, Int.reduceSub, reduceIte, Nat.reduceLeDiff, Nat.reduceLT, Nat.reduceMul, Nat.reduceSub, Int.reduceToNat, s6, sh52, fo52_1, sh3, zc38, sz38, fo52_0, Tryd.underlying3, Tryd.underlying26, Tryd.underlying9, hA9, d10, es, s_eql, wz]
          refine FnK.use (parent_n _ _) ?_
          intro x10 h10 ⟨e10, K10⟩
          rw [e10]
          simp -implicitDefEqProofs (disch := first | omega | (simp only [h_szP, h_szS]; done) | (simp only [h_szP, h_szS]; omega)) only [go_sem, Nat.reduceBEq, reduceCtorEq, Nat.reduceAdd, Int.reduceEq, Int.reduceLT, Int.reduceLE, Int.reduceMul, Int.reduceAdd, Int.reduceSub, reduceIte, Nat.reduceLeDiff, Nat.reduceLT, Nat.reduceMul, Nat.reduceSub, Int.reduceToNat, s6, sh52, fo52_1, sh3, zc38, sz38, fo52_0, Tryd.underlying3, Tryd.underlying26, Tryd.underlying9]
          refine FnK.use (len_n _) ?_
          intro x11 h11 ⟨e11, K11⟩
          rw [e11]
          simp -implicitDefEqProofs (disch := first | omega | (simp only [h_szP, h_szS]; done) | (simp only [h_szP, h_szS]; omega)) only [go_sem, Nat.reduceBEq, reduceCtorEq, Nat.reduceAdd, Int.reduceEq, Int.reduceLT, Int.reduceLE, Int.reduceMul, Int.reduceAdd, Int.reduceSub, reduceIte, Nat.reduceLeDiff, Nat.reduceLT, Nat.reduceMul, Nat.reduceSub, Int.reduceToNat, s6, sh52, fo52_1, sh3, zc38, sz38, fo52_0, Tryd.underlying3, Tryd.underlying26, Tryd.underlying9]
          exact fun b hb => last b hb K9 K10 K11
  · refine FnK.use (answers15_c _) ?_
    intro x2 h2 ⟨e2, K2⟩
    rw [e2]
    simp -implicitDefEqProofs (disch := first | omega | (simp only [h_szP, h_szS]; done) | (simp only [h_szP, h_szS]; omega)) only [go_sem, Nat.reduceBEq, reduceCtorEq, Nat.reduceAdd, Int.reduceEq, Int.reduceLT, Int.reduceLE, Int.reduceMul, Int.reduceAdd, Int.reduceSub, reduceIte, Nat.reduceLeDiff, Nat.reduceLT, Nat.reduceMul, Nat.reduceSub, Int.reduceToNat, s6, sh52, fo52_1, sh3, zc38, sz38, fo52_0, Tryd.underlying3, Tryd.underlying26, Tryd.underlying9]
    exact fun b hb => ((K0.of_ext K1 (Nat.le_refl _)).of_ext K2 (Nat.le_refl _)).old b hb
end Go.SX.G
