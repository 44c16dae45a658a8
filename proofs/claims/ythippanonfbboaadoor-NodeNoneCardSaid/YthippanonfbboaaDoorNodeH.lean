/- NodeNone, the walk: each call of both trees. No condition but on sizes. -/
import Derived.Test.YthippanonfbboaaDoorNodeG
set_option linter.unusedVariables false
set_option linter.unusedSimpArgs false
namespace Go.SX.G
open Go Go.SX Go.Proofs
set_option maxRecDepth 100000
set_option maxHeartbeats 4000000
theorem Lv.r {h h1 h2 h3 : Heap} {m bn r : Nat} (k1 : Keeps h.size h h1) (s2 : h1.size ≤ h2.size) (o2 : ∀ b, b < h1.size → b ≠ r → h2[b]? = h1[b]?) (k3 : Keeps h2.size h2 h3) : Lv h h3 m bn r :=
  ⟨by have := k1.size; have := k3.size; omega, fun b hb _ _ q => by have := k1.size; rw [k3.old b (by omega), o2 b (by omega) q, k1.old b hb]⟩
theorem both2_c {h : Heap} {m bn r : Nat} {v : Value} {ds : List Nat} (R : Rt h m bn r) (A B N M : Int) (s u : ByteArray) (isd : Bool) (hs : s.size ≤ 300) (hu : u.size ≤ 300) (hv : Vs h v encB 1 ds) (hl : ds.length ≤ 5000) :
    Fn Tryd.prog 19 [.pointer none, ptr m 0, .agg #[.int .i64 2, .int .i64 A, .int .i64 B, .int .i64 N, .int .i64 M, .string s, .string u, v, .bool isd]] h fun x h' => Bth h h' m bn r x True := by
  obtain ⟨a, cap, e1, hcap⟩ := hv.shape
  rw [e1] at hv ⊢
  have hA : (h.push (.cells #[.int .i64 2, .int .i64 A, .int .i64 B, .int .i64 N, .int .i64 M, .string s, .string u, .slice a ds.length cap, .bool isd] 52))[h.size]? = some (.cells #[.int .i64 2, .int .i64 A, .int .i64 B, .int .i64 N, .int .i64 M, .string s, .string u, .slice a ds.length cap, .bool isd] 52 (0, 0)) := h_pushE _ _ _ rfl
  have K0 := Keeps.push h (.cells #[.int .i64 2, .int .i64 A, .int .i64 B, .int .i64 N, .int .i64 M, .string s, .string u, .slice a ds.length cap, .bool isd] 52) (Nat.le_refl _)
  have R0 := R.ext K0
  skip
  refine Fn_k Tryd.func19 mixed c19 (by kernel_rfl) ?_; rw [r19]
  simp -implicitDefEqProofs (disch := first | omega | (simp only [h_szP, h_szS]; done) | (simp only [h_szP, h_szS]; omega)) only [go_sem, Nat.reduceBEq, reduceCtorEq, Nat.reduceAdd, Int.reduceEq, Int.reduceLT, Int.reduceLE, Int.reduceMul, Int.reduceAdd, Int.reduceSub, reduceIte, Nat.reduceLeDiff, Nat.reduceLT, Nat.reduceMul, Nat.reduceSub, Int.reduceToNat, s19, fo52_0, sh3, Tryd.underlying3, fo52_1, fo52_5, sh9, fo52_3, fo52_4, sl23, ze5, by5, sz5, fo52_7, sh23, Tryd.underlying23, fo52_2, fo52_8, sh4, fo52_6, Tryd.underlying9, Tryd.underlying5]
  repeat' refine And.intro ?_ ?_
  all_goals
    refine FnK.use (link_n _ _ _ _) ?_
    intro x1 h1 ⟨e1, K1⟩
    have hA1 := K1.at hA (by simp)
    have lA1 := getElem?_lt hA1
    have R1 := R0.ext K1
    rw [e1]
    simp -implicitDefEqProofs (disch := first | omega | (simp only [h_szP, h_szS]; done) | (simp only [h_szP, h_szS]; omega)) only [go_sem, Nat.reduceBEq, reduceCtorEq, Nat.reduceAdd, Int.reduceEq, Int.reduceLT, Int.reduceLE, Int.reduceMul, Int.reduceAdd, Int.reduceSub, reduceIte, Nat.reduceLeDiff, Nat.reduceLT, Nat.reduceMul, Nat.reduceSub, Int.reduceToNat, s19, fo52_0, sh3, Tryd.underlying3, fo52_1, fo52_5, sh9, fo52_3, fo52_4, sl23, ze5, by5, sz5, fo52_7, sh23, Tryd.underlying23, fo52_2, fo52_8, sh4, fo52_6, Tryd.underlying9, Tryd.underlying5, hA1]
  all_goals repeat' refine And.intro ?_ ?_
  all_goals
    refine FnK.use (rlink_c R1 A B s) ?_
    intro x2 h2 ⟨⟨e, he, e2⟩, K2⟩
    rw [e2]
    skip
    simp -implicitDefEqProofs (disch := first | omega | (simp only [h_szP, h_szS]; done) | (simp only [h_szP, h_szS]; omega)) only [go_sem, Nat.reduceBEq, reduceCtorEq, Nat.reduceAdd, Int.reduceEq, Int.reduceLT, Int.reduceLE, Int.reduceMul, Int.reduceAdd, Int.reduceSub, reduceIte, Nat.reduceLeDiff, Nat.reduceLT, Nat.reduceMul, Nat.reduceSub, Int.reduceToNat, s19, fo52_0, sh3, Tryd.underlying3, fo52_1, fo52_5, sh9, fo52_3, fo52_4, sl23, ze5, by5, sz5, fo52_7, sh23, Tryd.underlying23, fo52_2, fo52_8, sh4, fo52_6, Tryd.underlying9, Tryd.underlying5]
    refine FnK.use (told_c 0 2 (by omega) (by omega) _) ?_
    intro x3 h3 ⟨e3, K3⟩
    rw [e3]
    simp -implicitDefEqProofs (disch := first | omega | (simp only [h_szP, h_szS]; done) | (simp only [h_szP, h_szS]; omega)) only [go_sem, Nat.reduceBEq, reduceCtorEq, Nat.reduceAdd, Int.reduceEq, Int.reduceLT, Int.reduceLE, Int.reduceMul, Int.reduceAdd, Int.reduceSub, reduceIte, Nat.reduceLeDiff, Nat.reduceLT, Nat.reduceMul, Nat.reduceSub, Int.reduceToNat, s19, fo52_0, sh3, Tryd.underlying3, fo52_1, fo52_5, sh9, fo52_3, fo52_4, sl23, ze5, by5, sz5, fo52_7, sh23, Tryd.underlying23, fo52_2, fo52_8, sh4, fo52_6, Tryd.underlying9, Tryd.underlying5]
    refine FnK.use (told_c 0 e (by omega) (by omega) _) ?_
    intro x4 h4 ⟨e4, K4⟩
    rw [e4]
    simp -implicitDefEqProofs (disch := first | omega | (simp only [h_szP, h_szS]; done) | (simp only [h_szP, h_szS]; omega)) only [go_sem, Nat.reduceBEq, reduceCtorEq, Nat.reduceAdd, Int.reduceEq, Int.reduceLT, Int.reduceLE, Int.reduceMul, Int.reduceAdd, Int.reduceSub, reduceIte, Nat.reduceLeDiff, Nat.reduceLT, Nat.reduceMul, Nat.reduceSub, Int.reduceToNat, s19, fo52_0, sh3, Tryd.underlying3, fo52_1, fo52_5, sh9, fo52_3, fo52_4, sl23, ze5, by5, sz5, fo52_7, sh23, Tryd.underlying23, fo52_2, fo52_8, sh4, fo52_6, Tryd.underlying9, Tryd.underlying5]
    exact ⟨⟨_, _, rfl, fun _ => rfl⟩, Lv.of (((K0.of_ext K1 (Nat.le_refl _)).of_ext K2 (Nat.le_refl _)).of_ext (K3.of_ext K4 (Nat.le_refl _)) (Nat.le_refl _))⟩
theorem both3_c {h : Heap} {m bn r : Nat} {v : Value} {ds : List Nat} (R : Rt h m bn r) (A B N M : Int) (s u : ByteArray) (isd : Bool) (hs : s.size ≤ 300) (hu : u.size ≤ 300) (hv : Vs h v encB 1 ds) (hl : ds.length ≤ 5000) :
    Fn Tryd.prog 19 [.pointer none, ptr m 0, .agg #[.int .i64 3, .int .i64 A, .int .i64 B, .int .i64 N, .int .i64 M, .string s, .string u, v, .bool isd]] h fun x h' => Bth h h' m bn r x True := by
  obtain ⟨a, cap, e1, hcap⟩ := hv.shape
  rw [e1] at hv ⊢
  have hA : (h.push (.cells #[.int .i64 3, .int .i64 A, .int .i64 B, .int .i64 N, .int .i64 M, .string s, .string u, .slice a ds.length cap, .bool isd] 52))[h.size]? = some (.cells #[.int .i64 3, .int .i64 A, .int .i64 B, .int .i64 N, .int .i64 M, .string s, .string u, .slice a ds.length cap, .bool isd] 52 (0, 0)) := h_pushE _ _ _ rfl
  have K0 := Keeps.push h (.cells #[.int .i64 3, .int .i64 A, .int .i64 B, .int .i64 N, .int .i64 M, .string s, .string u, .slice a ds.length cap, .bool isd] 52) (Nat.le_refl _)
  have R0 := R.ext K0
  skip
  refine Fn_k Tryd.func19 mixed c19 (by kernel_rfl) ?_; rw [r19]
  simp -implicitDefEqProofs (disch := first | omega | (simp only [h_szP, h_szS]; done) | (simp only [h_szP, h_szS]; omega)) only [go_sem, Nat.reduceBEq, reduceCtorEq, Nat.reduceAdd, Int.reduceEq, Int.reduceLT, Int.reduceLE, Int.reduceMul, Int.reduceAdd, Int.reduceSub, reduceIte, Nat.reduceLeDiff, Nat.reduceLT, Nat.reduceMul, Nat.reduceSub, Int.reduceToNat, s19, fo52_0, sh3, Tryd.underlying3, fo52_1, fo52_5, sh9, fo52_3, fo52_4, sl23, ze5, by5, sz5, fo52_7, sh23, Tryd.underlying23, fo52_2, fo52_8, sh4, fo52_6, Tryd.underlying9, Tryd.underlying5]
  repeat' refine And.intro ?_ ?_
  all_goals
    refine FnK.use (remove_n _ _ _ _) ?_
    intro x1 h1 ⟨e1, K1⟩
    have hA1 := K1.at hA (by simp)
    have lA1 := getElem?_lt hA1
    have R1 := R0.ext K1
    rw [e1]
    simp -implicitDefEqProofs (disch := first | omega | (simp only [h_szP, h_szS]; done) | (simp only [h_szP, h_szS]; omega)) only [go_sem, Nat.reduceBEq, reduceCtorEq, Nat.reduceAdd, Int.reduceEq, Int.reduceLT, Int.reduceLE, Int.reduceMul, Int.reduceAdd, Int.reduceSub, reduceIte, Nat.reduceLeDiff, Nat.reduceLT, Nat.reduceMul, Nat.reduceSub, Int.reduceToNat, s19, fo52_0, sh3, Tryd.underlying3, fo52_1, fo52_5, sh9, fo52_3, fo52_4, sl23, ze5, by5, sz5, fo52_7, sh23, Tryd.underlying23, fo52_2, fo52_8, sh4, fo52_6, Tryd.underlying9, Tryd.underlying5, hA1]
  all_goals repeat' refine And.intro ?_ ?_
  all_goals
    refine FnK.use (rremove_c R1 A s isd) ?_
    intro x2 h2 ⟨⟨e, he, e2⟩, K2⟩
    rw [e2]
    skip
    simp -implicitDefEqProofs (disch := first | omega | (simp only [h_szP, h_szS]; done) | (simp only [h_szP, h_szS]; omega)) only [go_sem, Nat.reduceBEq, reduceCtorEq, Nat.reduceAdd, Int.reduceEq, Int.reduceLT, Int.reduceLE, Int.reduceMul, Int.reduceAdd, Int.reduceSub, reduceIte, Nat.reduceLeDiff, Nat.reduceLT, Nat.reduceMul, Nat.reduceSub, Int.reduceToNat, s19, fo52_0, sh3, Tryd.underlying3, fo52_1, fo52_5, sh9, fo52_3, fo52_4, sl23, ze5, by5, sz5, fo52_7, sh23, Tryd.underlying23, fo52_2, fo52_8, sh4, fo52_6, Tryd.underlying9, Tryd.underlying5]
    refine FnK.use (told_c 0 2 (by omega) (by omega) _) ?_
    intro x3 h3 ⟨e3, K3⟩
    rw [e3]
    simp -implicitDefEqProofs (disch := first | omega | (simp only [h_szP, h_szS]; done) | (simp only [h_szP, h_szS]; omega)) only [go_sem, Nat.reduceBEq, reduceCtorEq, Nat.reduceAdd, Int.reduceEq, Int.reduceLT, Int.reduceLE, Int.reduceMul, Int.reduceAdd, Int.reduceSub, reduceIte, Nat.reduceLeDiff, Nat.reduceLT, Nat.reduceMul, Nat.reduceSub, Int.reduceToNat, s19, fo52_0, sh3, Tryd.underlying3, fo52_1, fo52_5, sh9, fo52_3, fo52_4, sl23, ze5, by5, sz5, fo52_7, sh23, Tryd.underlying23, fo52_2, fo52_8, sh4, fo52_6, Tryd.underlying9, Tryd.underlying5]
    refine FnK.use (told_c 0 e (by omega) (by omega) _) ?_
    intro x4 h4 ⟨e4, K4⟩
    rw [e4]
    simp -implicitDefEqProofs (disch := first | omega | (simp only [h_szP, h_szS]; done) | (simp only [h_szP, h_szS]; omega)) only [go_sem, Nat.reduceBEq, reduceCtorEq, Nat.reduceAdd, Int.reduceEq, Int.reduceLT, Int.reduceLE, Int.reduceMul, Int.reduceAdd, Int.reduceSub, reduceIte, Nat.reduceLeDiff, Nat.reduceLT, Nat.reduceMul, Nat.reduceSub, Int.reduceToNat, s19, fo52_0, sh3, Tryd.underlying3, fo52_1, fo52_5, sh9, fo52_3, fo52_4, sl23, ze5, by5, sz5, fo52_7, sh23, Tryd.underlying23, fo52_2, fo52_8, sh4, fo52_6, Tryd.underlying9, Tryd.underlying5]
    exact ⟨⟨_, _, rfl, fun _ => rfl⟩, Lv.of (((K0.of_ext K1 (Nat.le_refl _)).of_ext K2 (Nat.le_refl _)).of_ext (K3.of_ext K4 (Nat.le_refl _)) (Nat.le_refl _))⟩
theorem both4_c {h : Heap} {m bn r : Nat} {v : Value} {ds : List Nat} (R : Rt h m bn r) (A B N M : Int) (s u : ByteArray) (isd : Bool) (hs : s.size ≤ 300) (hu : u.size ≤ 300) (hv : Vs h v encB 1 ds) (hl : ds.length ≤ 5000) :
    Fn Tryd.prog 19 [.pointer none, ptr m 0, .agg #[.int .i64 4, .int .i64 A, .int .i64 B, .int .i64 N, .int .i64 M, .string s, .string u, v, .bool isd]] h fun x h' => Bth h h' m bn r x True := by
  obtain ⟨a, cap, e1, hcap⟩ := hv.shape
  rw [e1] at hv ⊢
  have hA : (h.push (.cells #[.int .i64 4, .int .i64 A, .int .i64 B, .int .i64 N, .int .i64 M, .string s, .string u, .slice a ds.length cap, .bool isd] 52))[h.size]? = some (.cells #[.int .i64 4, .int .i64 A, .int .i64 B, .int .i64 N, .int .i64 M, .string s, .string u, .slice a ds.length cap, .bool isd] 52 (0, 0)) := h_pushE _ _ _ rfl
  have K0 := Keeps.push h (.cells #[.int .i64 4, .int .i64 A, .int .i64 B, .int .i64 N, .int .i64 M, .string s, .string u, .slice a ds.length cap, .bool isd] 52) (Nat.le_refl _)
  have R0 := R.ext K0
  skip
  refine Fn_k Tryd.func19 mixed c19 (by kernel_rfl) ?_; rw [r19]
  simp -implicitDefEqProofs (disch := first | omega | (simp only [h_szP, h_szS]; done) | (simp only [h_szP, h_szS]; omega)) only [go_sem, Nat.reduceBEq, reduceCtorEq, Nat.reduceAdd, Int.reduceEq, Int.reduceLT, Int.reduceLE, Int.reduceMul, Int.reduceAdd, Int.reduceSub, reduceIte, Nat.reduceLeDiff, Nat.reduceLT, Nat.reduceMul, Nat.reduceSub, Int.reduceToNat, s19, fo52_0, sh3, Tryd.underlying3, fo52_1, fo52_5, sh9, fo52_3, fo52_4, sl23, ze5, by5, sz5, fo52_7, sh23, Tryd.underlying23, fo52_2, fo52_8, sh4, fo52_6, Tryd.underlying9, Tryd.underlying5]
  repeat' refine And.intro ?_ ?_
  all_goals
    refine FnK.use (move_n _ _ _ _ _) ?_
    intro x1 h1 ⟨e1, K1⟩
    have hA1 := K1.at hA (by simp)
    have lA1 := getElem?_lt hA1
    have R1 := R0.ext K1
    rw [e1]
    simp -implicitDefEqProofs (disch := first | omega | (simp only [h_szP, h_szS]; done) | (simp only [h_szP, h_szS]; omega)) only [go_sem, Nat.reduceBEq, reduceCtorEq, Nat.reduceAdd, Int.reduceEq, Int.reduceLT, Int.reduceLE, Int.reduceMul, Int.reduceAdd, Int.reduceSub, reduceIte, Nat.reduceLeDiff, Nat.reduceLT, Nat.reduceMul, Nat.reduceSub, Int.reduceToNat, s19, fo52_0, sh3, Tryd.underlying3, fo52_1, fo52_5, sh9, fo52_3, fo52_4, sl23, ze5, by5, sz5, fo52_7, sh23, Tryd.underlying23, fo52_2, fo52_8, sh4, fo52_6, Tryd.underlying9, Tryd.underlying5, hA1]
  all_goals repeat' refine And.intro ?_ ?_
  all_goals
    refine FnK.use (rmove_c R1 A B s u (by omega)) ?_
    intro x2 h2 ⟨⟨e, he, e2⟩, K2⟩
    rw [e2]
    skip
    simp -implicitDefEqProofs (disch := first | omega | (simp only [h_szP, h_szS]; done) | (simp only [h_szP, h_szS]; omega)) only [go_sem, Nat.reduceBEq, reduceCtorEq, Nat.reduceAdd, Int.reduceEq, Int.reduceLT, Int.reduceLE, Int.reduceMul, Int.reduceAdd, Int.reduceSub, reduceIte, Nat.reduceLeDiff, Nat.reduceLT, Nat.reduceMul, Nat.reduceSub, Int.reduceToNat, s19, fo52_0, sh3, Tryd.underlying3, fo52_1, fo52_5, sh9, fo52_3, fo52_4, sl23, ze5, by5, sz5, fo52_7, sh23, Tryd.underlying23, fo52_2, fo52_8, sh4, fo52_6, Tryd.underlying9, Tryd.underlying5]
    refine FnK.use (told_c 0 2 (by omega) (by omega) _) ?_
    intro x3 h3 ⟨e3, K3⟩
    rw [e3]
    simp -implicitDefEqProofs (disch := first | omega | (simp only [h_szP, h_szS]; done) | (simp only [h_szP, h_szS]; omega)) only [go_sem, Nat.reduceBEq, reduceCtorEq, Nat.reduceAdd, Int.reduceEq, Int.reduceLT, Int.reduceLE, Int.reduceMul, Int.reduceAdd, Int.reduceSub, reduceIte, Nat.reduceLeDiff, Nat.reduceLT, Nat.reduceMul, Nat.reduceSub, Int.reduceToNat, s19, fo52_0, sh3, Tryd.underlying3, fo52_1, fo52_5, sh9, fo52_3, fo52_4, sl23, ze5, by5, sz5, fo52_7, sh23, Tryd.underlying23, fo52_2, fo52_8, sh4, fo52_6, Tryd.underlying9, Tryd.underlying5]
    refine FnK.use (told_c 0 e (by omega) (by omega) _) ?_
    intro x4 h4 ⟨e4, K4⟩
    rw [e4]
    simp -implicitDefEqProofs (disch := first | omega | (simp only [h_szP, h_szS]; done) | (simp only [h_szP, h_szS]; omega)) only [go_sem, Nat.reduceBEq, reduceCtorEq, Nat.reduceAdd, Int.reduceEq, Int.reduceLT, Int.reduceLE, Int.reduceMul, Int.reduceAdd, Int.reduceSub, reduceIte, Nat.reduceLeDiff, Nat.reduceLT, Nat.reduceMul, Nat.reduceSub, Int.reduceToNat, s19, fo52_0, sh3, Tryd.underlying3, fo52_1, fo52_5, sh9, fo52_3, fo52_4, sl23, ze5, by5, sz5, fo52_7, sh23, Tryd.underlying23, fo52_2, fo52_8, sh4, fo52_6, Tryd.underlying9, Tryd.underlying5]
    exact ⟨⟨_, _, rfl, fun _ => rfl⟩, Lv.of (((K0.of_ext K1 (Nat.le_refl _)).of_ext K2 (Nat.le_refl _)).of_ext (K3.of_ext K4 (Nat.le_refl _)) (Nat.le_refl _))⟩
theorem both5_c {h : Heap} {m bn r : Nat} {v : Value} {ds : List Nat} (R : Rt h m bn r) (A B N M : Int) (s u : ByteArray) (isd : Bool) (hs : s.size ≤ 300) (hu : u.size ≤ 300) (hv : Vs h v encB 1 ds) (hl : ds.length ≤ 5000) :
    Fn Tryd.prog 19 [.pointer none, ptr m 0, .agg #[.int .i64 5, .int .i64 A, .int .i64 B, .int .i64 N, .int .i64 M, .string s, .string u, v, .bool isd]] h fun x h' => Bth h h' m bn r x True := by
  obtain ⟨a, cap, e1, hcap⟩ := hv.shape
  rw [e1] at hv ⊢
  have hA : (h.push (.cells #[.int .i64 5, .int .i64 A, .int .i64 B, .int .i64 N, .int .i64 M, .string s, .string u, .slice a ds.length cap, .bool isd] 52))[h.size]? = some (.cells #[.int .i64 5, .int .i64 A, .int .i64 B, .int .i64 N, .int .i64 M, .string s, .string u, .slice a ds.length cap, .bool isd] 52 (0, 0)) := h_pushE _ _ _ rfl
  have K0 := Keeps.push h (.cells #[.int .i64 5, .int .i64 A, .int .i64 B, .int .i64 N, .int .i64 M, .string s, .string u, .slice a ds.length cap, .bool isd] 52) (Nat.le_refl _)
  have R0 := R.ext K0
  have hee : ∃ e : Nat, e ≤ 100 ∧ (if A = 1 then (21 : Int) else 2) = e := by by_cases q : A = 1; exact ⟨21, by omega, by rw [if_pos q]; rfl⟩; exact ⟨2, by omega, by rw [if_neg q]; rfl⟩
  obtain ⟨e, he, ee⟩ := hee
  refine Fn_k Tryd.func19 mixed c19 (by kernel_rfl) ?_; rw [r19]
  simp -implicitDefEqProofs (disch := first | omega | (simp only [h_szP, h_szS]; done) | (simp only [h_szP, h_szS]; omega)) only [go_sem, Nat.reduceBEq, reduceCtorEq, Nat.reduceAdd, Int.reduceEq, Int.reduceLT, Int.reduceLE, Int.reduceMul, Int.reduceAdd, Int.reduceSub, reduceIte, Nat.reduceLeDiff, Nat.reduceLT, Nat.reduceMul, Nat.reduceSub, Int.reduceToNat, s19, fo52_0, sh3, Tryd.underlying3, fo52_1, fo52_5, sh9, fo52_3, fo52_4, sl23, ze5, by5, sz5, fo52_7, sh23, Tryd.underlying23, fo52_2, fo52_8, sh4, fo52_6, Tryd.underlying9, Tryd.underlying5]
  repeat' refine And.intro ?_ ?_
  all_goals
    refine FnK.use (read_n _ _ _ _) ?_
    intro x1 h1 ⟨e1, K1⟩
    have hA1 := K1.at hA (by simp)
    have lA1 := getElem?_lt hA1
    have R1 := R0.ext K1
    rw [e1]
    simp -implicitDefEqProofs (disch := first | omega | (simp only [h_szP, h_szS]; done) | (simp only [h_szP, h_szS]; omega)) only [go_sem, Nat.reduceBEq, reduceCtorEq, Nat.reduceAdd, Int.reduceEq, Int.reduceLT, Int.reduceLE, Int.reduceMul, Int.reduceAdd, Int.reduceSub, reduceIte, Nat.reduceLeDiff, Nat.reduceLT, Nat.reduceMul, Nat.reduceSub, Int.reduceToNat, s19, fo52_0, sh3, Tryd.underlying3, fo52_1, fo52_5, sh9, fo52_3, fo52_4, sl23, ze5, by5, sz5, fo52_7, sh23, Tryd.underlying23, fo52_2, fo52_8, sh4, fo52_6, Tryd.underlying9, Tryd.underlying5, hA1]
  all_goals repeat' refine And.intro ?_ ?_
  all_goals
    refine FnK.use (rread_c R1 A N M) ?_
    intro x2 h2 ⟨e2, K2⟩
    rw [e2]
    rw [ee]
    simp -implicitDefEqProofs (disch := first | omega | (simp only [h_szP, h_szS]; done) | (simp only [h_szP, h_szS]; omega)) only [go_sem, Nat.reduceBEq, reduceCtorEq, Nat.reduceAdd, Int.reduceEq, Int.reduceLT, Int.reduceLE, Int.reduceMul, Int.reduceAdd, Int.reduceSub, reduceIte, Nat.reduceLeDiff, Nat.reduceLT, Nat.reduceMul, Nat.reduceSub, Int.reduceToNat, s19, fo52_0, sh3, Tryd.underlying3, fo52_1, fo52_5, sh9, fo52_3, fo52_4, sl23, ze5, by5, sz5, fo52_7, sh23, Tryd.underlying23, fo52_2, fo52_8, sh4, fo52_6, Tryd.underlying9, Tryd.underlying5]
    refine FnK.use (told_c 0 2 (by omega) (by omega) _) ?_
    intro x3 h3 ⟨e3, K3⟩
    rw [e3]
    simp -implicitDefEqProofs (disch := first | omega | (simp only [h_szP, h_szS]; done) | (simp only [h_szP, h_szS]; omega)) only [go_sem, Nat.reduceBEq, reduceCtorEq, Nat.reduceAdd, Int.reduceEq, Int.reduceLT, Int.reduceLE, Int.reduceMul, Int.reduceAdd, Int.reduceSub, reduceIte, Nat.reduceLeDiff, Nat.reduceLT, Nat.reduceMul, Nat.reduceSub, Int.reduceToNat, s19, fo52_0, sh3, Tryd.underlying3, fo52_1, fo52_5, sh9, fo52_3, fo52_4, sl23, ze5, by5, sz5, fo52_7, sh23, Tryd.underlying23, fo52_2, fo52_8, sh4, fo52_6, Tryd.underlying9, Tryd.underlying5]
    refine FnK.use (told_c 0 e (by omega) (by omega) _) ?_
    intro x4 h4 ⟨e4, K4⟩
    rw [e4]
    simp -implicitDefEqProofs (disch := first | omega | (simp only [h_szP, h_szS]; done) | (simp only [h_szP, h_szS]; omega)) only [go_sem, Nat.reduceBEq, reduceCtorEq, Nat.reduceAdd, Int.reduceEq, Int.reduceLT, Int.reduceLE, Int.reduceMul, Int.reduceAdd, Int.reduceSub, reduceIte, Nat.reduceLeDiff, Nat.reduceLT, Nat.reduceMul, Nat.reduceSub, Int.reduceToNat, s19, fo52_0, sh3, Tryd.underlying3, fo52_1, fo52_5, sh9, fo52_3, fo52_4, sl23, ze5, by5, sz5, fo52_7, sh23, Tryd.underlying23, fo52_2, fo52_8, sh4, fo52_6, Tryd.underlying9, Tryd.underlying5]
    exact ⟨⟨_, _, rfl, fun _ => rfl⟩, Lv.of (((K0.of_ext K1 (Nat.le_refl _)).of_ext K2 (Nat.le_refl _)).of_ext (K3.of_ext K4 (Nat.le_refl _)) (Nat.le_refl _))⟩
theorem both7_c {h : Heap} {m bn r : Nat} {v : Value} {ds : List Nat} (R : Rt h m bn r) (A B N M : Int) (s u : ByteArray) (isd : Bool) (hs : s.size ≤ 300) (hu : u.size ≤ 300) (hv : Vs h v encB 1 ds) (hl : ds.length ≤ 5000) :
    Fn Tryd.prog 19 [.pointer none, ptr m 0, .agg #[.int .i64 7, .int .i64 A, .int .i64 B, .int .i64 N, .int .i64 M, .string s, .string u, v, .bool isd]] h fun x h' => Bth h h' m bn r x True := by
  obtain ⟨a, cap, e1, hcap⟩ := hv.shape
  rw [e1] at hv ⊢
  have hA : (h.push (.cells #[.int .i64 7, .int .i64 A, .int .i64 B, .int .i64 N, .int .i64 M, .string s, .string u, .slice a ds.length cap, .bool isd] 52))[h.size]? = some (.cells #[.int .i64 7, .int .i64 A, .int .i64 B, .int .i64 N, .int .i64 M, .string s, .string u, .slice a ds.length cap, .bool isd] 52 (0, 0)) := h_pushE _ _ _ rfl
  have K0 := Keeps.push h (.cells #[.int .i64 7, .int .i64 A, .int .i64 B, .int .i64 N, .int .i64 M, .string s, .string u, .slice a ds.length cap, .bool isd] 52) (Nat.le_refl _)
  have R0 := R.ext K0
  have hee : ∃ e : Nat, e ≤ 100 ∧ (if A = 1 then (21 : Int) else 2) = e := by by_cases q : A = 1; exact ⟨21, by omega, by rw [if_pos q]; rfl⟩; exact ⟨2, by omega, by rw [if_neg q]; rfl⟩
  obtain ⟨e, he, ee⟩ := hee
  refine Fn_k Tryd.func19 mixed c19 (by kernel_rfl) ?_; rw [r19]
  simp -implicitDefEqProofs (disch := first | omega | (simp only [h_szP, h_szS]; done) | (simp only [h_szP, h_szS]; omega)) only [go_sem, Nat.reduceBEq, reduceCtorEq, Nat.reduceAdd, Int.reduceEq, Int.reduceLT, Int.reduceLE, Int.reduceMul, Int.reduceAdd, Int.reduceSub, reduceIte, Nat.reduceLeDiff, Nat.reduceLT, Nat.reduceMul, Nat.reduceSub, Int.reduceToNat, s19, fo52_0, sh3, Tryd.underlying3, fo52_1, fo52_5, sh9, fo52_3, fo52_4, sl23, ze5, by5, sz5, fo52_7, sh23, Tryd.underlying23, fo52_2, fo52_8, sh4, fo52_6, Tryd.underlying9, Tryd.underlying5]
  repeat' refine And.intro ?_ ?_
  all_goals
    refine FnK.use (cut_n _ _ _) ?_
    intro x1 h1 ⟨e1, K1⟩
    have hA1 := K1.at hA (by simp)
    have lA1 := getElem?_lt hA1
    have R1 := R0.ext K1
    rw [e1]
    simp -implicitDefEqProofs (disch := first | omega | (simp only [h_szP, h_szS]; done) | (simp only [h_szP, h_szS]; omega)) only [go_sem, Nat.reduceBEq, reduceCtorEq, Nat.reduceAdd, Int.reduceEq, Int.reduceLT, Int.reduceLE, Int.reduceMul, Int.reduceAdd, Int.reduceSub, reduceIte, Nat.reduceLeDiff, Nat.reduceLT, Nat.reduceMul, Nat.reduceSub, Int.reduceToNat, s19, fo52_0, sh3, Tryd.underlying3, fo52_1, fo52_5, sh9, fo52_3, fo52_4, sl23, ze5, by5, sz5, fo52_7, sh23, Tryd.underlying23, fo52_2, fo52_8, sh4, fo52_6, Tryd.underlying9, Tryd.underlying5, hA1]
  all_goals repeat' refine And.intro ?_ ?_
  all_goals
    refine FnK.use (rcut_c R1 A N) ?_
    intro x2 h2 ⟨e2, K2⟩
    rw [e2]
    rw [ee]
    simp -implicitDefEqProofs (disch := first | omega | (simp only [h_szP, h_szS]; done) | (simp only [h_szP, h_szS]; omega)) only [go_sem, Nat.reduceBEq, reduceCtorEq, Nat.reduceAdd, Int.reduceEq, Int.reduceLT, Int.reduceLE, Int.reduceMul, Int.reduceAdd, Int.reduceSub, reduceIte, Nat.reduceLeDiff, Nat.reduceLT, Nat.reduceMul, Nat.reduceSub, Int.reduceToNat, s19, fo52_0, sh3, Tryd.underlying3, fo52_1, fo52_5, sh9, fo52_3, fo52_4, sl23, ze5, by5, sz5, fo52_7, sh23, Tryd.underlying23, fo52_2, fo52_8, sh4, fo52_6, Tryd.underlying9, Tryd.underlying5]
    refine FnK.use (told_c 0 2 (by omega) (by omega) _) ?_
    intro x3 h3 ⟨e3, K3⟩
    rw [e3]
    simp -implicitDefEqProofs (disch := first | omega | (simp only [h_szP, h_szS]; done) | (simp only [h_szP, h_szS]; omega)) only [go_sem, Nat.reduceBEq, reduceCtorEq, Nat.reduceAdd, Int.reduceEq, Int.reduceLT, Int.reduceLE, Int.reduceMul, Int.reduceAdd, Int.reduceSub, reduceIte, Nat.reduceLeDiff, Nat.reduceLT, Nat.reduceMul, Nat.reduceSub, Int.reduceToNat, s19, fo52_0, sh3, Tryd.underlying3, fo52_1, fo52_5, sh9, fo52_3, fo52_4, sl23, ze5, by5, sz5, fo52_7, sh23, Tryd.underlying23, fo52_2, fo52_8, sh4, fo52_6, Tryd.underlying9, Tryd.underlying5]
    refine FnK.use (told_c 0 e (by omega) (by omega) _) ?_
    intro x4 h4 ⟨e4, K4⟩
    rw [e4]
    simp -implicitDefEqProofs (disch := first | omega | (simp only [h_szP, h_szS]; done) | (simp only [h_szP, h_szS]; omega)) only [go_sem, Nat.reduceBEq, reduceCtorEq, Nat.reduceAdd, Int.reduceEq, Int.reduceLT, Int.reduceLE, Int.reduceMul, Int.reduceAdd, Int.reduceSub, reduceIte, Nat.reduceLeDiff, Nat.reduceLT, Nat.reduceMul, Nat.reduceSub, Int.reduceToNat, s19, fo52_0, sh3, Tryd.underlying3, fo52_1, fo52_5, sh9, fo52_3, fo52_4, sl23, ze5, by5, sz5, fo52_7, sh23, Tryd.underlying23, fo52_2, fo52_8, sh4, fo52_6, Tryd.underlying9, Tryd.underlying5]
    exact ⟨⟨_, _, rfl, fun _ => rfl⟩, Lv.of (((K0.of_ext K1 (Nat.le_refl _)).of_ext K2 (Nat.le_refl _)).of_ext (K3.of_ext K4 (Nat.le_refl _)) (Nat.le_refl _))⟩
theorem both8_c {h : Heap} {m bn r : Nat} {v : Value} {ds : List Nat} (R : Rt h m bn r) (A B N M : Int) (s u : ByteArray) (isd : Bool) (hs : s.size ≤ 300) (hu : u.size ≤ 300) (hv : Vs h v encB 1 ds) (hl : ds.length ≤ 5000) :
    Fn Tryd.prog 19 [.pointer none, ptr m 0, .agg #[.int .i64 8, .int .i64 A, .int .i64 B, .int .i64 N, .int .i64 M, .string s, .string u, v, .bool isd]] h fun x h' => Bth h h' m bn r x True := by
  obtain ⟨a, cap, e1, hcap⟩ := hv.shape
  rw [e1] at hv ⊢
  have hA : (h.push (.cells #[.int .i64 8, .int .i64 A, .int .i64 B, .int .i64 N, .int .i64 M, .string s, .string u, .slice a ds.length cap, .bool isd] 52))[h.size]? = some (.cells #[.int .i64 8, .int .i64 A, .int .i64 B, .int .i64 N, .int .i64 M, .string s, .string u, .slice a ds.length cap, .bool isd] 52 (0, 0)) := h_pushE _ _ _ rfl
  have K0 := Keeps.push h (.cells #[.int .i64 8, .int .i64 A, .int .i64 B, .int .i64 N, .int .i64 M, .string s, .string u, .slice a ds.length cap, .bool isd] 52) (Nat.le_refl _)
  have R0 := R.ext K0
  skip
  refine Fn_k Tryd.func19 mixed c19 (by kernel_rfl) ?_; rw [r19]
  simp -implicitDefEqProofs (disch := first | omega | (simp only [h_szP, h_szS]; done) | (simp only [h_szP, h_szS]; omega)) only [go_sem, Nat.reduceBEq, reduceCtorEq, Nat.reduceAdd, Int.reduceEq, Int.reduceLT, Int.reduceLE, Int.reduceMul, Int.reduceAdd, Int.reduceSub, reduceIte, Nat.reduceLeDiff, Nat.reduceLT, Nat.reduceMul, Nat.reduceSub, Int.reduceToNat, s19, fo52_0, sh3, Tryd.underlying3, fo52_1, fo52_5, sh9, fo52_3, fo52_4, sl23, ze5, by5, sz5, fo52_7, sh23, Tryd.underlying23, fo52_2, fo52_8, sh4, fo52_6, Tryd.underlying9, Tryd.underlying5]
  repeat' refine And.intro ?_ ?_
  all_goals
    refine FnK.use (chmod_n _ _ _) ?_
    intro x1 h1 ⟨e1, K1⟩
    have hA1 := K1.at hA (by simp)
    have lA1 := getElem?_lt hA1
    have R1 := R0.ext K1
    rw [e1]
    simp -implicitDefEqProofs (disch := first | omega | (simp only [h_szP, h_szS]; done) | (simp only [h_szP, h_szS]; omega)) only [go_sem, Nat.reduceBEq, reduceCtorEq, Nat.reduceAdd, Int.reduceEq, Int.reduceLT, Int.reduceLE, Int.reduceMul, Int.reduceAdd, Int.reduceSub, reduceIte, Nat.reduceLeDiff, Nat.reduceLT, Nat.reduceMul, Nat.reduceSub, Int.reduceToNat, s19, fo52_0, sh3, Tryd.underlying3, fo52_1, fo52_5, sh9, fo52_3, fo52_4, sl23, ze5, by5, sz5, fo52_7, sh23, Tryd.underlying23, fo52_2, fo52_8, sh4, fo52_6, Tryd.underlying9, Tryd.underlying5, hA1]
  all_goals repeat' refine And.intro ?_ ?_
  all_goals
    refine FnK.use (rchmod_c R1 A M) ?_
    intro x2 h2 ⟨⟨e, he, e2⟩, s2, o2⟩
    rw [e2]
    skip
    simp -implicitDefEqProofs (disch := first | omega | (simp only [h_szP, h_szS]; done) | (simp only [h_szP, h_szS]; omega)) only [go_sem, Nat.reduceBEq, reduceCtorEq, Nat.reduceAdd, Int.reduceEq, Int.reduceLT, Int.reduceLE, Int.reduceMul, Int.reduceAdd, Int.reduceSub, reduceIte, Nat.reduceLeDiff, Nat.reduceLT, Nat.reduceMul, Nat.reduceSub, Int.reduceToNat, s19, fo52_0, sh3, Tryd.underlying3, fo52_1, fo52_5, sh9, fo52_3, fo52_4, sl23, ze5, by5, sz5, fo52_7, sh23, Tryd.underlying23, fo52_2, fo52_8, sh4, fo52_6, Tryd.underlying9, Tryd.underlying5]
    refine FnK.use (told_c 0 2 (by omega) (by omega) _) ?_
    intro x3 h3 ⟨e3, K3⟩
    rw [e3]
    simp -implicitDefEqProofs (disch := first | omega | (simp only [h_szP, h_szS]; done) | (simp only [h_szP, h_szS]; omega)) only [go_sem, Nat.reduceBEq, reduceCtorEq, Nat.reduceAdd, Int.reduceEq, Int.reduceLT, Int.reduceLE, Int.reduceMul, Int.reduceAdd, Int.reduceSub, reduceIte, Nat.reduceLeDiff, Nat.reduceLT, Nat.reduceMul, Nat.reduceSub, Int.reduceToNat, s19, fo52_0, sh3, Tryd.underlying3, fo52_1, fo52_5, sh9, fo52_3, fo52_4, sl23, ze5, by5, sz5, fo52_7, sh23, Tryd.underlying23, fo52_2, fo52_8, sh4, fo52_6, Tryd.underlying9, Tryd.underlying5]
    refine FnK.use (told_c 0 e (by omega) (by omega) _) ?_
    intro x4 h4 ⟨e4, K4⟩
    rw [e4]
    simp -implicitDefEqProofs (disch := first | omega | (simp only [h_szP, h_szS]; done) | (simp only [h_szP, h_szS]; omega)) only [go_sem, Nat.reduceBEq, reduceCtorEq, Nat.reduceAdd, Int.reduceEq, Int.reduceLT, Int.reduceLE, Int.reduceMul, Int.reduceAdd, Int.reduceSub, reduceIte, Nat.reduceLeDiff, Nat.reduceLT, Nat.reduceMul, Nat.reduceSub, Int.reduceToNat, s19, fo52_0, sh3, Tryd.underlying3, fo52_1, fo52_5, sh9, fo52_3, fo52_4, sl23, ze5, by5, sz5, fo52_7, sh23, Tryd.underlying23, fo52_2, fo52_8, sh4, fo52_6, Tryd.underlying9, Tryd.underlying5]
    exact ⟨⟨_, _, rfl, fun _ => rfl⟩, Lv.r (K0.of_ext K1 (Nat.le_refl _)) s2 o2 (K3.of_ext K4 (Nat.le_refl _))⟩
theorem both9_c {h : Heap} {m bn r : Nat} {v : Value} {ds : List Nat} (R : Rt h m bn r) (A B N M : Int) (s u : ByteArray) (isd : Bool) (hs : s.size ≤ 300) (hu : u.size ≤ 300) (hv : Vs h v encB 1 ds) (hl : ds.length ≤ 5000) :
    Fn Tryd.prog 19 [.pointer none, ptr m 0, .agg #[.int .i64 9, .int .i64 A, .int .i64 B, .int .i64 N, .int .i64 M, .string s, .string u, v, .bool isd]] h fun x h' => Bth h h' m bn r x False := by
  obtain ⟨a, cap, e1, hcap⟩ := hv.shape
  rw [e1] at hv ⊢
  have hA : (h.push (.cells #[.int .i64 9, .int .i64 A, .int .i64 B, .int .i64 N, .int .i64 M, .string s, .string u, .slice a ds.length cap, .bool isd] 52))[h.size]? = some (.cells #[.int .i64 9, .int .i64 A, .int .i64 B, .int .i64 N, .int .i64 M, .string s, .string u, .slice a ds.length cap, .bool isd] 52 (0, 0)) := h_pushE _ _ _ rfl
  have K0 := Keeps.push h (.cells #[.int .i64 9, .int .i64 A, .int .i64 B, .int .i64 N, .int .i64 M, .string s, .string u, .slice a ds.length cap, .bool isd] 52) (Nat.le_refl _)
  have R0 := R.ext K0
  skip
  refine Fn_k Tryd.func19 mixed c19 (by kernel_rfl) ?_; rw [r19]
  simp -implicitDefEqProofs (disch := first | omega | (simp only [h_szP, h_szS]; done) | (simp only [h_szP, h_szS]; omega)) only [go_sem, Nat.reduceBEq, reduceCtorEq, Nat.reduceAdd, Int.reduceEq, Int.reduceLT, Int.reduceLE, Int.reduceMul, Int.reduceAdd, Int.reduceSub, reduceIte, Nat.reduceLeDiff, Nat.reduceLT, Nat.reduceMul, Nat.reduceSub, Int.reduceToNat, s19, fo52_0, sh3, Tryd.underlying3, fo52_1, fo52_5, sh9, fo52_3, fo52_4, sl23, ze5, by5, sz5, fo52_7, sh23, Tryd.underlying23, fo52_2, fo52_8, sh4, fo52_6, Tryd.underlying9, Tryd.underlying5]
  repeat' refine And.intro ?_ ?_
  all_goals
    refine FnK.use (hold_n _ _) ?_
    intro x1 h1 K1
    have hA1 := K1.at hA (by simp)
    have lA1 := getElem?_lt hA1
    have R1 := R0.ext K1
    skip
    simp -implicitDefEqProofs (disch := first | omega | (simp only [h_szP, h_szS]; done) | (simp only [h_szP, h_szS]; omega)) only [go_sem, Nat.reduceBEq, reduceCtorEq, Nat.reduceAdd, Int.reduceEq, Int.reduceLT, Int.reduceLE, Int.reduceMul, Int.reduceAdd, Int.reduceSub, reduceIte, Nat.reduceLeDiff, Nat.reduceLT, Nat.reduceMul, Nat.reduceSub, Int.reduceToNat, s19, fo52_0, sh3, Tryd.underlying3, fo52_1, fo52_5, sh9, fo52_3, fo52_4, sl23, ze5, by5, sz5, fo52_7, sh23, Tryd.underlying23, fo52_2, fo52_8, sh4, fo52_6, Tryd.underlying9, Tryd.underlying5, hA1]
  all_goals repeat' refine And.intro ?_ ?_
  all_goals
    refine FnK.use (rhold_c R1 A) ?_
    intro x2 h2 ⟨s2, o2⟩
    skip
    skip
    simp -implicitDefEqProofs (disch := first | omega | (simp only [h_szP, h_szS]; done) | (simp only [h_szP, h_szS]; omega)) only [go_sem, Nat.reduceBEq, reduceCtorEq, Nat.reduceAdd, Int.reduceEq, Int.reduceLT, Int.reduceLE, Int.reduceMul, Int.reduceAdd, Int.reduceSub, reduceIte, Nat.reduceLeDiff, Nat.reduceLT, Nat.reduceMul, Nat.reduceSub, Int.reduceToNat, s19, fo52_0, sh3, Tryd.underlying3, fo52_1, fo52_5, sh9, fo52_3, fo52_4, sl23, ze5, by5, sz5, fo52_7, sh23, Tryd.underlying23, fo52_2, fo52_8, sh4, fo52_6, Tryd.underlying9, Tryd.underlying5]
    refine FnK.use (told_c 0 0 (by omega) (by omega) _) ?_
    intro x3 h3 ⟨e3, K3⟩
    rw [e3]
    simp -implicitDefEqProofs (disch := first | omega | (simp only [h_szP, h_szS]; done) | (simp only [h_szP, h_szS]; omega)) only [go_sem, Nat.reduceBEq, reduceCtorEq, Nat.reduceAdd, Int.reduceEq, Int.reduceLT, Int.reduceLE, Int.reduceMul, Int.reduceAdd, Int.reduceSub, reduceIte, Nat.reduceLeDiff, Nat.reduceLT, Nat.reduceMul, Nat.reduceSub, Int.reduceToNat, s19, fo52_0, sh3, Tryd.underlying3, fo52_1, fo52_5, sh9, fo52_3, fo52_4, sl23, ze5, by5, sz5, fo52_7, sh23, Tryd.underlying23, fo52_2, fo52_8, sh4, fo52_6, Tryd.underlying9, Tryd.underlying5]
    refine FnK.use (told_c 0 0 (by omega) (by omega) _) ?_
    intro x4 h4 ⟨e4, K4⟩
    rw [e4]
    simp -implicitDefEqProofs (disch := first | omega | (simp only [h_szP, h_szS]; done) | (simp only [h_szP, h_szS]; omega)) only [go_sem, Nat.reduceBEq, reduceCtorEq, Nat.reduceAdd, Int.reduceEq, Int.reduceLT, Int.reduceLE, Int.reduceMul, Int.reduceAdd, Int.reduceSub, reduceIte, Nat.reduceLeDiff, Nat.reduceLT, Nat.reduceMul, Nat.reduceSub, Int.reduceToNat, s19, fo52_0, sh3, Tryd.underlying3, fo52_1, fo52_5, sh9, fo52_3, fo52_4, sl23, ze5, by5, sz5, fo52_7, sh23, Tryd.underlying23, fo52_2, fo52_8, sh4, fo52_6, Tryd.underlying9, Tryd.underlying5]
    exact ⟨⟨_, _, rfl, fun q => q.elim⟩, Lv.r (K0.of_ext K1 (Nat.le_refl _)) s2 o2 (K3.of_ext K4 (Nat.le_refl _))⟩
theorem both10_c {h : Heap} {m bn r : Nat} {v : Value} {ds : List Nat} (R : Rt h m bn r) (A B N M : Int) (s u : ByteArray) (isd : Bool) (hs : s.size ≤ 300) (hu : u.size ≤ 300) (hv : Vs h v encB 1 ds) (hl : ds.length ≤ 5000) :
    Fn Tryd.prog 19 [.pointer none, ptr m 0, .agg #[.int .i64 10, .int .i64 A, .int .i64 B, .int .i64 N, .int .i64 M, .string s, .string u, v, .bool isd]] h fun x h' => Bth h h' m bn r x False := by
  obtain ⟨a, cap, e1, hcap⟩ := hv.shape
  rw [e1] at hv ⊢
  have hA : (h.push (.cells #[.int .i64 10, .int .i64 A, .int .i64 B, .int .i64 N, .int .i64 M, .string s, .string u, .slice a ds.length cap, .bool isd] 52))[h.size]? = some (.cells #[.int .i64 10, .int .i64 A, .int .i64 B, .int .i64 N, .int .i64 M, .string s, .string u, .slice a ds.length cap, .bool isd] 52 (0, 0)) := h_pushE _ _ _ rfl
  have K0 := Keeps.push h (.cells #[.int .i64 10, .int .i64 A, .int .i64 B, .int .i64 N, .int .i64 M, .string s, .string u, .slice a ds.length cap, .bool isd] 52) (Nat.le_refl _)
  have R0 := R.ext K0
  skip
  refine Fn_k Tryd.func19 mixed c19 (by kernel_rfl) ?_; rw [r19]
  simp -implicitDefEqProofs (disch := first | omega | (simp only [h_szP, h_szS]; done) | (simp only [h_szP, h_szS]; omega)) only [go_sem, Nat.reduceBEq, reduceCtorEq, Nat.reduceAdd, Int.reduceEq, Int.reduceLT, Int.reduceLE, Int.reduceMul, Int.reduceAdd, Int.reduceSub, reduceIte, Nat.reduceLeDiff, Nat.reduceLT, Nat.reduceMul, Nat.reduceSub, Int.reduceToNat, s19, fo52_0, sh3, Tryd.underlying3, fo52_1, fo52_5, sh9, fo52_3, fo52_4, sl23, ze5, by5, sz5, fo52_7, sh23, Tryd.underlying23, fo52_2, fo52_8, sh4, fo52_6, Tryd.underlying9, Tryd.underlying5]
  repeat' refine And.intro ?_ ?_
  all_goals
    refine FnK.use (release_n _ _) ?_
    intro x1 h1 K1
    have hA1 := K1.at hA (by simp)
    have lA1 := getElem?_lt hA1
    have R1 := R0.ext K1
    skip
    simp -implicitDefEqProofs (disch := first | omega | (simp only [h_szP, h_szS]; done) | (simp only [h_szP, h_szS]; omega)) only [go_sem, Nat.reduceBEq, reduceCtorEq, Nat.reduceAdd, Int.reduceEq, Int.reduceLT, Int.reduceLE, Int.reduceMul, Int.reduceAdd, Int.reduceSub, reduceIte, Nat.reduceLeDiff, Nat.reduceLT, Nat.reduceMul, Nat.reduceSub, Int.reduceToNat, s19, fo52_0, sh3, Tryd.underlying3, fo52_1, fo52_5, sh9, fo52_3, fo52_4, sl23, ze5, by5, sz5, fo52_7, sh23, Tryd.underlying23, fo52_2, fo52_8, sh4, fo52_6, Tryd.underlying9, Tryd.underlying5, hA1]
  all_goals repeat' refine And.intro ?_ ?_
  all_goals
    refine FnK.use (rrelease_c R1 A) ?_
    intro x2 h2 K2
    skip
    skip
    simp -implicitDefEqProofs (disch := first | omega | (simp only [h_szP, h_szS]; done) | (simp only [h_szP, h_szS]; omega)) only [go_sem, Nat.reduceBEq, reduceCtorEq, Nat.reduceAdd, Int.reduceEq, Int.reduceLT, Int.reduceLE, Int.reduceMul, Int.reduceAdd, Int.reduceSub, reduceIte, Nat.reduceLeDiff, Nat.reduceLT, Nat.reduceMul, Nat.reduceSub, Int.reduceToNat, s19, fo52_0, sh3, Tryd.underlying3, fo52_1, fo52_5, sh9, fo52_3, fo52_4, sl23, ze5, by5, sz5, fo52_7, sh23, Tryd.underlying23, fo52_2, fo52_8, sh4, fo52_6, Tryd.underlying9, Tryd.underlying5]
    refine FnK.use (told_c 0 0 (by omega) (by omega) _) ?_
    intro x3 h3 ⟨e3, K3⟩
    rw [e3]
    simp -implicitDefEqProofs (disch := first | omega | (simp only [h_szP, h_szS]; done) | (simp only [h_szP, h_szS]; omega)) only [go_sem, Nat.reduceBEq, reduceCtorEq, Nat.reduceAdd, Int.reduceEq, Int.reduceLT, Int.reduceLE, Int.reduceMul, Int.reduceAdd, Int.reduceSub, reduceIte, Nat.reduceLeDiff, Nat.reduceLT, Nat.reduceMul, Nat.reduceSub, Int.reduceToNat, s19, fo52_0, sh3, Tryd.underlying3, fo52_1, fo52_5, sh9, fo52_3, fo52_4, sl23, ze5, by5, sz5, fo52_7, sh23, Tryd.underlying23, fo52_2, fo52_8, sh4, fo52_6, Tryd.underlying9, Tryd.underlying5]
    refine FnK.use (told_c 0 0 (by omega) (by omega) _) ?_
    intro x4 h4 ⟨e4, K4⟩
    rw [e4]
    simp -implicitDefEqProofs (disch := first | omega | (simp only [h_szP, h_szS]; done) | (simp only [h_szP, h_szS]; omega)) only [go_sem, Nat.reduceBEq, reduceCtorEq, Nat.reduceAdd, Int.reduceEq, Int.reduceLT, Int.reduceLE, Int.reduceMul, Int.reduceAdd, Int.reduceSub, reduceIte, Nat.reduceLeDiff, Nat.reduceLT, Nat.reduceMul, Nat.reduceSub, Int.reduceToNat, s19, fo52_0, sh3, Tryd.underlying3, fo52_1, fo52_5, sh9, fo52_3, fo52_4, sl23, ze5, by5, sz5, fo52_7, sh23, Tryd.underlying23, fo52_2, fo52_8, sh4, fo52_6, Tryd.underlying9, Tryd.underlying5]
    exact ⟨⟨_, _, rfl, fun q => q.elim⟩, Lv.of (((K0.of_ext K1 (Nat.le_refl _)).of_ext K2 (Nat.le_refl _)).of_ext (K3.of_ext K4 (Nat.le_refl _)) (Nat.le_refl _))⟩
theorem both11_c {h : Heap} {m bn r : Nat} {v : Value} {ds : List Nat} (R : Rt h m bn r) (A B N M : Int) (s u : ByteArray) (isd : Bool) (hs : s.size ≤ 300) (hu : u.size ≤ 300) (hv : Vs h v encB 1 ds) (hl : ds.length ≤ 5000) :
    Fn Tryd.prog 19 [.pointer none, ptr m 0, .agg #[.int .i64 11, .int .i64 A, .int .i64 B, .int .i64 N, .int .i64 M, .string s, .string u, v, .bool isd]] h fun x h' => Bth h h' m bn r x True := by
  obtain ⟨a, cap, e1, hcap⟩ := hv.shape
  rw [e1] at hv ⊢
  have hA : (h.push (.cells #[.int .i64 11, .int .i64 A, .int .i64 B, .int .i64 N, .int .i64 M, .string s, .string u, .slice a ds.length cap, .bool isd] 52))[h.size]? = some (.cells #[.int .i64 11, .int .i64 A, .int .i64 B, .int .i64 N, .int .i64 M, .string s, .string u, .slice a ds.length cap, .bool isd] 52 (0, 0)) := h_pushE _ _ _ rfl
  have K0 := Keeps.push h (.cells #[.int .i64 11, .int .i64 A, .int .i64 B, .int .i64 N, .int .i64 M, .string s, .string u, .slice a ds.length cap, .bool isd] 52) (Nat.le_refl _)
  have R0 := R.ext K0
  skip
  refine Fn_k Tryd.func19 mixed c19 (by kernel_rfl) ?_; rw [r19]
  simp -implicitDefEqProofs (disch := first | omega | (simp only [h_szP, h_szS]; done) | (simp only [h_szP, h_szS]; omega)) only [go_sem, Nat.reduceBEq, reduceCtorEq, Nat.reduceAdd, Int.reduceEq, Int.reduceLT, Int.reduceLE, Int.reduceMul, Int.reduceAdd, Int.reduceSub, reduceIte, Nat.reduceLeDiff, Nat.reduceLT, Nat.reduceMul, Nat.reduceSub, Int.reduceToNat, s19, fo52_0, sh3, Tryd.underlying3, fo52_1, fo52_5, sh9, fo52_3, fo52_4, sl23, ze5, by5, sz5, fo52_7, sh23, Tryd.underlying23, fo52_2, fo52_8, sh4, fo52_6, Tryd.underlying9, Tryd.underlying5]
  repeat' refine And.intro ?_ ?_
  all_goals
    refine FnK.use (find_n _ _ _) ?_
    intro x1 h1 ⟨e1, K1⟩
    have hA1 := K1.at hA (by simp)
    have lA1 := getElem?_lt hA1
    have R1 := R0.ext K1
    rw [e1]
    simp -implicitDefEqProofs (disch := first | omega | (simp only [h_szP, h_szS]; done) | (simp only [h_szP, h_szS]; omega)) only [go_sem, Nat.reduceBEq, reduceCtorEq, Nat.reduceAdd, Int.reduceEq, Int.reduceLT, Int.reduceLE, Int.reduceMul, Int.reduceAdd, Int.reduceSub, reduceIte, Nat.reduceLeDiff, Nat.reduceLT, Nat.reduceMul, Nat.reduceSub, Int.reduceToNat, s19, fo52_0, sh3, Tryd.underlying3, fo52_1, fo52_5, sh9, fo52_3, fo52_4, sl23, ze5, by5, sz5, fo52_7, sh23, Tryd.underlying23, fo52_2, fo52_8, sh4, fo52_6, Tryd.underlying9, Tryd.underlying5, hA1]
  all_goals repeat' refine And.intro ?_ ?_
  all_goals
    refine FnK.use (rfind_c R1 A s) ?_
    intro x2 h2 ⟨⟨y, e, hy, he, e2⟩, K2⟩
    rw [e2]
    skip
    simp -implicitDefEqProofs (disch := first | omega | (simp only [h_szP, h_szS]; done) | (simp only [h_szP, h_szS]; omega)) only [go_sem, Nat.reduceBEq, reduceCtorEq, Nat.reduceAdd, Int.reduceEq, Int.reduceLT, Int.reduceLE, Int.reduceMul, Int.reduceAdd, Int.reduceSub, reduceIte, Nat.reduceLeDiff, Nat.reduceLT, Nat.reduceMul, Nat.reduceSub, Int.reduceToNat, s19, fo52_0, sh3, Tryd.underlying3, fo52_1, fo52_5, sh9, fo52_3, fo52_4, sl23, ze5, by5, sz5, fo52_7, sh23, Tryd.underlying23, fo52_2, fo52_8, sh4, fo52_6, Tryd.underlying9, Tryd.underlying5]
    refine FnK.use (told_c 0 2 (by omega) (by omega) _) ?_
    intro x3 h3 ⟨e3, K3⟩
    rw [e3]
    simp -implicitDefEqProofs (disch := first | omega | (simp only [h_szP, h_szS]; done) | (simp only [h_szP, h_szS]; omega)) only [go_sem, Nat.reduceBEq, reduceCtorEq, Nat.reduceAdd, Int.reduceEq, Int.reduceLT, Int.reduceLE, Int.reduceMul, Int.reduceAdd, Int.reduceSub, reduceIte, Nat.reduceLeDiff, Nat.reduceLT, Nat.reduceMul, Nat.reduceSub, Int.reduceToNat, s19, fo52_0, sh3, Tryd.underlying3, fo52_1, fo52_5, sh9, fo52_3, fo52_4, sl23, ze5, by5, sz5, fo52_7, sh23, Tryd.underlying23, fo52_2, fo52_8, sh4, fo52_6, Tryd.underlying9, Tryd.underlying5]
    refine FnK.use (told_c y e (by omega) (by omega) _) ?_
    intro x4 h4 ⟨e4, K4⟩
    rw [e4]
    simp -implicitDefEqProofs (disch := first | omega | (simp only [h_szP, h_szS]; done) | (simp only [h_szP, h_szS]; omega)) only [go_sem, Nat.reduceBEq, reduceCtorEq, Nat.reduceAdd, Int.reduceEq, Int.reduceLT, Int.reduceLE, Int.reduceMul, Int.reduceAdd, Int.reduceSub, reduceIte, Nat.reduceLeDiff, Nat.reduceLT, Nat.reduceMul, Nat.reduceSub, Int.reduceToNat, s19, fo52_0, sh3, Tryd.underlying3, fo52_1, fo52_5, sh9, fo52_3, fo52_4, sl23, ze5, by5, sz5, fo52_7, sh23, Tryd.underlying23, fo52_2, fo52_8, sh4, fo52_6, Tryd.underlying9, Tryd.underlying5]
    exact ⟨⟨_, _, rfl, fun _ => rfl⟩, Lv.of (((K0.of_ext K1 (Nat.le_refl _)).of_ext K2 (Nat.le_refl _)).of_ext (K3.of_ext K4 (Nat.le_refl _)) (Nat.le_refl _))⟩
end Go.SX.G
