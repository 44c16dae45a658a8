/- NodeNone, the walk: calls with bytes; the law. No condition but on sizes. -/
import Derived.Test.YthippanonfbboaaDoorNodeH
set_option linter.unusedVariables false
set_option linter.unusedSimpArgs false
namespace Go.SX.G
open Go Go.SX Go.Proofs
set_option maxRecDepth 100000
set_option maxHeartbeats 4000000
theorem both6_c {h : Heap} {m bn r : Nat} {v : Value} {ds : List Nat} (R : Rt h m bn r) (A B N M : Int) (s u : ByteArray) (isd : Bool) (hs : s.size ≤ 300) (hu : u.size ≤ 300) (hv : Vs h v encB 1 ds) (hl : ds.length ≤ 5000) :
    Fn Tryd.prog 19 [.pointer none, ptr m 0, .agg #[.int .i64 6, .int .i64 A, .int .i64 B, .int .i64 N, .int .i64 M, .string s, .string u, v, .bool isd]] h fun x h' => Bth h h' m bn r x True := by
  obtain ⟨a, cap, e1, hcap⟩ := hv.shape
  rw [e1] at hv ⊢
  have hA : (h.push (.cells #[.int .i64 6, .int .i64 A, .int .i64 B, .int .i64 N, .int .i64 M, .string s, .string u, .slice a ds.length cap, .bool isd] 52))[h.size]? = some (.cells #[.int .i64 6, .int .i64 A, .int .i64 B, .int .i64 N, .int .i64 M, .string s, .string u, .slice a ds.length cap, .bool isd] 52 (0, 0)) := h_pushE _ _ _ rfl
  have K0 := Keeps.push h (.cells #[.int .i64 6, .int .i64 A, .int .i64 B, .int .i64 N, .int .i64 M, .string s, .string u, .slice a ds.length cap, .bool isd] 52) (Nat.le_refl _)
  have R0 := R.ext K0
  have hee : ∃ e : Nat, e ≤ 100 ∧ (if A = 1 then (21 : Int) else 2) = e := by by_cases q : A = 1; exact ⟨21, by omega, by rw [if_pos q]; rfl⟩; exact ⟨2, by omega, by rw [if_neg q]; rfl⟩
  obtain ⟨e, he, ee⟩ := hee
  have hv1 := (hv.ext K0)
  obtain ⟨h0, e0⟩ : ∃ h0, h0 = h.push (.cells #[.int .i64 6, .int .i64 A, .int .i64 B, .int .i64 N, .int .i64 M, .string s, .string u, .slice a ds.length cap, .bool isd] 52) := ⟨_, rfl⟩
  rw [← e0] at hA K0 R0 hv1
  have sz0 : h0.size = h.size + 1 := by rw [e0]; simp
  have app : ∀ {K : Value → Heap → Prop}, (∀ a' c' h', Keeps h0.size h0 h' → K (.slice a' ds.length c') h') → @appK Tryd.prog (h0.push (.cells #[] 5)) 23 23 (.slice (some ⟨h0.size, 0, none⟩) 0 0) (.slice a ds.length cap) ⟨K⟩ := by
    intro K hk
    have s0 : Sl (h0.push (.cells #[] 5)) h0.size (.slice (some ⟨h0.size, 0, none⟩) 0 0) 5 1 0 [] := ⟨rfl, .inr ⟨_, _, rfl, Nat.le_refl _, Nat.le_refl _, [], by simp, by simp⟩⟩
    have hv3 := hv1.ext (Keeps.push h0 (.cells #[] 5) (Nat.le_refl _))
    refine app_sl (n := ds.length) (new := flat encB ds) elB15 s0 (Vw.len hv3) (Vw.srcAll hv3) (flat_len encB_len ds) (flat_all encB_one ds) (by omega) rfl (by simp) ?_
    intro v4 h4 S4 G4
    have K4 : Keeps h0.size h0 h4 := (Keeps.push h0 _ (Nat.le_refl _)).trans (G4.keeps (fun b hb => by simp [blk] at hb; omega) (by simp))
    obtain ⟨a4, c4, e4, _⟩ := S4.vw.shape
    rw [e4, Nat.zero_add]
    exact hk a4 c4 h4 K4
  refine Fn_k Tryd.func19 mixed c19 (by kernel_rfl) ?_; rw [r19]
  simp -implicitDefEqProofs (disch := first | omega | (simp only [h_szP, h_szS]; done) | (simp only [h_szP, h_szS]; omega)) only [go_sem, Nat.reduceBEq, reduceCtorEq, Nat.reduceAdd, Int.reduceEq, Int.reduceLT, Int.reduceLE, Int.reduceMul, Int.reduceAdd, Int.reduceSub, reduceIte, Nat.reduceLeDiff, Nat.reduceLT, Nat.reduceMul, Nat.reduceSub, Int.reduceToNat, s19, fo52_0, sh3, Tryd.underlying3, fo52_1, fo52_5, sh9, fo52_3, fo52_4, sl23, ze5, by5, sz5, fo52_7, sh23, Tryd.underlying23, fo52_2, fo52_8, sh4, fo52_6, Tryd.underlying9, Tryd.underlying5]
  repeat' refine And.intro ?_ ?_
  all_goals
    rw [← e0, ← sz0]
    refine app ?_
    intro a' c' h1 K1
    have hA1 := K1.at hA (by omega)
    have lA1 := getElem?_lt hA1
    have R1 := R0.ext K1
    simp -implicitDefEqProofs (disch := first | omega | (simp only [h_szP, h_szS]; done) | (simp only [h_szP, h_szS]; omega)) only [go_sem, Nat.reduceBEq, reduceCtorEq, Nat.reduceAdd, Int.reduceEq, Int.reduceLT, Int.reduceLE, Int.reduceMul, Int.reduceAdd, Int.reduceSub, reduceIte, Nat.reduceLeDiff, Nat.reduceLT, Nat.reduceMul, Nat.reduceSub, Int.reduceToNat, s19, fo52_0, sh3, Tryd.underlying3, fo52_1, fo52_5, sh9, fo52_3, fo52_4, sl23, ze5, by5, sz5, fo52_7, sh23, Tryd.underlying23, fo52_2, fo52_8, sh4, fo52_6, Tryd.underlying9, Tryd.underlying5, hA1]
  all_goals repeat' refine And.intro ?_ ?_
  all_goals
    refine FnK.use (write_n _ _ _ _) ?_
    intro x2 h2 ⟨e2, K2⟩
    have hA2 := K2.at hA1 (getElem?_lt hA1)
    have lA2 := getElem?_lt hA2
    have R2 := R1.ext K2
    have hv2 := (hv1.ext K1).ext K2
    rw [e2]
    simp -implicitDefEqProofs (disch := first | omega | (simp only [h_szP, h_szS]; done) | (simp only [h_szP, h_szS]; omega)) only [go_sem, Nat.reduceBEq, reduceCtorEq, Nat.reduceAdd, Int.reduceEq, Int.reduceLT, Int.reduceLE, Int.reduceMul, Int.reduceAdd, Int.reduceSub, reduceIte, Nat.reduceLeDiff, Nat.reduceLT, Nat.reduceMul, Nat.reduceSub, Int.reduceToNat, s19, fo52_0, sh3, Tryd.underlying3, fo52_1, fo52_5, sh9, fo52_3, fo52_4, sl23, ze5, by5, sz5, fo52_7, sh23, Tryd.underlying23, fo52_2, fo52_8, sh4, fo52_6, Tryd.underlying9, Tryd.underlying5, hA2]
  all_goals repeat' refine And.intro ?_ ?_
  all_goals
    refine FnK.use (rwrite_c R2 A N _) ?_
    intro x3 h3 ⟨e3, K3⟩
    rw [e3]
    rw [ee]
    simp -implicitDefEqProofs (disch := first | omega | (simp only [h_szP, h_szS]; done) | (simp only [h_szP, h_szS]; omega)) only [go_sem, Nat.reduceBEq, reduceCtorEq, Nat.reduceAdd, Int.reduceEq, Int.reduceLT, Int.reduceLE, Int.reduceMul, Int.reduceAdd, Int.reduceSub, reduceIte, Nat.reduceLeDiff, Nat.reduceLT, Nat.reduceMul, Nat.reduceSub, Int.reduceToNat, s19, fo52_0, sh3, Tryd.underlying3, fo52_1, fo52_5, sh9, fo52_3, fo52_4, sl23, ze5, by5, sz5, fo52_7, sh23, Tryd.underlying23, fo52_2, fo52_8, sh4, fo52_6, Tryd.underlying9, Tryd.underlying5]
    refine FnK.use (told_c 0 2 (by omega) (by omega) _) ?_
    intro x4 h4 ⟨e4, K4⟩
    rw [e4]
    simp -implicitDefEqProofs (disch := first | omega | (simp only [h_szP, h_szS]; done) | (simp only [h_szP, h_szS]; omega)) only [go_sem, Nat.reduceBEq, reduceCtorEq, Nat.reduceAdd, Int.reduceEq, Int.reduceLT, Int.reduceLE, Int.reduceMul, Int.reduceAdd, Int.reduceSub, reduceIte, Nat.reduceLeDiff, Nat.reduceLT, Nat.reduceMul, Nat.reduceSub, Int.reduceToNat, s19, fo52_0, sh3, Tryd.underlying3, fo52_1, fo52_5, sh9, fo52_3, fo52_4, sl23, ze5, by5, sz5, fo52_7, sh23, Tryd.underlying23, fo52_2, fo52_8, sh4, fo52_6, Tryd.underlying9, Tryd.underlying5]
    refine FnK.use (told_c 0 e (by omega) (by omega) _) ?_
    intro x5 h5 ⟨e5, K5⟩
    rw [e5]
    simp -implicitDefEqProofs (disch := first | omega | (simp only [h_szP, h_szS]; done) | (simp only [h_szP, h_szS]; omega)) only [go_sem, Nat.reduceBEq, reduceCtorEq, Nat.reduceAdd, Int.reduceEq, Int.reduceLT, Int.reduceLE, Int.reduceMul, Int.reduceAdd, Int.reduceSub, reduceIte, Nat.reduceLeDiff, Nat.reduceLT, Nat.reduceMul, Nat.reduceSub, Int.reduceToNat, s19, fo52_0, sh3, Tryd.underlying3, fo52_1, fo52_5, sh9, fo52_3, fo52_4, sl23, ze5, by5, sz5, fo52_7, sh23, Tryd.underlying23, fo52_2, fo52_8, sh4, fo52_6, Tryd.underlying9, Tryd.underlying5]
    have K12 := (K0.of_ext K1 (Nat.le_refl _)).of_ext K2 (Nat.le_refl _)
    have K45 := K4.of_ext K5 (Nat.le_refl _)
    exact ⟨⟨_, _, rfl, fun _ => rfl⟩, Lv.of (K12.of_ext (K3.of_ext K45 (Nat.le_refl _)) (Nat.le_refl _))⟩
theorem Lv.mid {h h1 h2 h3 : Heap} {m bn r : Nat} (k1 : Keeps h.size h h1) (l : Lv h1 h2 m bn r) (k3 : Keeps h2.size h2 h3) : Lv h h3 m bn r :=
  ⟨by have := k1.size; have := k3.size; have := l.size; omega, fun b hb q1 q2 q3 => by have := k1.size; have := l.size; rw [k3.old b (by omega), l.old b (by omega) q1 q2 q3, k1.old b hb]⟩
theorem both1_c {h : Heap} {m bn r : Nat} {v : Value} {ds : List Nat} (R : Rt h m bn r) (A B N M : Int) (s u : ByteArray) (isd : Bool) (hs : s.size ≤ 300) (hu : u.size ≤ 300) (hv : Vs h v encB 1 ds) (hl : ds.length ≤ 5000) :
    Fn Tryd.prog 19 [.pointer none, ptr m 0, .agg #[.int .i64 1, .int .i64 A, .int .i64 B, .int .i64 N, .int .i64 M, .string s, .string u, v, .bool isd]] h fun x h' => Bth h h' m bn r x True := by
  obtain ⟨a, cap, e1, hcap⟩ := hv.shape
  rw [e1] at hv ⊢
  have hA : (h.push (.cells #[.int .i64 1, .int .i64 A, .int .i64 B, .int .i64 N, .int .i64 M, .string s, .string u, .slice a ds.length cap, .bool isd] 52))[h.size]? = some (.cells #[.int .i64 1, .int .i64 A, .int .i64 B, .int .i64 N, .int .i64 M, .string s, .string u, .slice a ds.length cap, .bool isd] 52 (0, 0)) := h_pushE _ _ _ rfl
  have K0 := Keeps.push h (.cells #[.int .i64 1, .int .i64 A, .int .i64 B, .int .i64 N, .int .i64 M, .string s, .string u, .slice a ds.length cap, .bool isd] 52) (Nat.le_refl _)
  have R0 := R.ext K0
  have hee' : ∃ e : Nat, e ≤ 100 ∧ (if A = 1 then (21 : Int) else 2) = e := by by_cases q : A = 1; exact ⟨21, by omega, by rw [if_pos q]; rfl⟩; exact ⟨2, by omega, by rw [if_neg q]; rfl⟩
  have hv1 := (hv.ext K0)
  obtain ⟨h0, e0⟩ : ∃ h0, h0 = h.push (.cells #[.int .i64 1, .int .i64 A, .int .i64 B, .int .i64 N, .int .i64 M, .string s, .string u, .slice a ds.length cap, .bool isd] 52) := ⟨_, rfl⟩
  rw [← e0] at hA K0 R0 hv1
  have sz0 : h0.size = h.size + 1 := by rw [e0]; simp
  have app : ∀ {K : Value → Heap → Prop}, (∀ a' c' h', Keeps h0.size h0 h' → K (.slice a' ds.length c') h') → @appK Tryd.prog (h0.push (.cells #[] 5)) 23 23 (.slice (some ⟨h0.size, 0, none⟩) 0 0) (.slice a ds.length cap) ⟨K⟩ := by
    intro K hk
    have s0 : Sl (h0.push (.cells #[] 5)) h0.size (.slice (some ⟨h0.size, 0, none⟩) 0 0) 5 1 0 [] := ⟨rfl, .inr ⟨_, _, rfl, Nat.le_refl _, Nat.le_refl _, [], by simp, by simp⟩⟩
    have hv3 := hv1.ext (Keeps.push h0 (.cells #[] 5) (Nat.le_refl _))
    refine app_sl (n := ds.length) (new := flat encB ds) elB15 s0 (Vw.len hv3) (Vw.srcAll hv3) (flat_len encB_len ds) (flat_all encB_one ds) (by omega) rfl (by simp) ?_
    intro v4 h4 S4 G4
    have K4 : Keeps h0.size h0 h4 := (Keeps.push h0 _ (Nat.le_refl _)).trans (G4.keeps (fun b hb => by simp [blk] at hb; omega) (by simp))
    obtain ⟨a4, c4, e4, _⟩ := S4.vw.shape
    rw [e4, Nat.zero_add]
    exact hk a4 c4 h4 K4
  refine Fn_k Tryd.func19 mixed c19 (by kernel_rfl) ?_; rw [r19]
  simp -implicitDefEqProofs (disch := first | omega | (simp only [h_szP, h_szS]; done) | (simp only [h_szP, h_szS]; omega)) only [go_sem, Nat.reduceBEq, reduceCtorEq, Nat.reduceAdd, Int.reduceEq, Int.reduceLT, Int.reduceLE, Int.reduceMul, Int.reduceAdd, Int.reduceSub, reduceIte, Nat.reduceLeDiff, Nat.reduceLT, Nat.reduceMul, Nat.reduceSub, Int.reduceToNat, s19, fo52_0, sh3, Tryd.underlying3, fo52_1, fo52_5, sh9, fo52_3, fo52_4, sl23, ze5, by5, sz5, fo52_7, sh23, Tryd.underlying23, fo52_2, fo52_8, sh4, fo52_6, Tryd.underlying9, Tryd.underlying5]
  repeat' refine And.intro ?_ ?_
  all_goals
    rw [← e0, ← sz0]
    refine app ?_
    intro a' c' h1 K1
    have hA1 := K1.at hA (by omega)
    have lA1 := getElem?_lt hA1
    have R1 := R0.ext K1
    simp -implicitDefEqProofs (disch := first | omega | (simp only [h_szP, h_szS]; done) | (simp only [h_szP, h_szS]; omega)) only [go_sem, Nat.reduceBEq, reduceCtorEq, Nat.reduceAdd, Int.reduceEq, Int.reduceLT, Int.reduceLE, Int.reduceMul, Int.reduceAdd, Int.reduceSub, reduceIte, Nat.reduceLeDiff, Nat.reduceLT, Nat.reduceMul, Nat.reduceSub, Int.reduceToNat, s19, fo52_0, sh3, Tryd.underlying3, fo52_1, fo52_5, sh9, fo52_3, fo52_4, sl23, ze5, by5, sz5, fo52_7, sh23, Tryd.underlying23, fo52_2, fo52_8, sh4, fo52_6, Tryd.underlying9, Tryd.underlying5, hA1]
  all_goals repeat' refine And.intro ?_ ?_
  all_goals
    refine FnK.use (make_n _ _ _ _ _ _) ?_
    intro x2 h2 ⟨e2, K2⟩
    have hA2 := K2.at hA1 (getElem?_lt hA1)
    have lA2 := getElem?_lt hA2
    have R2 := R1.ext K2
    have hv2 := (hv1.ext K1).ext K2
    rw [e2]
    simp -implicitDefEqProofs (disch := first | omega | (simp only [h_szP, h_szS]; done) | (simp only [h_szP, h_szS]; omega)) only [go_sem, Nat.reduceBEq, reduceCtorEq, Nat.reduceAdd, Int.reduceEq, Int.reduceLT, Int.reduceLE, Int.reduceMul, Int.reduceAdd, Int.reduceSub, reduceIte, Nat.reduceLeDiff, Nat.reduceLT, Nat.reduceMul, Nat.reduceSub, Int.reduceToNat, s19, fo52_0, sh3, Tryd.underlying3, fo52_1, fo52_5, sh9, fo52_3, fo52_4, sl23, ze5, by5, sz5, fo52_7, sh23, Tryd.underlying23, fo52_2, fo52_8, sh4, fo52_6, Tryd.underlying9, Tryd.underlying5, hA2]
  all_goals repeat' refine And.intro ?_ ?_
  all_goals
    refine FnK.use (rmake_c R2 A N M s (by omega) hv2 (by omega)) ?_
    intro x3 h3 ⟨⟨y, e, hy, he', e3⟩, L3⟩
    rw [e3]
    skip
    simp -implicitDefEqProofs (disch := first | omega | (simp only [h_szP, h_szS]; done) | (simp only [h_szP, h_szS]; omega)) only [go_sem, Nat.reduceBEq, reduceCtorEq, Nat.reduceAdd, Int.reduceEq, Int.reduceLT, Int.reduceLE, Int.reduceMul, Int.reduceAdd, Int.reduceSub, reduceIte, Nat.reduceLeDiff, Nat.reduceLT, Nat.reduceMul, Nat.reduceSub, Int.reduceToNat, s19, fo52_0, sh3, Tryd.underlying3, fo52_1, fo52_5, sh9, fo52_3, fo52_4, sl23, ze5, by5, sz5, fo52_7, sh23, Tryd.underlying23, fo52_2, fo52_8, sh4, fo52_6, Tryd.underlying9, Tryd.underlying5]
    refine FnK.use (told_c 0 2 (by omega) (by omega) _) ?_
    intro x4 h4 ⟨e4, K4⟩
    rw [e4]
    simp -implicitDefEqProofs (disch := first | omega | (simp only [h_szP, h_szS]; done) | (simp only [h_szP, h_szS]; omega)) only [go_sem, Nat.reduceBEq, reduceCtorEq, Nat.reduceAdd, Int.reduceEq, Int.reduceLT, Int.reduceLE, Int.reduceMul, Int.reduceAdd, Int.reduceSub, reduceIte, Nat.reduceLeDiff, Nat.reduceLT, Nat.reduceMul, Nat.reduceSub, Int.reduceToNat, s19, fo52_0, sh3, Tryd.underlying3, fo52_1, fo52_5, sh9, fo52_3, fo52_4, sl23, ze5, by5, sz5, fo52_7, sh23, Tryd.underlying23, fo52_2, fo52_8, sh4, fo52_6, Tryd.underlying9, Tryd.underlying5]
    refine FnK.use (told_c y e (by omega) (by omega) _) ?_
    intro x5 h5 ⟨e5, K5⟩
    rw [e5]
    simp -implicitDefEqProofs (disch := first | omega | (simp only [h_szP, h_szS]; done) | (simp only [h_szP, h_szS]; omega)) only [go_sem, Nat.reduceBEq, reduceCtorEq, Nat.reduceAdd, Int.reduceEq, Int.reduceLT, Int.reduceLE, Int.reduceMul, Int.reduceAdd, Int.reduceSub, reduceIte, Nat.reduceLeDiff, Nat.reduceLT, Nat.reduceMul, Nat.reduceSub, Int.reduceToNat, s19, fo52_0, sh3, Tryd.underlying3, fo52_1, fo52_5, sh9, fo52_3, fo52_4, sl23, ze5, by5, sz5, fo52_7, sh23, Tryd.underlying23, fo52_2, fo52_8, sh4, fo52_6, Tryd.underlying9, Tryd.underlying5]
    have K12 := (K0.of_ext K1 (Nat.le_refl _)).of_ext K2 (Nat.le_refl _)
    have K45 := K4.of_ext K5 (Nat.le_refl _)
    exact ⟨⟨_, _, rfl, fun _ => rfl⟩, Lv.mid K12 L3 K45⟩
end Go.SX.G
