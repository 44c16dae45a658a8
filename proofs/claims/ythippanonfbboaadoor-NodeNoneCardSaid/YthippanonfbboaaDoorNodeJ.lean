/- NodeNone, the walk: texts of links; no call. No condition but on sizes. -/
import Derived.Test.YthippanonfbboaaDoorNodeH
set_option linter.unusedVariables false
set_option linter.unusedSimpArgs false
namespace Go.SX.G
open Go Go.SX Go.Proofs
set_option maxRecDepth 100000
set_option maxHeartbeats 4000000
theorem cvt_str {P : Program} {h : Heap} {s d e : TypeId} {ds : TypeDesc} {x : ByteArray} {K : Value → Heap → Prop} (hs : P.underlying s = some ds) (hd : P.underlying d = some (.slice e)) (he : P.underlying e = some (.int .u8))
    (hk : ∀ cap, x.size ≤ cap → K (.slice (some ⟨h.size, 0, none⟩) x.size cap) (h.push (.cells ((x.data.toList.map fun b => Value.int .u8 b.toNat) ++ List.replicate (cap - x.size) (Value.int .u8 0)).toArray e (cap, cap + 1)))) : @cvtK P h s d (.string x) ⟨K⟩ := by
  unfold cvtK convW
  simp only [hs, hd, he]
  exact hk
theorem toldE_c (x e : Nat) (hx : x < 1000) (he : e < 1000) (h : Heap) (a : Option Addr) (c : Nat) (hsrc : ∀ h', Keeps h.size h h' → srcCells h' 0 (.slice a 0 0) = some []) : Fn Tryd.prog 23 [.int .i64 x, .int .i64 e, .slice a 0 c] h fun v h' => v = .string (toldS x e) ∧ Keeps h.size h h' := by
  have s1 := udS_size x
  have s2 := udS_size e
  refine Fn_c Tryd.func23 mixed c23 (by kernel_rfl) ?_; rw [r23]
  simp -implicitDefEqProofs (disch := first | omega | (simp only [h_szP, h_szS]; done) | (simp only [h_szP, h_szS]; omega)) only [go_sem, Nat.reduceBEq, reduceCtorEq, Nat.reduceAdd, Int.reduceEq, Int.reduceLT, Int.reduceLE, Int.reduceMul, Int.reduceAdd, Int.reduceSub, reduceIte, Nat.reduceLeDiff, Nat.reduceLT, Nat.reduceMul, Nat.reduceSub, Int.reduceToNat, s23, Tryd.underlying9, Tryd.underlying23, Tryd.underlying5]
  have z1 : (udS x).size + (⟨#[32]⟩ : ByteArray).size ≤ 9223372036854775807 := by have : (⟨#[32]⟩ : ByteArray).size = 1 := rfl; omega
  have z2 : (udS x ++ ⟨#[32]⟩).size + (udS e).size ≤ 9223372036854775807 := by rw [ByteArray.size_append]; have : (⟨#[32]⟩ : ByteArray).size = 1 := rfl; omega
  have z3 : ((udS x ++ ⟨#[32]⟩) ++ udS e).size + (⟨#[32]⟩ : ByteArray).size ≤ 9223372036854775807 := by rw [ByteArray.size_append, ByteArray.size_append]; have : (⟨#[32]⟩ : ByteArray).size = 1 := rfl; omega
  have z4 : (((udS x ++ ⟨#[32]⟩) ++ udS e) ++ ⟨#[32]⟩).size + (⟨#[]⟩ : ByteArray).size ≤ 9223372036854775807 := by rw [ByteArray.size_append, ByteArray.size_append, ByteArray.size_append]; have : (⟨#[32]⟩ : ByteArray).size = 1 := rfl; have : (⟨#[]⟩ : ByteArray).size = 0 := rfl; omega
  have nilB : ∀ {h' : Heap} {K : Value → Heap → Prop}, Keeps h.size h h' → K (.string ⟨#[]⟩) h' → @cvtK Tryd.prog h' 23 9 (.slice a 0 c) ⟨K⟩ := fun {h' K} k hk => cvt_bytes (cs := []) (bs := []) Tryd.underlying23 Tryd.underlying9 Tryd.underlying5 (hsrc _ k) rfl hk
  refine ⟨?_, ?_⟩
  · skip
    refine FnK.use (dec_c x (by omega) _) ?_
    intro y h1 ⟨e1, K1⟩
    rw [e1]
    simp -implicitDefEqProofs (disch := first | omega | (simp only [h_szP, h_szS]; done) | (simp only [h_szP, h_szS]; omega)) only [go_sem, Nat.reduceBEq, reduceCtorEq, Nat.reduceAdd, Int.reduceEq, Int.reduceLT, Int.reduceLE, Int.reduceMul, Int.reduceAdd, Int.reduceSub, reduceIte, Nat.reduceLeDiff, Nat.reduceLT, Nat.reduceMul, Nat.reduceSub, Int.reduceToNat, s23, Tryd.underlying9, Tryd.underlying23, Tryd.underlying5, s_add, z1, z2, z3, z4]
    refine ⟨?_, ?_⟩
    · skip
      refine FnK.use (dec_c e (by omega) _) ?_
      intro y h2 ⟨e1, K2⟩
      rw [e1]
      simp -implicitDefEqProofs (disch := first | omega | (simp only [h_szP, h_szS]; done) | (simp only [h_szP, h_szS]; omega)) only [go_sem, Nat.reduceBEq, reduceCtorEq, Nat.reduceAdd, Int.reduceEq, Int.reduceLT, Int.reduceLE, Int.reduceMul, Int.reduceAdd, Int.reduceSub, reduceIte, Nat.reduceLeDiff, Nat.reduceLT, Nat.reduceMul, Nat.reduceSub, Int.reduceToNat, s23, Tryd.underlying9, Tryd.underlying23, Tryd.underlying5, s_add, z1, z2, z3, z4]
      refine nilB (K1.of_ext K2 (Nat.le_refl _)) ?_
      simp -implicitDefEqProofs (disch := first | omega | (simp only [h_szP, h_szS]; done) | (simp only [h_szP, h_szS]; omega)) only [go_sem, Nat.reduceBEq, reduceCtorEq, Nat.reduceAdd, Int.reduceEq, Int.reduceLT, Int.reduceLE, Int.reduceMul, Int.reduceAdd, Int.reduceSub, reduceIte, Nat.reduceLeDiff, Nat.reduceLT, Nat.reduceMul, Nat.reduceSub, Int.reduceToNat, s23, Tryd.underlying9, Tryd.underlying23, Tryd.underlying5, s_add, z1, z2, z3, z4]
      exact ⟨rfl, K1.of_ext K2 (Nat.le_refl _)⟩
    · refine nilB K1 ?_
      simp -implicitDefEqProofs (disch := first | omega | (simp only [h_szP, h_szS]; done) | (simp only [h_szP, h_szS]; omega)) only [go_sem, Nat.reduceBEq, reduceCtorEq, Nat.reduceAdd, Int.reduceEq, Int.reduceLT, Int.reduceLE, Int.reduceMul, Int.reduceAdd, Int.reduceSub, reduceIte, Nat.reduceLeDiff, Nat.reduceLT, Nat.reduceMul, Nat.reduceSub, Int.reduceToNat, s23, Tryd.underlying9, Tryd.underlying23, Tryd.underlying5, s_add, z1, z2, z3, z4]
      refine FnK.use (dec_c e (by omega) _) ?_
      intro y h2 ⟨e1, K2⟩
      rw [e1]
      simp -implicitDefEqProofs (disch := first | omega | (simp only [h_szP, h_szS]; done) | (simp only [h_szP, h_szS]; omega)) only [go_sem, Nat.reduceBEq, reduceCtorEq, Nat.reduceAdd, Int.reduceEq, Int.reduceLT, Int.reduceLE, Int.reduceMul, Int.reduceAdd, Int.reduceSub, reduceIte, Nat.reduceLeDiff, Nat.reduceLT, Nat.reduceMul, Nat.reduceSub, Int.reduceToNat, s23, Tryd.underlying9, Tryd.underlying23, Tryd.underlying5, s_add, z1, z2, z3, z4]
      exact ⟨rfl, K1.of_ext K2 (Nat.le_refl _)⟩
  · refine nilB Keeps.refl' ?_
    simp -implicitDefEqProofs (disch := first | omega | (simp only [h_szP, h_szS]; done) | (simp only [h_szP, h_szS]; omega)) only [go_sem, Nat.reduceBEq, reduceCtorEq, Nat.reduceAdd, Int.reduceEq, Int.reduceLT, Int.reduceLE, Int.reduceMul, Int.reduceAdd, Int.reduceSub, reduceIte, Nat.reduceLeDiff, Nat.reduceLT, Nat.reduceMul, Nat.reduceSub, Int.reduceToNat, s23, Tryd.underlying9, Tryd.underlying23, Tryd.underlying5, s_add, z1, z2, z3, z4]
    refine FnK.use (dec_c x (by omega) _) ?_
    intro y h1 ⟨e1, K1⟩
    rw [e1]
    simp -implicitDefEqProofs (disch := first | omega | (simp only [h_szP, h_szS]; done) | (simp only [h_szP, h_szS]; omega)) only [go_sem, Nat.reduceBEq, reduceCtorEq, Nat.reduceAdd, Int.reduceEq, Int.reduceLT, Int.reduceLE, Int.reduceMul, Int.reduceAdd, Int.reduceSub, reduceIte, Nat.reduceLeDiff, Nat.reduceLT, Nat.reduceMul, Nat.reduceSub, Int.reduceToNat, s23, Tryd.underlying9, Tryd.underlying23, Tryd.underlying5, s_add, z1, z2, z3, z4]
    refine FnK.use (dec_c e (by omega) _) ?_
    intro y h2 ⟨e1, K2⟩
    rw [e1]
    simp -implicitDefEqProofs (disch := first | omega | (simp only [h_szP, h_szS]; done) | (simp only [h_szP, h_szS]; omega)) only [go_sem, Nat.reduceBEq, reduceCtorEq, Nat.reduceAdd, Int.reduceEq, Int.reduceLT, Int.reduceLE, Int.reduceMul, Int.reduceAdd, Int.reduceSub, reduceIte, Nat.reduceLeDiff, Nat.reduceLT, Nat.reduceMul, Nat.reduceSub, Int.reduceToNat, s23, Tryd.underlying9, Tryd.underlying23, Tryd.underlying5, s_add, z1, z2, z3, z4]
    exact ⟨rfl, K1.of_ext K2 (Nat.le_refl _)⟩
theorem both12_c {h : Heap} {m bn r : Nat} {v : Value} {ds : List Nat} (R : Rt h m bn r) (A B N M : Int) (s u : ByteArray) (isd : Bool) (hs : s.size ≤ 300) (hu : u.size ≤ 300) (hv : Vs h v encB 1 ds) (hl : ds.length ≤ 5000) :
    Fn Tryd.prog 19 [.pointer none, ptr m 0, .agg #[.int .i64 12, .int .i64 A, .int .i64 B, .int .i64 N, .int .i64 M, .string s, .string u, v, .bool isd]] h fun x h' => Bth h h' m bn r x True := by
  obtain ⟨a, cap, e1, hcap⟩ := hv.shape
  rw [e1] at hv ⊢
  have hA : (h.push (.cells #[.int .i64 12, .int .i64 A, .int .i64 B, .int .i64 N, .int .i64 M, .string s, .string u, .slice a ds.length cap, .bool isd] 52))[h.size]? = some (.cells #[.int .i64 12, .int .i64 A, .int .i64 B, .int .i64 N, .int .i64 M, .string s, .string u, .slice a ds.length cap, .bool isd] 52 (0, 0)) := h_pushE _ _ _ rfl
  have K0 := Keeps.push h (.cells #[.int .i64 12, .int .i64 A, .int .i64 B, .int .i64 N, .int .i64 M, .string s, .string u, .slice a ds.length cap, .bool isd] 52) (Nat.le_refl _)
  have R0 := R.ext K0
  skip
  refine Fn_k Tryd.func19 mixed c19 (by kernel_rfl) ?_; rw [r19]
  simp -implicitDefEqProofs (disch := first | omega | (simp only [h_szP, h_szS]; done) | (simp only [h_szP, h_szS]; omega)) only [go_sem, Nat.reduceBEq, reduceCtorEq, Nat.reduceAdd, Int.reduceEq, Int.reduceLT, Int.reduceLE, Int.reduceMul, Int.reduceAdd, Int.reduceSub, reduceIte, Nat.reduceLeDiff, Nat.reduceLT, Nat.reduceMul, Nat.reduceSub, Int.reduceToNat, s19, fo52_0, sh3, Tryd.underlying3, fo52_1, fo52_5, sh9, fo52_3, fo52_4, sl23, ze5, by5, sz5, fo52_7, sh23, Tryd.underlying23, fo52_2, fo52_8, sh4, fo52_6, Tryd.underlying9, Tryd.underlying5]
  repeat' refine And.intro ?_ ?_
  all_goals
    refine FnK.use (target_n _ _) ?_
    intro x1 h1 ⟨e1, K1⟩
    have hA1 := K1.at hA (by simp)
    have lA1 := getElem?_lt hA1
    have R1 := R0.ext K1
    rw [e1]
    simp -implicitDefEqProofs (disch := first | omega | (simp only [h_szP, h_szS]; done) | (simp only [h_szP, h_szS]; omega)) only [go_sem, Nat.reduceBEq, reduceCtorEq, Nat.reduceAdd, Int.reduceEq, Int.reduceLT, Int.reduceLE, Int.reduceMul, Int.reduceAdd, Int.reduceSub, reduceIte, Nat.reduceLeDiff, Nat.reduceLT, Nat.reduceMul, Nat.reduceSub, Int.reduceToNat, s19, fo52_0, sh3, Tryd.underlying3, fo52_1, fo52_5, sh9, fo52_3, fo52_4, sl23, ze5, by5, sz5, fo52_7, sh23, Tryd.underlying23, fo52_2, fo52_8, sh4, fo52_6, Tryd.underlying9, Tryd.underlying5, hA1]
  all_goals repeat' refine And.intro ?_ ?_
  all_goals
    refine FnK.use (rtarget_c R1 A) ?_
    intro x2 h2 ⟨⟨e, he, e2⟩, K2⟩
    rw [e2]
    skip
    simp -implicitDefEqProofs (disch := first | omega | (simp only [h_szP, h_szS]; done) | (simp only [h_szP, h_szS]; omega)) only [go_sem, Nat.reduceBEq, reduceCtorEq, Nat.reduceAdd, Int.reduceEq, Int.reduceLT, Int.reduceLE, Int.reduceMul, Int.reduceAdd, Int.reduceSub, reduceIte, Nat.reduceLeDiff, Nat.reduceLT, Nat.reduceMul, Nat.reduceSub, Int.reduceToNat, s19, fo52_0, sh3, Tryd.underlying3, fo52_1, fo52_5, sh9, fo52_3, fo52_4, sl23, ze5, by5, sz5, fo52_7, sh23, Tryd.underlying23, fo52_2, fo52_8, sh4, fo52_6, Tryd.underlying9, Tryd.underlying5]
    have z0 : ByteArray.empty.size = 0 := rfl
    have z1 : (⟨#[]⟩ : ByteArray).size = 0 := rfl
    refine cvt_str Tryd.underlying9 Tryd.underlying23 Tryd.underlying5 ?_
    intro cp1 hc1
    obtain ⟨h3, e3⟩ : ∃ h3, h3 = h2.push (.cells ((ByteArray.empty.data.toList.map fun b => Value.int .u8 b.toNat) ++ List.replicate (cp1 - ByteArray.empty.size) (Value.int .u8 0)).toArray 5 (cp1, cp1 + 1)) := ⟨_, rfl⟩
    rw [← e3, z0]
    have K3 : Keeps h2.size h2 h3 := by rw [e3]; exact Keeps.push _ _ (Nat.le_refl _)
    have b3 : ∃ cs z, h3[h2.size]? = some (.cells cs 5 z) := ⟨_, _, by rw [e3]; exact h_pushE _ _ _ rfl⟩
    have l3 : h2.size < h3.size := by rw [e3]; simp
    simp -implicitDefEqProofs (disch := first | omega | (simp only [h_szP, h_szS]; done) | (simp only [h_szP, h_szS]; omega)) only [go_sem, Nat.reduceBEq, reduceCtorEq, Nat.reduceAdd, Int.reduceEq, Int.reduceLT, Int.reduceLE, Int.reduceMul, Int.reduceAdd, Int.reduceSub, reduceIte, Nat.reduceLeDiff, Nat.reduceLT, Nat.reduceMul, Nat.reduceSub, Int.reduceToNat, s19, fo52_0, sh3, Tryd.underlying3, fo52_1, fo52_5, sh9, fo52_3, fo52_4, sl23, ze5, by5, sz5, fo52_7, sh23, Tryd.underlying23, fo52_2, fo52_8, sh4, fo52_6, Tryd.underlying9, Tryd.underlying5]
    refine cvt_str Tryd.underlying9 Tryd.underlying23 Tryd.underlying5 ?_
    intro cp2 hc2
    obtain ⟨h4, e4⟩ : ∃ h4, h4 = h3.push (.cells (((⟨#[]⟩ : ByteArray).data.toList.map fun b => Value.int .u8 b.toNat) ++ List.replicate (cp2 - (⟨#[]⟩ : ByteArray).size) (Value.int .u8 0)).toArray 5 (cp2, cp2 + 1)) := ⟨_, rfl⟩
    rw [← e4, z1]
    have K4 : Keeps h3.size h3 h4 := by rw [e4]; exact Keeps.push _ _ (Nat.le_refl _)
    have b4 : ∃ cs z, h4[h3.size]? = some (.cells cs 5 z) := ⟨_, _, by rw [e4]; exact h_pushE _ _ _ rfl⟩
    have l4 : h3.size < h4.size := by rw [e4]; simp
    simp -implicitDefEqProofs (disch := first | omega | (simp only [h_szP, h_szS]; done) | (simp only [h_szP, h_szS]; omega)) only [go_sem, Nat.reduceBEq, reduceCtorEq, Nat.reduceAdd, Int.reduceEq, Int.reduceLT, Int.reduceLE, Int.reduceMul, Int.reduceAdd, Int.reduceSub, reduceIte, Nat.reduceLeDiff, Nat.reduceLT, Nat.reduceMul, Nat.reduceSub, Int.reduceToNat, s19, fo52_0, sh3, Tryd.underlying3, fo52_1, fo52_5, sh9, fo52_3, fo52_4, sl23, ze5, by5, sz5, fo52_7, sh23, Tryd.underlying23, fo52_2, fo52_8, sh4, fo52_6, Tryd.underlying9, Tryd.underlying5]
    obtain ⟨cs3, zz3, b3⟩ := b3
    obtain ⟨cs4, zz4, b4⟩ := b4
    refine FnK.use (toldE_c 0 2 (by omega) (by omega) _ _ _ (fun h' k => by
      have := (K4.of_ext k (Nat.le_refl _)).old h2.size l3
      simp only [srcCells, cells?, this, b3]
      simp)) ?_
    intro x5 h5 ⟨e5, K5⟩
    rw [e5]
    simp -implicitDefEqProofs (disch := first | omega | (simp only [h_szP, h_szS]; done) | (simp only [h_szP, h_szS]; omega)) only [go_sem, Nat.reduceBEq, reduceCtorEq, Nat.reduceAdd, Int.reduceEq, Int.reduceLT, Int.reduceLE, Int.reduceMul, Int.reduceAdd, Int.reduceSub, reduceIte, Nat.reduceLeDiff, Nat.reduceLT, Nat.reduceMul, Nat.reduceSub, Int.reduceToNat, s19, fo52_0, sh3, Tryd.underlying3, fo52_1, fo52_5, sh9, fo52_3, fo52_4, sl23, ze5, by5, sz5, fo52_7, sh23, Tryd.underlying23, fo52_2, fo52_8, sh4, fo52_6, Tryd.underlying9, Tryd.underlying5]
    refine FnK.use (toldE_c 0 e (by omega) (by omega) _ _ _ (fun h' k => by
      have := (K5.of_ext k (Nat.le_refl _)).old h3.size l4
      simp only [srcCells, cells?, this, b4]
      simp)) ?_
    intro x6 h6 ⟨e6, K6⟩
    rw [e6]
    simp -implicitDefEqProofs (disch := first | omega | (simp only [h_szP, h_szS]; done) | (simp only [h_szP, h_szS]; omega)) only [go_sem, Nat.reduceBEq, reduceCtorEq, Nat.reduceAdd, Int.reduceEq, Int.reduceLT, Int.reduceLE, Int.reduceMul, Int.reduceAdd, Int.reduceSub, reduceIte, Nat.reduceLeDiff, Nat.reduceLT, Nat.reduceMul, Nat.reduceSub, Int.reduceToNat, s19, fo52_0, sh3, Tryd.underlying3, fo52_1, fo52_5, sh9, fo52_3, fo52_4, sl23, ze5, by5, sz5, fo52_7, sh23, Tryd.underlying23, fo52_2, fo52_8, sh4, fo52_6, Tryd.underlying9, Tryd.underlying5]
    exact ⟨⟨_, _, rfl, fun _ => rfl⟩, Lv.of ((((K0.of_ext K1 (Nat.le_refl _)).of_ext K2 (Nat.le_refl _)).of_ext (K3.of_ext K4 (Nat.le_refl _)) (Nat.le_refl _)).of_ext (K5.of_ext K6 (Nat.le_refl _)) (Nat.le_refl _))⟩
theorem both0_c {h : Heap} {m bn r : Nat} {v : Value} {ds : List Nat} (R : Rt h m bn r) (D A B N M : Int) (s u : ByteArray) (isd : Bool) (hv : Vs h v encB 1 ds) (hD : D < 1 ∨ 12 < D) :
    Fn Tryd.prog 19 [.pointer none, ptr m 0, .agg #[.int .i64 D, .int .i64 A, .int .i64 B, .int .i64 N, .int .i64 M, .string s, .string u, v, .bool isd]] h fun x h' => Bth h h' m bn r x False := by
  obtain ⟨a, cap, e1, hcap⟩ := hv.shape
  rw [e1] at hv ⊢
  have K0 := Keeps.push h (.cells #[.int .i64 D, .int .i64 A, .int .i64 B, .int .i64 N, .int .i64 M, .string s, .string u, .slice a ds.length cap, .bool isd] 52) (Nat.le_refl _)
  have n1 : (D = 1) = False := eq_false (by omega)
  have n2 : (D = 2) = False := eq_false (by omega)
  have n3 : (D = 3) = False := eq_false (by omega)
  have n4 : (D = 4) = False := eq_false (by omega)
  have n5 : (D = 5) = False := eq_false (by omega)
  have n6 : (D = 6) = False := eq_false (by omega)
  have n7 : (D = 7) = False := eq_false (by omega)
  have n8 : (D = 8) = False := eq_false (by omega)
  have n9 : (D = 9) = False := eq_false (by omega)
  have n10 : (D = 10) = False := eq_false (by omega)
  have n11 : (D = 11) = False := eq_false (by omega)
  have n12 : (D = 12) = False := eq_false (by omega)
  refine Fn_k Tryd.func19 mixed c19 (by kernel_rfl) ?_; rw [r19]
  simp -implicitDefEqProofs (disch := first | omega | (simp only [h_szP, h_szS]; done) | (simp only [h_szP, h_szS]; omega)) only [go_sem, Nat.reduceBEq, reduceCtorEq, Nat.reduceAdd, Int.reduceEq, Int.reduceLT, Int.reduceLE, Int.reduceMul, Int.reduceAdd, Int.reduceSub, reduceIte, Nat.reduceLeDiff, Nat.reduceLT, Nat.reduceMul, Nat.reduceSub, Int.reduceToNat, s19, fo52_0, sh3, Tryd.underlying3, fo52_1, fo52_5, sh9, fo52_3, fo52_4, sl23, ze5, by5, sz5, fo52_7, sh23, Tryd.underlying23, fo52_2, fo52_8, sh4, fo52_6, Tryd.underlying9, Tryd.underlying5, n1, n2, n3, n4, n5, n6, n7, n8, n9, n10, n11, n12]
  refine FnK.use (told_c 0 0 (by omega) (by omega) _) ?_
  intro x1 h1 ⟨e1, K1⟩
  rw [e1]
  simp -implicitDefEqProofs (disch := first | omega | (simp only [h_szP, h_szS]; done) | (simp only [h_szP, h_szS]; omega)) only [go_sem, Nat.reduceBEq, reduceCtorEq, Nat.reduceAdd, Int.reduceEq, Int.reduceLT, Int.reduceLE, Int.reduceMul, Int.reduceAdd, Int.reduceSub, reduceIte, Nat.reduceLeDiff, Nat.reduceLT, Nat.reduceMul, Nat.reduceSub, Int.reduceToNat, s19, fo52_0, sh3, Tryd.underlying3, fo52_1, fo52_5, sh9, fo52_3, fo52_4, sl23, ze5, by5, sz5, fo52_7, sh23, Tryd.underlying23, fo52_2, fo52_8, sh4, fo52_6, Tryd.underlying9, Tryd.underlying5]
  refine FnK.use (told_c 0 0 (by omega) (by omega) _) ?_
  intro x2 h2 ⟨e2, K2⟩
  rw [e2]
  simp -implicitDefEqProofs (disch := first | omega | (simp only [h_szP, h_szS]; done) | (simp only [h_szP, h_szS]; omega)) only [go_sem, Nat.reduceBEq, reduceCtorEq, Nat.reduceAdd, Int.reduceEq, Int.reduceLT, Int.reduceLE, Int.reduceMul, Int.reduceAdd, Int.reduceSub, reduceIte, Nat.reduceLeDiff, Nat.reduceLT, Nat.reduceMul, Nat.reduceSub, Int.reduceToNat, s19, fo52_0, sh3, Tryd.underlying3, fo52_1, fo52_5, sh9, fo52_3, fo52_4, sl23, ze5, by5, sz5, fo52_7, sh23, Tryd.underlying23, fo52_2, fo52_8, sh4, fo52_6, Tryd.underlying9, Tryd.underlying5]
  exact ⟨⟨_, _, rfl, fun q => q.elim⟩, Lv.of ((K0.of_ext K1 (Nat.le_refl _)).of_ext K2 (Nat.le_refl _))⟩
end Go.SX.G
