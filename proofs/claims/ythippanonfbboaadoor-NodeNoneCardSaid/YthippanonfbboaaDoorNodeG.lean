/- NodeNone, the walk. No condition but on sizes. -/
import Derived.Test.YthippanonfbboaaDoorNodeF
set_option linter.unusedVariables false
set_option linter.unusedSimpArgs false
namespace Go.SX.G
open Go Go.SX Go.Proofs
set_option maxRecDepth 100000
set_option maxHeartbeats 4000000
def toldS (x e : Nat) : ByteArray := (((udS x ++ ⟨#[32]⟩) ++ udS e) ++ ⟨#[32]⟩) ++ ⟨#[]⟩
theorem udS_size (u : Nat) : (udS u).size ≤ 20 := by have := udL_size 20 u ⟨#[]⟩; exact this
theorem told_c (x e : Nat) (hx : x < 1000) (he : e < 1000) (h : Heap) : Fn Tryd.prog 23 [.int .i64 x, .int .i64 e, .slice none 0 0] h fun v h' => v = .string (toldS x e) ∧ Keeps h.size h h' := by
  have s1 := udS_size x
  have s2 := udS_size e
  refine Fn_c Tryd.func23 mixed c23 (by kernel_rfl) ?_; rw [r23]
  simp -implicitDefEqProofs (disch := first | omega | (simp only [h_szP, h_szS]; done) | (simp only [h_szP, h_szS]; omega)) only [go_sem, Nat.reduceBEq, reduceCtorEq, Nat.reduceAdd, Int.reduceEq, Int.reduceLT, Int.reduceLE, Int.reduceMul, Int.reduceAdd, Int.reduceSub, reduceIte, Nat.reduceLeDiff, Nat.reduceLT, Nat.reduceMul, Nat.reduceSub, Int.reduceToNat, s23, Tryd.underlying9, Tryd.underlying23, Tryd.underlying5]
  have z1 : (udS x).size + (⟨#[32]⟩ : ByteArray).size ≤ 9223372036854775807 := by have : (⟨#[32]⟩ : ByteArray).size = 1 := rfl; omega
  have z2 : (udS x ++ ⟨#[32]⟩).size + (udS e).size ≤ 9223372036854775807 := by rw [ByteArray.size_append]; have : (⟨#[32]⟩ : ByteArray).size = 1 := rfl; omega
  have z3 : ((udS x ++ ⟨#[32]⟩) ++ udS e).size + (⟨#[32]⟩ : ByteArray).size ≤ 9223372036854775807 := by rw [ByteArray.size_append, ByteArray.size_append]; have : (⟨#[32]⟩ : ByteArray).size = 1 := rfl; omega
  have z4 : (((udS x ++ ⟨#[32]⟩) ++ udS e) ++ ⟨#[32]⟩).size + (⟨#[]⟩ : ByteArray).size ≤ 9223372036854775807 := by rw [ByteArray.size_append, ByteArray.size_append, ByteArray.size_append]; have : (⟨#[32]⟩ : ByteArray).size = 1 := rfl; have : (⟨#[]⟩ : ByteArray).size = 0 := rfl; omega
  have nilB : ∀ {h' : Heap} {K : Value → Heap → Prop}, K (.string ⟨#[]⟩) h' → @cvtK Tryd.prog h' 23 9 (.slice none 0 0) ⟨K⟩ := fun {h' K} hk => cvt_bytes (cs := []) (bs := []) Tryd.underlying23 Tryd.underlying9 Tryd.underlying5 rfl rfl hk
  refine ⟨?_, ?_⟩
  · skip
    refine FnK.use (dec_c x (by omega) _) ?_
    intro y h1 ⟨e1, K1⟩
    rw [e1]
    simp -implicitDefEqProofs (disch := first | omega | (simp only [h_szP, h_szS]; done) | (simp only [h_szP, h_szS]; omega)) only [go_sem, Nat.reduceBEq, reduceCtorEq, Nat.reduceAdd, Int.reduceEq, Int.reduceLT, Int.reduceLE, Int.reduceMul, Int.reduceAdd, Int.reduceSub, reduceIte, Nat.reduceLeDiff, Nat.reduceLT, Nat.reduceMul, Nat.reduceSub, Int.reduceToNat, s23, Tryd.underlying9, Tryd.underlying23, Tryd.underlying5, s_add, z1, z2, z3, z4]
    refine ⟨?_, ?_⟩
    · skip
      refine FnK.use (dec_c e (by omega) _) ?_
      intro y h2 ⟨e1, K2⟩
      rw [e1]
      simp -implicitDefEqProofs (disch := first | omega | (simp only [h_szP, h_szS]; done) | (simp only [h_szP, h_szS]; omega)) only [go_sem, Nat.reduceBEq, reduceCtorEq, Nat.reduceAdd, Int.reduceEq, Int.reduceLT, Int.reduceLE, Int.reduceMul, Int.reduceAdd, Int.reduceSub, reduceIte, Nat.reduceLeDiff, Nat.reduceLT, Nat.reduceMul, Nat.reduceSub, Int.reduceToNat, s23, Tryd.underlying9, Tryd.underlying23, Tryd.underlying5, s_add, z1, z2, z3, z4]
      refine nilB ?_
      simp -implicitDefEqProofs (disch := first | omega | (simp only [h_szP, h_szS]; done) | (simp only [h_szP, h_szS]; omega)) only [go_sem, Nat.reduceBEq, reduceCtorEq, Nat.reduceAdd, Int.reduceEq, Int.reduceLT, Int.reduceLE, Int.reduceMul, Int.reduceAdd, Int.reduceSub, reduceIte, Nat.reduceLeDiff, Nat.reduceLT, Nat.reduceMul, Nat.reduceSub, Int.reduceToNat, s23, Tryd.underlying9, Tryd.underlying23, Tryd.underlying5, s_add, z1, z2, z3, z4]
      exact ⟨rfl, K1.of_ext K2 (Nat.le_refl _)⟩
    · refine nilB ?_
      simp -implicitDefEqProofs (disch := first | omega | (simp only [h_szP, h_szS]; done) | (simp only [h_szP, h_szS]; omega)) only [go_sem, Nat.reduceBEq, reduceCtorEq, Nat.reduceAdd, Int.reduceEq, Int.reduceLT, Int.reduceLE, Int.reduceMul, Int.reduceAdd, Int.reduceSub, reduceIte, Nat.reduceLeDiff, Nat.reduceLT, Nat.reduceMul, Nat.reduceSub, Int.reduceToNat, s23, Tryd.underlying9, Tryd.underlying23, Tryd.underlying5, s_add, z1, z2, z3, z4]
      refine FnK.use (dec_c e (by omega) _) ?_
      intro y h2 ⟨e1, K2⟩
      rw [e1]
      simp -implicitDefEqProofs (disch := first | omega | (simp only [h_szP, h_szS]; done) | (simp only [h_szP, h_szS]; omega)) only [go_sem, Nat.reduceBEq, reduceCtorEq, Nat.reduceAdd, Int.reduceEq, Int.reduceLT, Int.reduceLE, Int.reduceMul, Int.reduceAdd, Int.reduceSub, reduceIte, Nat.reduceLeDiff, Nat.reduceLT, Nat.reduceMul, Nat.reduceSub, Int.reduceToNat, s23, Tryd.underlying9, Tryd.underlying23, Tryd.underlying5, s_add, z1, z2, z3, z4]
      exact ⟨rfl, K1.of_ext K2 (Nat.le_refl _)⟩
  · refine nilB ?_
    simp -implicitDefEqProofs (disch := first | omega | (simp only [h_szP, h_szS]; done) | (simp only [h_szP, h_szS]; omega)) only [go_sem, Nat.reduceBEq, reduceCtorEq, Nat.reduceAdd, Int.reduceEq, Int.reduceLT, Int.reduceLE, Int.reduceMul, Int.reduceAdd, Int.reduceSub, reduceIte, Nat.reduceLeDiff, Nat.reduceLT, Nat.reduceMul, Nat.reduceSub, Int.reduceToNat, s23, Tryd.underlying9, Tryd.underlying23, Tryd.underlying5, s_add, z1, z2, z3, z4]
    refine FnK.use (dec_c x (by omega) _) ?_
    intro y h1 ⟨e1, K1⟩
    rw [e1]
    simp -implicitDefEqProofs (disch := first | omega | (simp only [h_szP, h_szS]; done) | (simp only [h_szP, h_szS]; omega)) only [go_sem, Nat.reduceBEq, reduceCtorEq, Nat.reduceAdd, Int.reduceEq, Int.reduceLT, Int.reduceLE, Int.reduceMul, Int.reduceAdd, Int.reduceSub, reduceIte, Nat.reduceLeDiff, Nat.reduceLT, Nat.reduceMul, Nat.reduceSub, Int.reduceToNat, s23, Tryd.underlying9, Tryd.underlying23, Tryd.underlying5, s_add, z1, z2, z3, z4]
    refine FnK.use (dec_c e (by omega) _) ?_
    intro y h2 ⟨e1, K2⟩
    rw [e1]
    simp -implicitDefEqProofs (disch := first | omega | (simp only [h_szP, h_szS]; done) | (simp only [h_szP, h_szS]; omega)) only [go_sem, Nat.reduceBEq, reduceCtorEq, Nat.reduceAdd, Int.reduceEq, Int.reduceLT, Int.reduceLE, Int.reduceMul, Int.reduceAdd, Int.reduceSub, reduceIte, Nat.reduceLeDiff, Nat.reduceLT, Nat.reduceMul, Nat.reduceSub, Int.reduceToNat, s23, Tryd.underlying9, Tryd.underlying23, Tryd.underlying5, s_add, z1, z2, z3, z4]
    exact ⟨rfl, K1.of_ext K2 (Nat.le_refl _)⟩
theorem light_c {h : Heap} {v : Value} {ds : List Nat} (D A B N M : Int) (s u : ByteArray) (isd : Bool) (hv : Vs h v encB 1 ds) :
    Fn Tryd.prog 18 [.agg #[.int .i64 D, .int .i64 A, .int .i64 B, .int .i64 N, .int .i64 M, .string s, .string u, v, .bool isd]] h fun x h' => (∃ b, x = .bool b ∧ (b = true → s.size ≤ 300 ∧ u.size ≤ 300 ∧ ds.length ≤ 5000)) ∧ Keeps h.size h h' := by
  obtain ⟨a, cap, e1, hcap⟩ := hv.shape
  rw [e1]
  refine Fn_c Tryd.func18 mixed c18 (by kernel_rfl) ?_; rw [r18]
  simp -implicitDefEqProofs (disch := first | omega | (simp only [h_szP, h_szS]; done) | (simp only [h_szP, h_szS]; omega)) only [go_sem, Nat.reduceBEq, reduceCtorEq, Nat.reduceAdd, Int.reduceEq, Int.reduceLT, Int.reduceLE, Int.reduceMul, Int.reduceAdd, Int.reduceSub, reduceIte, Nat.reduceLeDiff, Nat.reduceLT, Nat.reduceMul, Nat.reduceSub, Int.reduceToNat, s18, fo52_5, sh9, Tryd.underlying9, Tryd.underlying3, fo52_6, fo52_7, sh23, Tryd.underlying23, sl23, ze5, by5, sz5, fo52_0, sh3, fo52_3]
  repeat' first | intro _ | refine And.intro ?_ ?_
  all_goals first | exact Keeps.push _ _ (Nat.le_refl _) | exact ⟨false, rfl, fun q => by cases q⟩ | exact ⟨_, rfl, fun _ => ⟨by omega, by omega, by omega⟩⟩
def actV (D A B N M : Int) (s u : ByteArray) (v : Value) (isd : Bool) : Value := .agg #[.int .i64 D, .int .i64 A, .int .i64 B, .int .i64 N, .int .i64 M, .string s, .string u, v, .bool isd]
/-- both of a nil tree and of one of a root, each call. -/
def Bth (h h' : Heap) (m bn r : Nat) (x : Value) (same : Prop) : Prop := (∃ s1 s2, x = .tuple #[.string s1, .string s2] ∧ (same → s1 = toldS 0 2)) ∧ Lv h h' m bn r
end Go.SX.G
