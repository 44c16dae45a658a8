/- The laws of the space: what is asked first; MemRooms, the walk. No condition. -/
import Derived.Test.YtcnalkdgdbhedaaMemF
import Derived.Test.YtcnalkdgdbhedaaRoomPlain
set_option linter.unusedVariables false
set_option linter.unusedSimpArgs false
namespace Go.SX.G
open Go Go.SX Go.Proofs
set_option maxRecDepth 100000
set_option maxHeartbeats 2000000
theorem answers8_c (h : Heap) : Fn Try.prog 17 [] h fun x h' => x = .bool true ∧ Keeps h.size h h' := by
  refine Fn_c Try.func17 mixed c17 (by kernel_rfl) ?_; rw [r17]
  simp -implicitDefEqProofs (disch := first | omega | (simp only [h_szP, h_szS]; done) | (simp only [h_szP, h_szS]; omega)) only [go_sem, Nat.reduceBEq, reduceCtorEq, Nat.reduceAdd, Int.reduceEq, Int.reduceLT, Int.reduceLE, Int.reduceMul, Int.reduceAdd, Int.reduceSub, reduceIte, Nat.reduceLeDiff, Nat.reduceLT, Nat.reduceMul, Nat.reduceSub, Int.reduceToNat, s17, Try.underlying34, Try.underlying22, Try.underlying41, fd41_0, Try.underlying3]
  refine FnK.use (mnew_c h 5 (by omega)) ?_
  intro x h1 hx
  obtain ⟨s, M, e1, R, K1, hF, m1, m2, m3, m4, m5, m6⟩ := hx
  rw [e1]
  simp -implicitDefEqProofs (disch := first | omega | (simp only [h_szP, h_szS]; done) | (simp only [h_szP, h_szS]; omega)) only [go_sem, Nat.reduceBEq, reduceCtorEq, Nat.reduceAdd, Int.reduceEq, Int.reduceLT, Int.reduceLE, Int.reduceMul, Int.reduceAdd, Int.reduceSub, reduceIte, Nat.reduceLeDiff, Nat.reduceLT, Nat.reduceMul, Nat.reduceSub, Int.reduceToNat, s17, Try.underlying34, Try.underlying22, Try.underlying41, fd41_0, Try.underlying3]
  refine FnK.use (mmap_c 4096 1 3 true R (by omega) (by omega)) ?_
  intro x h2 hx
  have hj : joL (wiL M.rs ⟨4096, 4096 + upN 1, (3 : Int).toNat⟩) = [⟨4096, 8192, 3⟩] := by rw [m1]; decide
  cases hx with
  | bad c => exact absurd (by omega) c
  | noroom c f => cases f
  | nospan c b hb w => simp only [if_true] at hb; subst hb; exact absurd w (by decide)
  | lay c b hb w y t ex =>
  simp only [if_true] at hb
  subst hb
  cases t with
  | no c =>
    rw [hj] at c
    rcases c with c | c
    · simp at c
    · rw [m3] at c; exact absurd c (by decide)
  | yes c1 c2 ey M' r rs byte most base fin fx sr =>
  rw [hj] at rs
  rcases ex with ⟨e2, _⟩ | ⟨_, e2⟩
  · rw [ey] at e2; cases e2
  rw [e2]
  unfold numE
  obtain ⟨K2, hF2⟩ := fx.own hF K1
  simp -implicitDefEqProofs (disch := first | omega | (simp only [h_szP, h_szS]; done) | (simp only [h_szP, h_szS]; omega)) only [go_sem, Nat.reduceBEq, reduceCtorEq, Nat.reduceAdd, Int.reduceEq, Int.reduceLT, Int.reduceLE, Int.reduceMul, Int.reduceAdd, Int.reduceSub, reduceIte, Nat.reduceLeDiff, Nat.reduceLT, Nat.reduceMul, Nat.reduceSub, Int.reduceToNat, s17, Try.underlying34, Try.underlying22, Try.underlying41, fd41_0, Try.underlying3]
  refine FnK.use (mstore_c 4096 8 77 r (by omega) (by omega)) ?_
  intro x h3 hx
  cases hx with
  | no p k ne =>
    exfalso
    cases p with
    | bad c => exact absurd c (by decide)
    | flt c b f ex =>
      cases f with
      | some i hi h1 h2 =>
        apply h1
        refine ⟨⟨4096, 8192, 3⟩, ?_, by decide⟩
        rw [rs]
        have hi8 : i < 8 := hi
        simp only [atL, List.find?_cons, List.find?_nil, inR, adr]
        rw [decide_eq_true (by omega)]
    | ok c f ex => obtain ⟨b, ne⟩ := ne; rw [ex] at ne; simp [fltA] at ne
  | ok c f ex M2 g rs2 byte2 =>
  rw [ex]
  unfold fltA
  simp -implicitDefEqProofs (disch := first | omega | (simp only [h_szP, h_szS]; done) | (simp only [h_szP, h_szS]; omega)) only [go_sem, Nat.reduceBEq, reduceCtorEq, Nat.reduceAdd, Int.reduceEq, Int.reduceLT, Int.reduceLE, Int.reduceMul, Int.reduceAdd, Int.reduceSub, reduceIte, Nat.reduceLeDiff, Nat.reduceLT, Nat.reduceMul, Nat.reduceSub, Int.reduceToNat, s17, Try.underlying34, Try.underlying22, Try.underlying41, fd41_0, Try.underlying3]
  refine FnK.use (mpages_c g.r) ?_
  intro x h4 hx
  obtain ⟨e4, K4⟩ := hx
  rw [e4, rs2, rs]
  have hp : pagesL [⟨4096, 8192, 3⟩] = 1 := by decide
  rw [hp]
  simp -implicitDefEqProofs (disch := first | omega | (simp only [h_szP, h_szS]; done) | (simp only [h_szP, h_szS]; omega)) only [go_sem, Nat.reduceBEq, reduceCtorEq, Nat.reduceAdd, Int.reduceEq, Int.reduceLT, Int.reduceLE, Int.reduceMul, Int.reduceAdd, Int.reduceSub, reduceIte, Nat.reduceLeDiff, Nat.reduceLT, Nat.reduceMul, Nat.reduceSub, Int.reduceToNat, s17, Try.underlying34, Try.underlying22, Try.underlying41, fd41_0, Try.underlying3]
  obtain ⟨K3, hF3⟩ := g.fx.own hF2 K2
  exact K3.of_ext K4 (Nat.le_refl _)
theorem up6_c (h : Heap) (n : Nat) (hn : n ≤ 1000000000000) : Fn Try.prog 19 [.int .u64 n] h fun x h' => x = .int .u64 (upN n : Nat) ∧ h' = h := by
  refine Fn_c Try.func19 mixed c19 (by kernel_rfl) ?_; rw [r19]
  simp -implicitDefEqProofs (disch := first | omega | (simp only [h_szP, h_szS]; done) | (simp only [h_szP, h_szS]; omega)) only [go_sem, Nat.reduceBEq, reduceCtorEq, Nat.reduceAdd, Int.reduceEq, Int.reduceLT, Int.reduceLE, Int.reduceMul, Int.reduceAdd, Int.reduceSub, reduceIte, Nat.reduceLeDiff, Nat.reduceLT, Nat.reduceMul, Nat.reduceSub, Int.reduceToNat, s19, Try.underlying22]
  unfold upN
  congr 1
end Go.SX.G
