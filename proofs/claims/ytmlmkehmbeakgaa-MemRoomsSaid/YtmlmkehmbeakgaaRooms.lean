/- MemRooms, the walk. No condition. -/
import Derived.Test.YtmlmkehmbeakgaaMemG
set_option linter.unusedVariables false
set_option linter.unusedSimpArgs false
namespace Go.SX.G
open Go Go.SX Go.Proofs
set_option maxRecDepth 100000
set_option maxHeartbeats 2000000
def encH (x : Nat) : List Value := [.int .u16 (x : Int)]
theorem encH_len (x : Nat) : (encH x).length = 1 := rfl
/-- a space of mappings one below the other. -/
structure RoomI (h : Heap) (s : Nat) (M : MemD) (used low i : Nat) : Prop where
  r : MR h s M
  most : M.most = 200
  ch : Chain low M.rs 274877833216
  us : pagesL M.rs = used
  le : used ≤ 200
  low : low = 274877833216 - used * 4096
  len : M.rs.length ≤ i
theorem memrooms_c {h : Heap} {v : Value} {xs : List Nat} (hv : Vs h v encH 1 xs) (hx : ∀ x ∈ xs, x < 65536) :
    Fn Try.prog 5 [v] h fun r h' => r = .bool true ∧ ∀ b, b < h.size → h'[b]? = h[b]? := by
  obtain ⟨a0, cap0, e1, hcap⟩ := hv.shape
  subst e1
  refine Fn_c Try.func5 mixed c5 (by kernel_rfl) ?_; rw [r5]
  simp -implicitDefEqProofs (disch := first | omega | (simp only [h_szP, h_szS]; done) | (simp only [h_szP, h_szS]; omega)) only [go_sem, Nat.reduceBEq, reduceCtorEq, Nat.reduceAdd, Int.reduceEq, Int.reduceLT, Int.reduceLE, Int.reduceMul, Int.reduceAdd, Int.reduceSub, reduceIte, Nat.reduceLeDiff, Nat.reduceLT, Nat.reduceMul, Nat.reduceSub, Int.reduceToNat, s5, Try.underlying31, Try.underlying30, sl30, ze33, by33, sz33, Try.underlying3, sh33, Try.underlying33, Try.underlying22, Try.underlying34]
  refine FnK.use (mnew_c h 200 (by omega)) ?_
  intro x h1 hx1
  obtain ⟨s, M, e1, R, K1, hF, m1, m2, m3, m4, m5, m6⟩ := hx1
  rw [e1]
  simp -implicitDefEqProofs (disch := first | omega | (simp only [h_szP, h_szS]; done) | (simp only [h_szP, h_szS]; omega)) only [go_sem, Nat.reduceBEq, reduceCtorEq, Nat.reduceAdd, Int.reduceEq, Int.reduceLT, Int.reduceLE, Int.reduceMul, Int.reduceAdd, Int.reduceSub, reduceIte, Nat.reduceLeDiff, Nat.reduceLT, Nat.reduceMul, Nat.reduceSub, Int.reduceToNat, s5, Try.underlying31, Try.underlying30, sl30, ze33, by33, sz33, Try.underlying3, sh33, Try.underlying33, Try.underlying22, Try.underlying34]
  refine FnK.use (answers8_c h1) ?_
  intro x h2 ⟨e2, K2⟩
  rw [e2]
  simp -implicitDefEqProofs (disch := first | omega | (simp only [h_szP, h_szS]; done) | (simp only [h_szP, h_szS]; omega)) only [go_sem, Nat.reduceBEq, reduceCtorEq, Nat.reduceAdd, Int.reduceEq, Int.reduceLT, Int.reduceLE, Int.reduceMul, Int.reduceAdd, Int.reduceSub, reduceIte, Nat.reduceLeDiff, Nat.reduceLT, Nat.reduceMul, Nat.reduceSub, Int.reduceToNat, s5, Try.underlying31, Try.underlying30, sl30, ze33, by33, sz33, Try.underlying3, sh33, Try.underlying33, Try.underlying22, Try.underlying34]
  obtain ⟨I, hI⟩ : ∃ I : Nat → Fr → Heap → Prop, I = fun k fr hh => ∃ (i used low : Nat) (M : MemD), i + k = xs.length ∧ RoomI hh s M used low i ∧ Keeps h.size h hh ∧ (∀ b, mfoot s M b → h.size ≤ b) ∧ i ≤ 30 ∧
      fr = (((((fr0.up 6 (.int .i64 i)).up 5 (.int .u64 low)).up 4 (.int .i64 used)).up 3 (ptr s 0)).up 0 (.slice a0 xs.length cap0)) := ⟨_, rfl⟩
  refine LoopK.use I xs.length ?_ ?_
  · rw [hI]
    have hp0 : pagesL M.rs = 0 := by rw [m1]; rfl
    exact ⟨0, 0, 274877833216, M, by omega, ⟨R.ext K2, m3, by rw [m1]; rfl, hp0, by omega, rfl, by rw [m1]; simp⟩, K1.of_ext K2 (Nat.le_refl _), hF, by omega, rfl⟩
  intro k fr hh hK
  rw [hI] at hK
  obtain ⟨i, used, low, M, hk, Q, K3, hF3, hi30, hf⟩ := hK
  subst hf
  have hfin : ∀ h', Keeps h.size h h' → ∀ b, b < h.size → h'[b]? = h[b]? := fun h' k b hb => k.old b hb
  by_cases hi : i < xs.length ∧ i < 30
  · obtain ⟨hi, hi3⟩ := hi
    have hd1 : decide ((i : Int) < xs.length) = true := decide_eq_true (by omega)
    have hd2 : decide ((i : Int) < 30) = true := decide_eq_true (by omega)
    obtain ⟨vb, vo, cap', e1, hcap', hvb⟩ := hv.open hi
    cases e1
    obtain ⟨n, hn⟩ : ∃ n, n = xs[i] := ⟨_, rfl⟩
    have hn1 : n < 65536 := by rw [hn]; exact hx _ (List.getElem_mem hi)
    have hE : cellO (vo + i) h[vb]? = some (.int .u16 n) := by rw [hn]; have := hv.field encH_len hi (j := 0) (by omega); simpa [encH] using this
    have hE' := K3.old vb hvb
    have hw16 : IntKind.u64.wrap (n : Int) = n := wr_u64 _ (by omega) (by omega)
    simp -implicitDefEqProofs (disch := first | omega | (simp only [h_szP, h_szS]; done) | (simp only [h_szP, h_szS]; omega)) only [go_sem, Nat.reduceBEq, reduceCtorEq, Nat.reduceAdd, Int.reduceEq, Int.reduceLT, Int.reduceLE, Int.reduceMul, Int.reduceAdd, Int.reduceSub, reduceIte, Nat.reduceLeDiff, Nat.reduceLT, Nat.reduceMul, Nat.reduceSub, Int.reduceToNat, s5, Try.underlying31, Try.underlying30, sl30, ze33, by33, sz33, Try.underlying3, sh33, Try.underlying33, Try.underlying22, Try.underlying34, hd1, hd2, hE', hE, Nat.mul_one]
    have e3 : (1 : Int) + (i : Int) % 3 = ((1 + i % 3 : Nat) : Int) := by omega
    rw [e3]
    have hlow := Q.low
    have hle := Q.le
    refine FnK.use (mmap_c 0 n ((1 + i % 3 : Nat) : Int) false Q.r (by omega) (by omega)) ?_
    intro x h4 hx4
    by_cases n0 : n = 0
    · subst n0
      cases hx4 with
      | noroom c => exact absurd rfl c.2.1
      | nospan c => exact absurd rfl c.2.1
      | lay c => exact absurd rfl c.2.1
      | bad c ex k4 =>
      rw [ex]; unfold numE
      simp -implicitDefEqProofs (disch := first | omega | (simp only [h_szP, h_szS]; done) | (simp only [h_szP, h_szS]; omega)) only [go_sem, Nat.reduceBEq, reduceCtorEq, Nat.reduceAdd, Int.reduceEq, Int.reduceLT, Int.reduceLE, Int.reduceMul, Int.reduceAdd, Int.reduceSub, reduceIte, Nat.reduceLeDiff, Nat.reduceLT, Nat.reduceMul, Nat.reduceSub, Int.reduceToNat, s5, Try.underlying31, Try.underlying30, sl30, ze33, by33, sz33, Try.underlying3, sh33, Try.underlying33, Try.underlying22, Try.underlying34]
      refine FnK.val (up6_c h4 0 (by omega)) ?_
      have hu0 : upN 0 = 0 := by decide
      rw [hu0]
      simp -implicitDefEqProofs (disch := first | omega | (simp only [h_szP, h_szS]; done) | (simp only [h_szP, h_szS]; omega)) only [go_sem, Nat.reduceBEq, reduceCtorEq, Nat.reduceAdd, Int.reduceEq, Int.reduceLT, Int.reduceLE, Int.reduceMul, Int.reduceAdd, Int.reduceSub, reduceIte, Nat.reduceLeDiff, Nat.reduceLT, Nat.reduceMul, Nat.reduceSub, Int.reduceToNat, s5, Try.underlying31, Try.underlying30, sl30, ze33, by33, sz33, Try.underlying3, sh33, Try.underlying33, Try.underlying22, Try.underlying34]
      refine ⟨k - 1, by omega, ?_⟩
      rw [hI]
      exact ⟨i + 1, used, low, M, by omega, ⟨Q.r.ext k4, Q.most, Q.ch, Q.us, Q.le, Q.low, by have := Q.len; omega⟩, K3.of_ext k4 (Nat.le_refl _), hF3, by omega, rfl⟩
    · have hst := rooms_step (p := 1 + i % 3) Q.r.wf Q.ch (by omega) (by omega) Q.len n0 hn1 (by omega)
      obtain ⟨s1, s2, s3, s4, s5, s6, s7⟩ := hst
      have hu : upN n % 4096 = 0 ∧ 4096 ≤ upN n ∧ upN n ≤ 65536 := by unfold upN; omega
      have hdn : ((n : Int) = 0) = False := eq_false (by omega)
      cases hx4 with
      | bad c => exact absurd (by omega) c
      | noroom c f w => rw [s1] at w; cases w
      | nospan c b hb w =>
        simp only [Bool.false_eq_true, if_false] at hb
        rw [s1] at hb; cases hb
        rw [s2] at w; cases w
      | lay c b hb w y t ex =>
      simp only [Bool.false_eq_true, if_false] at hb
      rw [s1] at hb; cases hb
      rw [s3] at t
      have ht : ((1 + i % 3 : Nat) : Int).toNat = 1 + i % 3 := rfl
      rw [ht] at t
      by_cases hfull : used + upN n / 4096 > 200
      · cases t with
        | yes c1 c2 => exfalso; rw [s6, Q.us, Q.most] at c2; omega
        | no c ey k4 =>
        rcases ex with ⟨_, ex⟩ | ⟨ey2, _⟩
        · rw [ex]; unfold numE
          simp -implicitDefEqProofs (disch := first | omega | (simp only [h_szP, h_szS]; done) | (simp only [h_szP, h_szS]; omega)) only [go_sem, Nat.reduceBEq, reduceCtorEq, Nat.reduceAdd, Int.reduceEq, Int.reduceLT, Int.reduceLE, Int.reduceMul, Int.reduceAdd, Int.reduceSub, reduceIte, Nat.reduceLeDiff, Nat.reduceLT, Nat.reduceMul, Nat.reduceSub, Int.reduceToNat, s5, Try.underlying31, Try.underlying30, sl30, ze33, by33, sz33, Try.underlying3, sh33, Try.underlying33, Try.underlying22, Try.underlying34]
          refine FnK.val (up6_c h4 n (by omega)) ?_
          have hd3 : decide ((200 : Int) < (used : Int) + (upN n : Nat) / 4096) = true := decide_eq_true (by omega)
          simp -implicitDefEqProofs (disch := first | omega | (simp only [h_szP, h_szS]; done) | (simp only [h_szP, h_szS]; omega)) only [go_sem, Nat.reduceBEq, reduceCtorEq, Nat.reduceAdd, Int.reduceEq, Int.reduceLT, Int.reduceLE, Int.reduceMul, Int.reduceAdd, Int.reduceSub, reduceIte, Nat.reduceLeDiff, Nat.reduceLT, Nat.reduceMul, Nat.reduceSub, Int.reduceToNat, s5, Try.underlying31, Try.underlying30, sl30, ze33, by33, sz33, Try.underlying3, sh33, Try.underlying33, Try.underlying22, Try.underlying34, hdn, hd3]
          refine ⟨k - 1, by omega, ?_⟩
          rw [hI]
          exact ⟨i + 1, used, low, M, by omega, ⟨Q.r.ext k4, Q.most, Q.ch, Q.us, Q.le, Q.low, by have := Q.len; omega⟩, K3.of_ext k4 (Nat.le_refl _), hF3, by omega, rfl⟩
        · rw [ey] at ey2; cases ey2
      · cases t with
        | no c => exfalso; rw [s6, Q.us, Q.most] at c; omega
        | yes c1 c2 ey M' r rs byte most base fin fx sr =>
        rcases ex with ⟨ey2, _⟩ | ⟨_, ex⟩
        · rw [ey] at ey2; cases ey2
        rw [ex]; unfold numE
        have hd3 : decide ((200 : Int) < (used : Int) + (upN n : Nat) / 4096) = false := decide_eq_false (by omega)
        simp -implicitDefEqProofs (disch := first | omega | (simp only [h_szP, h_szS]; done) | (simp only [h_szP, h_szS]; omega)) only [go_sem, Nat.reduceBEq, reduceCtorEq, Nat.reduceAdd, Int.reduceEq, Int.reduceLT, Int.reduceLE, Int.reduceMul, Int.reduceAdd, Int.reduceSub, reduceIte, Nat.reduceLeDiff, Nat.reduceLT, Nat.reduceMul, Nat.reduceSub, Int.reduceToNat, s5, Try.underlying31, Try.underlying30, sl30, ze33, by33, sz33, Try.underlying3, sh33, Try.underlying33, Try.underlying22, Try.underlying34]
        refine FnK.val (up6_c h4 n (by omega)) ?_
        simp -implicitDefEqProofs (disch := first | omega | (simp only [h_szP, h_szS]; done) | (simp only [h_szP, h_szS]; omega)) only [go_sem, Nat.reduceBEq, reduceCtorEq, Nat.reduceAdd, Int.reduceEq, Int.reduceLT, Int.reduceLE, Int.reduceMul, Int.reduceAdd, Int.reduceSub, reduceIte, Nat.reduceLeDiff, Nat.reduceLT, Nat.reduceMul, Nat.reduceSub, Int.reduceToNat, s5, Try.underlying31, Try.underlying30, sl30, ze33, by33, sz33, Try.underlying3, sh33, Try.underlying33, Try.underlying22, Try.underlying34, hdn, hd3]
        refine FnK.val (up6_c h4 n (by omega)) ?_
        have hdl : (((low - upN n : Nat) : Int) + (upN n : Nat) = low) = True := eq_true (by omega)
        simp -implicitDefEqProofs (disch := first | omega | (simp only [h_szP, h_szS]; done) | (simp only [h_szP, h_szS]; omega)) only [go_sem, Nat.reduceBEq, reduceCtorEq, Nat.reduceAdd, Int.reduceEq, Int.reduceLT, Int.reduceLE, Int.reduceMul, Int.reduceAdd, Int.reduceSub, reduceIte, Nat.reduceLeDiff, Nat.reduceLT, Nat.reduceMul, Nat.reduceSub, Int.reduceToNat, s5, Try.underlying31, Try.underlying30, sl30, ze33, by33, sz33, Try.underlying3, sh33, Try.underlying33, Try.underlying22, Try.underlying34, hdl]
        refine ⟨k - 1, by omega, ?_⟩
        obtain ⟨K5, hF5⟩ := fx.own hF3 K3
        rw [hI]
        refine ⟨i + 1, used + upN n / 4096, low - upN n, M', by omega, ⟨r, by rw [most, Q.most], by rw [rs]; exact s4, by rw [rs, s6, Q.us], by omega, by omega, by rw [rs]; exact s5⟩, K5, hF5, by omega, ?_⟩
        have e5 : (((used + upN n / 4096 : Nat)) : Int) = (used : Int) + (upN n : Nat) / 4096 := by omega
        rw [e5]; rfl
  · by_cases hi2 : i < xs.length
    · have hd1 : decide ((i : Int) < xs.length) = true := decide_eq_true (by omega)
      have hd2 : decide ((i : Int) < 30) = false := decide_eq_false (by omega)
      simp -implicitDefEqProofs (disch := first | omega | (simp only [h_szP, h_szS]; done) | (simp only [h_szP, h_szS]; omega)) only [go_sem, Nat.reduceBEq, reduceCtorEq, Nat.reduceAdd, Int.reduceEq, Int.reduceLT, Int.reduceLE, Int.reduceMul, Int.reduceAdd, Int.reduceSub, reduceIte, Nat.reduceLeDiff, Nat.reduceLT, Nat.reduceMul, Nat.reduceSub, Int.reduceToNat, s5, Try.underlying31, Try.underlying30, sl30, ze33, by33, sz33, Try.underlying3, sh33, Try.underlying33, Try.underlying22, Try.underlying34, hd1, hd2]
      refine FnK.use (mpages_c Q.r) ?_
      intro x h4 ⟨e4, K4⟩
      rw [e4, Q.us]
      simp -implicitDefEqProofs (disch := first | omega | (simp only [h_szP, h_szS]; done) | (simp only [h_szP, h_szS]; omega)) only [go_sem, Nat.reduceBEq, reduceCtorEq, Nat.reduceAdd, Int.reduceEq, Int.reduceLT, Int.reduceLE, Int.reduceMul, Int.reduceAdd, Int.reduceSub, reduceIte, Nat.reduceLeDiff, Nat.reduceLT, Nat.reduceMul, Nat.reduceSub, Int.reduceToNat, s5, Try.underlying31, Try.underlying30, sl30, ze33, by33, sz33, Try.underlying3, sh33, Try.underlying33, Try.underlying22, Try.underlying34]
      exact fun b hb => (K3.of_ext K4 (Nat.le_refl _)).old b hb
    · have hd1 : decide ((i : Int) < xs.length) = false := decide_eq_false (by omega)
      simp -implicitDefEqProofs (disch := first | omega | (simp only [h_szP, h_szS]; done) | (simp only [h_szP, h_szS]; omega)) only [go_sem, Nat.reduceBEq, reduceCtorEq, Nat.reduceAdd, Int.reduceEq, Int.reduceLT, Int.reduceLE, Int.reduceMul, Int.reduceAdd, Int.reduceSub, reduceIte, Nat.reduceLeDiff, Nat.reduceLT, Nat.reduceMul, Nat.reduceSub, Int.reduceToNat, s5, Try.underlying31, Try.underlying30, sl30, ze33, by33, sz33, Try.underlying3, sh33, Try.underlying33, Try.underlying22, Try.underlying34, hd1]
      refine FnK.use (mpages_c Q.r) ?_
      intro x h4 ⟨e4, K4⟩
      rw [e4, Q.us]
      simp -implicitDefEqProofs (disch := first | omega | (simp only [h_szP, h_szS]; done) | (simp only [h_szP, h_szS]; omega)) only [go_sem, Nat.reduceBEq, reduceCtorEq, Nat.reduceAdd, Int.reduceEq, Int.reduceLT, Int.reduceLE, Int.reduceMul, Int.reduceAdd, Int.reduceSub, reduceIte, Nat.reduceLeDiff, Nat.reduceLT, Nat.reduceMul, Nat.reduceSub, Int.reduceToNat, s5, Try.underlying31, Try.underlying30, sl30, ze33, by33, sz33, Try.underlying3, sh33, Try.underlying33, Try.underlying22, Try.underlying34]
      exact fun b hb => (K3.of_ext K4 (Nat.le_refl _)).old b hb
end Go.SX.G
