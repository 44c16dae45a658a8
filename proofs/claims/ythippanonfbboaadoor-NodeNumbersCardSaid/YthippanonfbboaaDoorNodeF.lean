/- A file is made in a tree of a root. No condition. -/
import Derived.Test.YthippanonfbboaaDoorNodeC
import Derived.Test.YthippanonfbboaaDoorNodeE
set_option linter.unusedVariables false
set_option linter.unusedSimpArgs false
namespace Go.SX.G
open Go Go.SX Go.Proofs
set_option maxRecDepth 100000
set_option maxHeartbeats 1000000
theorem get1_c {h : Heap} {t q f : Nat} (R : Tr h t q f) : Fn Tryd.prog 29 [ptr t 0, .int .i64 1] h fun x h' => x = ptr f 0 ∧ h' = h := by
  have h1 := R.t
  refine Fn_c Tryd.func29 mixed c29 (by kernel_rfl) ?_; rw [r29]
  simp -implicitDefEqProofs (disch := first | omega | (simp only [h_szP, h_szS]; done) | (simp only [h_szP, h_szS]; omega)) only [go_sem, Nat.reduceBEq, reduceCtorEq, Nat.reduceAdd, Int.reduceEq, Int.reduceLT, Int.reduceLE, Int.reduceMul, Int.reduceAdd, Int.reduceSub, reduceIte, Nat.reduceLeDiff, Nat.reduceLT, Nat.reduceMul, Nat.reduceSub, Int.reduceToNat, s29, Tryd.underlying25, fo72_0, sh70, Tryd.underlying70, Tryd.underlying3, ze67, h1]
  refine obK.use _ (look_some Tryd.underlying70 Tryd.underlying3 R.q (j := 0) (by simp) rfl (fun a ha => absurd ha (by omega)) false) ?_
  simp -implicitDefEqProofs (disch := first | omega | (simp only [h_szP, h_szS]; done) | (simp only [h_szP, h_szS]; omega)) only [go_sem, Nat.reduceBEq, reduceCtorEq, Nat.reduceAdd, Int.reduceEq, Int.reduceLT, Int.reduceLE, Int.reduceMul, Int.reduceAdd, Int.reduceSub, reduceIte, Nat.reduceLeDiff, Nat.reduceLT, Nat.reduceMul, Nat.reduceSub, Int.reduceToNat, s29, Tryd.underlying25, fo72_0, sh70, Tryd.underlying70, Tryd.underlying3, ze67, h1]
  rfl
theorem dir1_c {h : Heap} {t q f : Nat} (R : Tr h t q f) : Fn Tryd.prog 36 [ptr t 0, .int .i64 1] h fun x h' => x = .tuple #[ptr f 0, .int .i64 0] ∧ h' = h := by
  have h1 := R.f
  refine Fn_c Tryd.func36 mixed c36 (by kernel_rfl) ?_; rw [r36]
  simp -implicitDefEqProofs (disch := first | omega | (simp only [h_szP, h_szS]; done) | (simp only [h_szP, h_szS]; omega)) only [go_sem, Nat.reduceBEq, reduceCtorEq, Nat.reduceAdd, Int.reduceEq, Int.reduceLT, Int.reduceLE, Int.reduceMul, Int.reduceAdd, Int.reduceSub, reduceIte, Nat.reduceLeDiff, Nat.reduceLT, Nat.reduceMul, Nat.reduceSub, Int.reduceToNat, s36, Tryd.underlying67, fo69_0, sh3, Tryd.underlying3]
  refine FnK.val (get1_c R) ?_
  simp -implicitDefEqProofs (disch := first | omega | (simp only [h_szP, h_szS]; done) | (simp only [h_szP, h_szS]; omega)) only [go_sem, Nat.reduceBEq, reduceCtorEq, Nat.reduceAdd, Int.reduceEq, Int.reduceLT, Int.reduceLE, Int.reduceMul, Int.reduceAdd, Int.reduceSub, reduceIte, Nat.reduceLeDiff, Nat.reduceLT, Nat.reduceMul, Nat.reduceSub, Int.reduceToNat, s36, Tryd.underlying67, fo69_0, sh3, Tryd.underlying3, h1]
theorem idx0_c {g : Nat} {cap : Array Value} (h : Heap) : Fn Tryd.prog 63 [.slice none 0 0, .func (.func g) #[] cap] h fun x h' => x = .int .i64 (-1) ∧ h' = h := by
  refine Fn_c Tryd.func63 mixed c63 (by kernel_rfl) ?_; rw [r63]
  simp -implicitDefEqProofs (disch := first | omega | (simp only [h_szP, h_szS]; done) | (simp only [h_szP, h_szS]; omega)) only [go_sem, Nat.reduceBEq, reduceCtorEq, Nat.reduceAdd, Int.reduceEq, Int.reduceLT, Int.reduceLE, Int.reduceMul, Int.reduceAdd, Int.reduceSub, reduceIte, Nat.reduceLeDiff, Nat.reduceLT, Nat.reduceMul, Nat.reduceSub, Int.reduceToNat, s63, Tryd.underlying55, sl55, ze59, by59, sz59, Tryd.underlying3, sh59]
  refine LoopK.use (fun k fr hh => hh = h ∧ fr = ((((fr0.up 8 (.int .i64 0)).up 7 (.int .i64 0)).up 1 (.func (.func g) #[] cap)).up 0 (.slice none 0 0))) 0 ⟨rfl, rfl⟩ ?_
  intro k fr hh ⟨e0, hf⟩
  subst hf
  rw [e0]
  simp -implicitDefEqProofs (disch := first | omega | (simp only [h_szP, h_szS]; done) | (simp only [h_szP, h_szS]; omega)) only [go_sem, Nat.reduceBEq, reduceCtorEq, Nat.reduceAdd, Int.reduceEq, Int.reduceLT, Int.reduceLE, Int.reduceMul, Int.reduceAdd, Int.reduceSub, reduceIte, Nat.reduceLeDiff, Nat.reduceLT, Nat.reduceMul, Nat.reduceSub, Int.reduceToNat, s63, Tryd.underlying55, sl55, ze59, by59, sz59, Tryd.underlying3, sh59]
theorem at0_c {h : Heap} {t q f : Nat} (R : Tr h t q f) (s : ByteArray) : Fn Tryd.prog 37 [ptr f 0, .string s] h fun x h' => x = .int .i64 (-1) ∧ Keeps h.size h h' := by
  have h1 := R.f
  have l1 := getElem?_lt h1
  refine Fn_c Tryd.func37 mixed c37 (by kernel_rfl) ?_; rw [r37]
  simp -implicitDefEqProofs (disch := first | omega | (simp only [h_szP, h_szS]; done) | (simp only [h_szP, h_szS]; omega)) only [go_sem, Nat.reduceBEq, reduceCtorEq, Nat.reduceAdd, Int.reduceEq, Int.reduceLT, Int.reduceLE, Int.reduceMul, Int.reduceAdd, Int.reduceSub, reduceIte, Nat.reduceLeDiff, Nat.reduceLT, Nat.reduceMul, Nat.reduceSub, Int.reduceToNat, s37, fo69_3, sh55, h1]
  refine FnK.val (idx0_c _) ?_
  simp -implicitDefEqProofs (disch := first | omega | (simp only [h_szP, h_szS]; done) | (simp only [h_szP, h_szS]; omega)) only [go_sem, Nat.reduceBEq, reduceCtorEq, Nat.reduceAdd, Int.reduceEq, Int.reduceLT, Int.reduceLE, Int.reduceMul, Int.reduceAdd, Int.reduceSub, reduceIte, Nat.reduceLeDiff, Nat.reduceLT, Nat.reduceMul, Nat.reduceSub, Int.reduceToNat, s37, fo69_3, sh55]
  exact Keeps.push _ _ (Nat.le_refl _)
theorem dead_c {h : Heap} {t q f : Nat} (R : Tr h t q f) : Fn Tryd.prog 34 [ptr f 0] h fun x h' => x = .bool false ∧ h' = h := by
  have h1 := R.f
  refine Fn_c Tryd.func34 mixed c34 (by kernel_rfl) ?_; rw [r34]
  simp -implicitDefEqProofs (disch := first | omega | (simp only [h_szP, h_szS]; done) | (simp only [h_szP, h_szS]; omega)) only [go_sem, Nat.reduceBEq, reduceCtorEq, Nat.reduceAdd, Int.reduceEq, Int.reduceLT, Int.reduceLE, Int.reduceMul, Int.reduceAdd, Int.reduceSub, reduceIte, Nat.reduceLeDiff, Nat.reduceLT, Nat.reduceMul, Nat.reduceSub, Int.reduceToNat, s34, fo69_0, sh3, Tryd.underlying3, fo69_4, h1]
theorem place_a {h : Heap} {t q f : Nat} (R : Tr h t q f) : Fn Tryd.prog 28 [ptr t 0, .int .i64 1, .string ⟨#[97]⟩] h fun x h' => x = .tuple #[ptr f 0, .int .i64 0] ∧ Keeps h.size h h' := by
  have n2 : ((⟨#[97]⟩ : ByteArray) == ⟨#[46]⟩) = false := by decide
  have n3 : ((⟨#[97]⟩ : ByteArray) == ⟨#[46, 46]⟩) = false := by decide
  refine Fn_c Tryd.func28 mixed c28 (by kernel_rfl) ?_; rw [r28]
  simp -implicitDefEqProofs (disch := first | omega | (simp only [h_szP, h_szS]; done) | (simp only [h_szP, h_szS]; omega)) only [go_sem, Nat.reduceBEq, reduceCtorEq, Nat.reduceAdd, Int.reduceEq, Int.reduceLT, Int.reduceLE, Int.reduceMul, Int.reduceAdd, Int.reduceSub, reduceIte, Nat.reduceLeDiff, Nat.reduceLT, Nat.reduceMul, Nat.reduceSub, Int.reduceToNat, s28, Tryd.underlying26, Tryd.underlying9, Tryd.underlying3]
  refine FnK.val (dir1_c R) ?_
  simp -implicitDefEqProofs (disch := first | omega | (simp only [h_szP, h_szS]; done) | (simp only [h_szP, h_szS]; omega)) only [go_sem, Nat.reduceBEq, reduceCtorEq, Nat.reduceAdd, Int.reduceEq, Int.reduceLT, Int.reduceLE, Int.reduceMul, Int.reduceAdd, Int.reduceSub, reduceIte, Nat.reduceLeDiff, Nat.reduceLT, Nat.reduceMul, Nat.reduceSub, Int.reduceToNat, s28, Tryd.underlying26, Tryd.underlying9, Tryd.underlying3, s_eql, n2, n3]
  refine FnK.val (goodname_a h) ?_
  simp -implicitDefEqProofs (disch := first | omega | (simp only [h_szP, h_szS]; done) | (simp only [h_szP, h_szS]; omega)) only [go_sem, Nat.reduceBEq, reduceCtorEq, Nat.reduceAdd, Int.reduceEq, Int.reduceLT, Int.reduceLE, Int.reduceMul, Int.reduceAdd, Int.reduceSub, reduceIte, Nat.reduceLeDiff, Nat.reduceLT, Nat.reduceMul, Nat.reduceSub, Int.reduceToNat, s28, Tryd.underlying26, Tryd.underlying9, Tryd.underlying3]
  refine FnK.use (at0_c R _) ?_
  intro x h1 ⟨e1, K1⟩
  rw [e1]
  simp -implicitDefEqProofs (disch := first | omega | (simp only [h_szP, h_szS]; done) | (simp only [h_szP, h_szS]; omega)) only [go_sem, Nat.reduceBEq, reduceCtorEq, Nat.reduceAdd, Int.reduceEq, Int.reduceLT, Int.reduceLE, Int.reduceMul, Int.reduceAdd, Int.reduceSub, reduceIte, Nat.reduceLeDiff, Nat.reduceLT, Nat.reduceMul, Nat.reduceSub, Int.reduceToNat, s28, Tryd.underlying26, Tryd.underlying9, Tryd.underlying3]
  refine FnK.val (dead_c (R.ext K1)) ?_
  simp -implicitDefEqProofs (disch := first | omega | (simp only [h_szP, h_szS]; done) | (simp only [h_szP, h_szS]; omega)) only [go_sem, Nat.reduceBEq, reduceCtorEq, Nat.reduceAdd, Int.reduceEq, Int.reduceLT, Int.reduceLE, Int.reduceMul, Int.reduceAdd, Int.reduceSub, reduceIte, Nat.reduceLeDiff, Nat.reduceLT, Nat.reduceMul, Nat.reduceSub, Int.reduceToNat, s28, Tryd.underlying26, Tryd.underlying9, Tryd.underlying3]
  exact K1
theorem good1_c (h : Heap) (a : Option Addr) (c : Nat) : Fn Tryd.prog 30 [.int .i64 1, .int .i64 420, .slice a 1 c] h fun x h' => x = .bool true ∧ h' = h := by
  refine Fn_c Tryd.func30 mixed c30 (by kernel_rfl) ?_; rw [r30]
  simp -implicitDefEqProofs (disch := first | omega | (simp only [h_szP, h_szS]; done) | (simp only [h_szP, h_szS]; omega)) only [go_sem, Nat.reduceBEq, reduceCtorEq, Nat.reduceAdd, Int.reduceEq, Int.reduceLT, Int.reduceLE, Int.reduceMul, Int.reduceAdd, Int.reduceSub, reduceIte, Nat.reduceLeDiff, Nat.reduceLT, Nat.reduceMul, Nat.reduceSub, Int.reduceToNat, s30, Tryd.underlying3, Tryd.underlying23, sl23, ze5, by5, sz5]
theorem free_c2 {h : Heap} {t q f : Nat} (R : Tr h t q f) : Fn Tryd.prog 31 [ptr t 0] h fun x h' => x = .int .i64 2 ∧ h' = h := by
  have h1 := R.t
  refine Fn_c Tryd.func31 mixed c31 (by kernel_rfl) ?_; rw [r31]
  simp -implicitDefEqProofs (disch := first | omega | (simp only [h_szP, h_szS]; done) | (simp only [h_szP, h_szS]; omega)) only [go_sem, Nat.reduceBEq, reduceCtorEq, Nat.reduceAdd, Int.reduceEq, Int.reduceLT, Int.reduceLE, Int.reduceMul, Int.reduceAdd, Int.reduceSub, reduceIte, Nat.reduceLeDiff, Nat.reduceLT, Nat.reduceMul, Nat.reduceSub, Int.reduceToNat, s31, fo72_0, sh70, Tryd.underlying70, Tryd.underlying3, ze67, Tryd.underlying67]
  refine LoopK.use (fun k fr hh => hh = h ∧ ((k = 1 ∧ fr = ((fr0.up 3 (.int .i64 1)).up 0 (ptr t 0))) ∨ (k = 0 ∧ fr = ((fr0.up 3 (.int .i64 2)).up 0 (ptr t 0))))) 1 ⟨rfl, .inl ⟨rfl, rfl⟩⟩ ?_
  intro k fr hh ⟨e0, hf⟩
  rcases hf with ⟨hk, hf⟩ | ⟨hk, hf⟩
  · subst hf
    rw [e0]
    simp -implicitDefEqProofs (disch := first | omega | (simp only [h_szP, h_szS]; done) | (simp only [h_szP, h_szS]; omega)) only [go_sem, Nat.reduceBEq, reduceCtorEq, Nat.reduceAdd, Int.reduceEq, Int.reduceLT, Int.reduceLE, Int.reduceMul, Int.reduceAdd, Int.reduceSub, reduceIte, Nat.reduceLeDiff, Nat.reduceLT, Nat.reduceMul, Nat.reduceSub, Int.reduceToNat, s31, fo72_0, sh70, Tryd.underlying70, Tryd.underlying3, ze67, Tryd.underlying67, h1]
    refine obK.use _ (look_some Tryd.underlying70 Tryd.underlying3 R.q (j := 0) (by simp) rfl (fun a ha => absurd ha (by omega)) false) ?_
    have e9 : (if false = true then Value.tuple #[[((1 : Int), ptr f 0, 0)][0].snd.fst, .bool true] else [((1 : Int), ptr f 0, 0)][0].snd.fst) = ptr f 0 := rfl
    rw [e9]
    simp -implicitDefEqProofs (disch := first | omega | (simp only [h_szP, h_szS]; done) | (simp only [h_szP, h_szS]; omega)) only [go_sem, Nat.reduceBEq, reduceCtorEq, Nat.reduceAdd, Int.reduceEq, Int.reduceLT, Int.reduceLE, Int.reduceMul, Int.reduceAdd, Int.reduceSub, reduceIte, Nat.reduceLeDiff, Nat.reduceLT, Nat.reduceMul, Nat.reduceSub, Int.reduceToNat, s31, fo72_0, sh70, Tryd.underlying70, Tryd.underlying3, ze67, Tryd.underlying67, h1]
    exact ⟨0, by omega, .inr rfl⟩
  · subst hf
    rw [e0]
    simp -implicitDefEqProofs (disch := first | omega | (simp only [h_szP, h_szS]; done) | (simp only [h_szP, h_szS]; omega)) only [go_sem, Nat.reduceBEq, reduceCtorEq, Nat.reduceAdd, Int.reduceEq, Int.reduceLT, Int.reduceLE, Int.reduceMul, Int.reduceAdd, Int.reduceSub, reduceIte, Nat.reduceLeDiff, Nat.reduceLT, Nat.reduceMul, Nat.reduceSub, Int.reduceToNat, s31, fo72_0, sh70, Tryd.underlying70, Tryd.underlying3, ze67, Tryd.underlying67, h1]
    refine obK.use _ (look_none Tryd.underlying70 Tryd.underlying3 ze67 R.q (fun x hx => by simp at hx; rw [hx]; show (1 : Int) ≠ 2; omega) false) ?_
    simp -implicitDefEqProofs (disch := first | omega | (simp only [h_szP, h_szS]; done) | (simp only [h_szP, h_szS]; omega)) only [go_sem, Nat.reduceBEq, reduceCtorEq, Nat.reduceAdd, Int.reduceEq, Int.reduceLT, Int.reduceLE, Int.reduceMul, Int.reduceAdd, Int.reduceSub, reduceIte, Nat.reduceLeDiff, Nat.reduceLT, Nat.reduceMul, Nat.reduceSub, Int.reduceToNat, s31, fo72_0, sh70, Tryd.underlying70, Tryd.underlying3, ze67, Tryd.underlying67]
theorem clone_c {h : Heap} {v : Value} {ds : List Nat} (hv : Vs h v encB 1 ds) (hl : ds.length ≤ 10000) : Fn Tryd.prog 32 [v] h fun x h' => (∃ a c, x = .slice a ds.length c) ∧ Keeps h.size h h' := by
  obtain ⟨a, cap, e1, hcap⟩ := hv.shape
  subst e1
  refine Fn_c Tryd.func32 mixed c32 (by kernel_rfl) ?_; rw [r32]
  simp -implicitDefEqProofs (disch := first | omega | (simp only [h_szP, h_szS]; done) | (simp only [h_szP, h_szS]; omega)) only [go_sem, Nat.reduceBEq, reduceCtorEq, Nat.reduceAdd, Int.reduceEq, Int.reduceLT, Int.reduceLE, Int.reduceMul, Int.reduceAdd, Int.reduceSub, reduceIte, Nat.reduceLeDiff, Nat.reduceLT, Nat.reduceMul, Nat.reduceSub, Int.reduceToNat, s32, Tryd.underlying23, sl23, ze5, by5, sz5]
  cases a with
  | none =>
    simp -implicitDefEqProofs (disch := first | omega | (simp only [h_szP, h_szS]; done) | (simp only [h_szP, h_szS]; omega)) only [go_sem, Nat.reduceBEq, reduceCtorEq, Nat.reduceAdd, Int.reduceEq, Int.reduceLT, Int.reduceLE, Int.reduceMul, Int.reduceAdd, Int.reduceSub, reduceIte, Nat.reduceLeDiff, Nat.reduceLT, Nat.reduceMul, Nat.reduceSub, Int.reduceToNat, s32, Tryd.underlying23, sl23, ze5, by5, sz5]
    have : ds.length = 0 := by
      rcases hv.2 with ⟨e, _⟩ | ⟨b, o, c, cc, ee, ff, e, _⟩
      · injection e
      · injection e with e _ _; cases e
    exact ⟨⟨none, 0, by rw [this]⟩, Keeps.refl'⟩
  | some a =>
    simp -implicitDefEqProofs (disch := first | omega | (simp only [h_szP, h_szS]; done) | (simp only [h_szP, h_szS]; omega)) only [go_sem, Nat.reduceBEq, reduceCtorEq, Nat.reduceAdd, Int.reduceEq, Int.reduceLT, Int.reduceLE, Int.reduceMul, Int.reduceAdd, Int.reduceSub, reduceIte, Nat.reduceLeDiff, Nat.reduceLT, Nat.reduceMul, Nat.reduceSub, Int.reduceToNat, s32, Tryd.underlying23, sl23, ze5, by5, sz5]
    have s0 : Sl (h.push (.cells #[] 5)) h.size (.slice (some ⟨h.size, 0, none⟩) 0 0) 5 1 0 [] := ⟨rfl, .inr ⟨_, _, rfl, Nat.le_refl _, Nat.le_refl _, [], by simp, by simp⟩⟩
    have hv3 := hv.ext (Keeps.push h (.cells #[] 5) (Nat.le_refl _))
    refine app_sl (n := ds.length) (new := flat encB ds) elB15 s0 (Vw.len hv3) (Vw.srcAll hv3) (flat_len encB_len ds) (flat_all encB_one ds) (by omega) rfl (by simp) ?_
    intro v4 h4 S4 G4
    have K4 : Keeps h.size h h4 := (Keeps.push h _ (Nat.le_refl _)).trans (G4.keeps (fun b hb => by simp [blk] at hb; omega) (by simp))
    obtain ⟨a4, c4, e4, _⟩ := S4.vw.shape
    rw [e4]
    simp -implicitDefEqProofs (disch := first | omega | (simp only [h_szP, h_szS]; done) | (simp only [h_szP, h_szS]; omega)) only [go_sem, Nat.reduceBEq, reduceCtorEq, Nat.reduceAdd, Int.reduceEq, Int.reduceLT, Int.reduceLE, Int.reduceMul, Int.reduceAdd, Int.reduceSub, reduceIte, Nat.reduceLeDiff, Nat.reduceLT, Nat.reduceMul, Nat.reduceSub, Int.reduceToNat, s32, Tryd.underlying23, sl23, ze5, by5, sz5]
    exact ⟨⟨a4, c4, rfl⟩, K4⟩
theorem make_a {h : Heap} {t q f : Nat} {v : Value} (R : Tr h t q f) (hv : Vs h v encB 1 [120]) : Fn Tryd.prog 9 [ptr t 0, .int .i64 1, .string ⟨#[97]⟩, .int .i64 1, .int .i64 420, v] h fun x h' => x = .tuple #[.int .i64 2, .int .i64 0] ∧ (∃ y c, h'[t]? = some (.cells #[.map (some q)] 72 (0, 0)) ∧ h'[q]? = some (mpO [(1, ptr f 0, 0), (2, y, 1)] c)) ∧ h.size ≤ h'.size ∧ ∀ b, b < h.size → b ≠ q → b ≠ f → h'[b]? = h[b]? := by
  obtain ⟨av, cv, ev, _⟩ := hv.shape
  rw [ev] at hv ⊢
  refine Fn_c Tryd.func9 mixed c9 (by kernel_rfl) ?_; rw [r9]
  simp -implicitDefEqProofs (disch := first | omega | (simp only [h_szP, h_szS]; done) | (simp only [h_szP, h_szS]; omega)) only [go_sem, Nat.reduceBEq, reduceCtorEq, Nat.reduceAdd, Int.reduceEq, Int.reduceLT, Int.reduceLE, Int.reduceMul, Int.reduceAdd, Int.reduceSub, reduceIte, Nat.reduceLeDiff, Nat.reduceLT, Nat.reduceMul, Nat.reduceSub, Int.reduceToNat, s9, Tryd.underlying26, Tryd.underlying67, fo72_0, sh70, Tryd.underlying70, Tryd.underlying3, zc69, sd69, pl69_0, pl69_1, pl69_2, pl69_5, fo69_4, sz3, fo69_3, sh55, zc59, sd59, pl59_0, pl59_1, pl59_2, sl55, ze59, by59, sz59, Tryd.underlying55, sz55]
  refine FnK.use (place_a R) ?_
  intro x h1 ⟨e1, K1⟩
  have R1 := R.ext K1
  have t1 := R1.t
  rw [e1]
  simp -implicitDefEqProofs (disch := first | omega | (simp only [h_szP, h_szS]; done) | (simp only [h_szP, h_szS]; omega)) only [go_sem, Nat.reduceBEq, reduceCtorEq, Nat.reduceAdd, Int.reduceEq, Int.reduceLT, Int.reduceLE, Int.reduceMul, Int.reduceAdd, Int.reduceSub, reduceIte, Nat.reduceLeDiff, Nat.reduceLT, Nat.reduceMul, Nat.reduceSub, Int.reduceToNat, s9, Tryd.underlying26, Tryd.underlying67, fo72_0, sh70, Tryd.underlying70, Tryd.underlying3, zc69, sd69, pl69_0, pl69_1, pl69_2, pl69_5, fo69_4, sz3, fo69_3, sh55, zc59, sd59, pl59_0, pl59_1, pl59_2, sl55, ze59, by59, sz59, Tryd.underlying55, sz55]
  refine FnK.val (good1_c _ _ _) ?_
  have qm : h1[q]? = some (.map #[⟨.int .i64 1, ptr f 0, 0⟩] 1) := R1.q
  simp -implicitDefEqProofs (disch := first | omega | (simp only [h_szP, h_szS]; done) | (simp only [h_szP, h_szS]; omega)) only [go_sem, Nat.reduceBEq, reduceCtorEq, Nat.reduceAdd, Int.reduceEq, Int.reduceLT, Int.reduceLE, Int.reduceMul, Int.reduceAdd, Int.reduceSub, reduceIte, Nat.reduceLeDiff, Nat.reduceLT, Nat.reduceMul, Nat.reduceSub, Int.reduceToNat, s9, Tryd.underlying26, Tryd.underlying67, fo72_0, sh70, Tryd.underlying70, Tryd.underlying3, zc69, sd69, pl69_0, pl69_1, pl69_2, pl69_5, fo69_4, sz3, fo69_3, sh55, zc59, sd59, pl59_0, pl59_1, pl59_2, sl55, ze59, by59, sz59, Tryd.underlying55, sz55, t1, qm, List.size_toArray]
  refine FnK.val (free_c2 R1) ?_
  simp -implicitDefEqProofs (disch := first | omega | (simp only [h_szP, h_szS]; done) | (simp only [h_szP, h_szS]; omega)) only [go_sem, Nat.reduceBEq, reduceCtorEq, Nat.reduceAdd, Int.reduceEq, Int.reduceLT, Int.reduceLE, Int.reduceMul, Int.reduceAdd, Int.reduceSub, reduceIte, Nat.reduceLeDiff, Nat.reduceLT, Nat.reduceMul, Nat.reduceSub, Int.reduceToNat, s9, Tryd.underlying26, Tryd.underlying67, fo72_0, sh70, Tryd.underlying70, Tryd.underlying3, zc69, sd69, pl69_0, pl69_1, pl69_2, pl69_5, fo69_4, sz3, fo69_3, sh55, zc59, sd59, pl59_0, pl59_1, pl59_2, sl55, ze59, by59, sz59, Tryd.underlying55, sz55, t1]
  refine FnK.use (clone_c ((hv.ext K1)) (by simp)) ?_
  intro y h2 ⟨⟨a2, c2, e2⟩, K2⟩
  have R2 := R1.ext K2
  have t2 := R2.t
  have f2 := R2.f
  have lt := getElem?_lt t2
  have lf := getElem?_lt f2
  have lq := getElem?_lt R2.q
  rw [e2]
  simp -implicitDefEqProofs (disch := first | omega | (simp only [h_szP, h_szS]; done) | (simp only [h_szP, h_szS]; omega)) only [go_sem, Nat.reduceBEq, reduceCtorEq, Nat.reduceAdd, Int.reduceEq, Int.reduceLT, Int.reduceLE, Int.reduceMul, Int.reduceAdd, Int.reduceSub, reduceIte, Nat.reduceLeDiff, Nat.reduceLT, Nat.reduceMul, Nat.reduceSub, Int.reduceToNat, s9, Tryd.underlying26, Tryd.underlying67, fo72_0, sh70, Tryd.underlying70, Tryd.underlying3, zc69, sd69, pl69_0, pl69_1, pl69_2, pl69_5, fo69_4, sz3, fo69_3, sh55, zc59, sd59, pl59_0, pl59_1, pl59_2, sl55, ze59, by59, sz59, Tryd.underlying55, sz55, t2]
  have hq3 : (h2.push (.cells #[.int .i64 1, .int .i64 420, .slice a2 1 c2, .slice none 0 0, .int .i64 0, .int .i64 1, .int .i64 0] 69))[q]? = some (mpO [(1, ptr f 0, 0)] 1) := by rw [h_pushL _ _ _ lq]; exact R2.q
  refine mup_none Tryd.underlying70 Tryd.underlying3 hq3 (fun x hx => by simp at hx; rw [hx]; show (1 : Int) ≠ 2; omega) (2, ptr h2.size 0, 1) rfl ?_
  obtain ⟨h3, e3⟩ : ∃ h3, h3 = (h2.push (.cells #[.int .i64 1, .int .i64 420, .slice a2 1 c2, .slice none 0 0, .int .i64 0, .int .i64 1, .int .i64 0] 69)).setIfInBounds q (.map (entA .i64 (fun x : Int × Value × Nat => x.1) (fun x => x.2.1) (fun x => x.2.2) ([(1, ptr f 0, 0)] ++ [(2, ptr h2.size 0, 1)])) (1 + 1)) := ⟨_, rfl⟩
  rw [← e3]
  have sz3 : h3.size = h2.size + 1 := by rw [e3]; simp
  have o3 : ∀ b, b < h2.size → b ≠ q → h3[b]? = h2[b]? := fun b hb n => by rw [e3, h_setN _ _ _ _ n, h_pushL _ _ _ hb]
  have q3 : h3[q]? = some (mpO [(1, ptr f 0, 0), (2, ptr h2.size 0, 1)] 2) := by rw [e3, h_setS _ _ _ (by simp; omega)]; rfl
  have nfq : f ≠ q := fun e => by have := R2.q; rw [← e, f2] at this; simp [mpO] at this
  have ntq : t ≠ q := fun e => by have := R2.q; rw [← e, t2] at this; simp [mpO] at this
  have ntf : t ≠ f := fun e => by rw [e, f2] at t2; simp at t2
  have f3 := o3 f lf nfq
  rw [f2] at f3
  have t3 := o3 t lt ntq
  rw [t2] at t3
  have l3 : f < h3.size := by omega
  simp -implicitDefEqProofs (disch := first | omega | (simp only [h_szP, h_szS]; done) | (simp only [h_szP, h_szS]; omega)) only [go_sem, Nat.reduceBEq, reduceCtorEq, Nat.reduceAdd, Int.reduceEq, Int.reduceLT, Int.reduceLE, Int.reduceMul, Int.reduceAdd, Int.reduceSub, reduceIte, Nat.reduceLeDiff, Nat.reduceLT, Nat.reduceMul, Nat.reduceSub, Int.reduceToNat, s9, Tryd.underlying26, Tryd.underlying67, fo72_0, sh70, Tryd.underlying70, Tryd.underlying3, zc69, sd69, pl69_0, pl69_1, pl69_2, pl69_5, fo69_4, sz3, fo69_3, sh55, zc59, sd59, pl59_0, pl59_1, pl59_2, sl55, ze59, by59, sz59, Tryd.underlying55, sz55, f3]
  refine app_push (lo := h3.size) ((⟨#[97]⟩ : ByteArray), 2, 1) elEn encEn_len (Ss.nil h3 h3.size 59) (by omega) rfl rfl (by simp) (Nat.le_refl _) ?_
  intro v' h4 S' K' F' B'
  obtain ⟨a', c', e', _⟩ := S'.vs.shape
  have f4 := K'.at f3 l3
  have l4 := getElem?_lt f4
  have t4 := K'.at t3 (by omega)
  have q4 := K'.at q3 (by omega)
  have s1 := K1.size
  have s2 := K2.size
  have s4 := K'.size
  rw [e']
  simp -implicitDefEqProofs (disch := first | omega | (simp only [h_szP, h_szS]; done) | (simp only [h_szP, h_szS]; omega)) only [go_sem, Nat.reduceBEq, reduceCtorEq, Nat.reduceAdd, Int.reduceEq, Int.reduceLT, Int.reduceLE, Int.reduceMul, Int.reduceAdd, Int.reduceSub, reduceIte, Nat.reduceLeDiff, Nat.reduceLT, Nat.reduceMul, Nat.reduceSub, Int.reduceToNat, s9, Tryd.underlying26, Tryd.underlying67, fo72_0, sh70, Tryd.underlying70, Tryd.underlying3, zc69, sd69, pl69_0, pl69_1, pl69_2, pl69_5, fo69_4, sz3, fo69_3, sh55, zc59, sd59, pl59_0, pl59_1, pl59_2, sl55, ze59, by59, sz59, Tryd.underlying55, sz55, f4]
  refine ⟨⟨ptr h2.size 0, 2, t4, q4⟩, by omega, fun b hb p1 p2 => ?_⟩
  rw [h_setN _ _ _ _ p2, K'.old b (by omega), o3 b (by omega) p1, K2.old b (by omega), K1.old b hb]
theorem len2_c {h : Heap} {t q : Nat} {y : Value} {c : Nat} {f : Nat} (ht : h[t]? = some (.cells #[.map (some q)] 72 (0, 0))) (hq : h[q]? = some (mpO [(1, ptr f 0, 0), (2, y, 1)] c)) : Fn Tryd.prog 26 [ptr t 0] h fun x h' => x = .int .i64 2 ∧ h' = h := by
  have qm : h[q]? = some (.map #[⟨.int .i64 1, ptr f 0, 0⟩, ⟨.int .i64 2, y, 1⟩] c) := hq
  refine Fn_c Tryd.func26 mixed c26 (by kernel_rfl) ?_; rw [r26]
  simp -implicitDefEqProofs (disch := first | omega | (simp only [h_szP, h_szS]; done) | (simp only [h_szP, h_szS]; omega)) only [go_sem, Nat.reduceBEq, reduceCtorEq, Nat.reduceAdd, Int.reduceEq, Int.reduceLT, Int.reduceLE, Int.reduceMul, Int.reduceAdd, Int.reduceSub, reduceIte, Nat.reduceLeDiff, Nat.reduceLT, Nat.reduceMul, Nat.reduceSub, Int.reduceToNat, s26, Tryd.underlying25, fo72_0, sh70, Tryd.underlying70, ht, qm, List.size_toArray]
theorem answers15_c (h : Heap) : Fn Tryd.prog 8 [] h fun x h' => x = .bool true ∧ Keeps h.size h h' := by
  refine Fn_c Tryd.func8 mixed c8 (by kernel_rfl) ?_; rw [r8]
  simp -implicitDefEqProofs (disch := first | omega | (simp only [h_szP, h_szS]; done) | (simp only [h_szP, h_szS]; omega)) only [go_sem, Nat.reduceBEq, reduceCtorEq, Nat.reduceAdd, Int.reduceEq, Int.reduceLT, Int.reduceLE, Int.reduceMul, Int.reduceAdd, Int.reduceSub, reduceIte, Nat.reduceLeDiff, Nat.reduceLT, Nat.reduceMul, Nat.reduceSub, Int.reduceToNat, s8, Tryd.underlying26, Tryd.underlying25, sl23, ze5, by5, sz5, Tryd.underlying23, Tryd.underlying5, Tryd.underlying3]
  refine FnK.use (nnew_c h) ?_
  intro x h1 ⟨⟨t, q, f, e1, R, b1, b2, b3⟩, K1⟩
  rw [e1]
  simp -implicitDefEqProofs (disch := first | omega | (simp only [h_szP, h_szS]; done) | (simp only [h_szP, h_szS]; omega)) only [go_sem, Nat.reduceBEq, reduceCtorEq, Nat.reduceAdd, Int.reduceEq, Int.reduceLT, Int.reduceLE, Int.reduceMul, Int.reduceAdd, Int.reduceSub, reduceIte, Nat.reduceLeDiff, Nat.reduceLT, Nat.reduceMul, Nat.reduceSub, Int.reduceToNat, s8, Tryd.underlying26, Tryd.underlying25, sl23, ze5, by5, sz5, Tryd.underlying23, Tryd.underlying5, Tryd.underlying3]
  have l1 := getElem?_lt R.t
  refine cvt_same Tryd.underlying23 Tryd.underlying5 (h_pushE h1 _ h1.size rfl) ?_
  obtain ⟨h2, e2⟩ : ∃ h2, h2 = (h1.push (.cells #[.int .u8 120] 5)).setIfInBounds h1.size (.cells #[.int .u8 120] 5 ((#[Value.int .u8 120] : Array Value).size, (#[Value.int .u8 120] : Array Value).size + 1)) := ⟨_, rfl⟩
  rw [← e2]
  have K2 : Keeps h1.size h1 h2 := by rw [e2]; exact (Keeps.push _ _ (Nat.le_refl _)).set' (Nat.le_refl _)
  have hv : Vs h2 (.slice (some ⟨h1.size, 0, none⟩) 1 1) encB 1 [120] := by
    refine ⟨rfl, .inr ⟨h1.size, 0, 1, #[.int .u8 120], 5, _, rfl, Nat.le_refl _, by rw [e2]; exact h_setS _ _ _ (by simp), by simp, rfl⟩⟩
  have R2 := R.ext K2
  simp -implicitDefEqProofs (disch := first | omega | (simp only [h_szP, h_szS]; done) | (simp only [h_szP, h_szS]; omega)) only [go_sem, Nat.reduceBEq, reduceCtorEq, Nat.reduceAdd, Int.reduceEq, Int.reduceLT, Int.reduceLE, Int.reduceMul, Int.reduceAdd, Int.reduceSub, reduceIte, Nat.reduceLeDiff, Nat.reduceLT, Nat.reduceMul, Nat.reduceSub, Int.reduceToNat, s8, Tryd.underlying26, Tryd.underlying25, sl23, ze5, by5, sz5, Tryd.underlying23, Tryd.underlying5, Tryd.underlying3]
  refine FnK.use (make_a R2 hv) ?_
  intro y h3 ⟨e3, ⟨y', c', t3, q3⟩, s3, o3⟩
  rw [e3]
  simp -implicitDefEqProofs (disch := first | omega | (simp only [h_szP, h_szS]; done) | (simp only [h_szP, h_szS]; omega)) only [go_sem, Nat.reduceBEq, reduceCtorEq, Nat.reduceAdd, Int.reduceEq, Int.reduceLT, Int.reduceLE, Int.reduceMul, Int.reduceAdd, Int.reduceSub, reduceIte, Nat.reduceLeDiff, Nat.reduceLT, Nat.reduceMul, Nat.reduceSub, Int.reduceToNat, s8, Tryd.underlying26, Tryd.underlying25, sl23, ze5, by5, sz5, Tryd.underlying23, Tryd.underlying5, Tryd.underlying3]
  refine FnK.val (len2_c t3 q3) ?_
  simp -implicitDefEqProofs (disch := first | omega | (simp only [h_szP, h_szS]; done) | (simp only [h_szP, h_szS]; omega)) only [go_sem, Nat.reduceBEq, reduceCtorEq, Nat.reduceAdd, Int.reduceEq, Int.reduceLT, Int.reduceLE, Int.reduceMul, Int.reduceAdd, Int.reduceSub, reduceIte, Nat.reduceLeDiff, Nat.reduceLT, Nat.reduceMul, Nat.reduceSub, Int.reduceToNat, s8, Tryd.underlying26, Tryd.underlying25, sl23, ze5, by5, sz5, Tryd.underlying23, Tryd.underlying5, Tryd.underlying3]
  have s1 := K1.size
  have s2 := K2.size
  exact ⟨by omega, fun b hb => by rw [o3 b (by omega) (by omega) (by omega), K2.old b (by omega), K1.old b hb]⟩
end Go.SX.G
