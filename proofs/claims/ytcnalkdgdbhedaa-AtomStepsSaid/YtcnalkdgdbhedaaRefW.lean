/- An atomic instruction, by the reference. No condition but on sizes. -/
import Derived.Test.YtcnalkdgdbhedaaRefV
set_option linter.unusedVariables false
set_option linter.unusedSimpArgs false
namespace Go.SX.G
open Go Go.SX Go.Proofs
set_option maxRecDepth 100000
set_option maxHeartbeats 2000000
/-- what is left behind it. -/
structure Aft (h h' : Heap) (k sp : Nat) (pv : Value) (ps : List Pg) (C P : Nat → Nat) (rs : List Reg) (a n : Nat) (t : StO) : Prop where
  r : RP h' sp pv ps (putB t.st a n C) P rs
  hk : h'[k]? = some (hartO t.ha t.hn sp)
  size : h.size ≤ h'.size
  old : ∀ b, b < h.size → ¬ rfoot sp pv ps b → b ≠ k → h'[b]? = h[b]?
theorem Aft.of {h h' : Heap} {k sp : Nat} {pv : Value} {ps : List Pg} {C P : Nat → Nat} {rs : List Reg} {a n : Nat} {t : StO} (r : RP h sp pv ps C P rs) (hst : t.st = none) (nk : ¬ rfoot sp pv ps k) (hk : h'[k]? = some (hartO t.ha t.hn sp)) (size : h.size ≤ h'.size) (old : ∀ b, b < h.size → b ≠ k → h'[b]? = h[b]?) : Aft h h' k sp pv ps C P rs a n t :=
  ⟨by rw [hst]; exact r.mono fun b f => old b (r.R.lt f) (fun e => nk (e ▸ f)), hk, size, fun b hb _ q => old b hb q⟩
theorem ratomic_c {h : Heap} {sp k : Nat} {pv : Value} {ps : List Pg} {C P : Nat → Nat} {rs : List Reg} (r : RP h sp pv ps C P rs) (op : Int) (a x ha hn n : Nat) (o1 o2 : Option Nat) (o : Option (BitVec 64)) (hk : h[k]? = some (hartO ha hn sp)) (nk : ¬ rfoot sp pv ps k)
    (ha1 : a < 18446744073709551616) (hx : x < 18446744073709551616) (hw : widthI op = n) (F1 : FirstN rs a n 2 o1) (F2 : FirstN rs a n 1 o2)
    (hdo : ∀ h : Heap, Fn Try.prog 12 [.int .i64 op, .int .u64 (le ((List.range n).map fun i => C (a + i)) : Nat), .int .u64 x] h fun v h' => v = told o ∧ Keeps h.size h h') :
    Fn Try.prog 33 [ptr k 0, .int .i64 op, .int .u64 a, .int .u64 x] h fun y h' => y = .tuple #[.int .u64 (stepR n op o1 o2 ha hn a x (sxN (le ((List.range n).map fun i => C (a + i))) n) (nxN o)).res, stopV (stepR n op o1 o2 ha hn a x (sxN (le ((List.range n).map fun i => C (a + i))) n) (nxN o)).sk (stepR n op o1 o2 ha hn a x (sxN (le ((List.range n).map fun i => C (a + i))) n) (nxN o)).fk (stepR n op o1 o2 ha hn a x (sxN (le ((List.range n).map fun i => C (a + i))) n) (nxN o)).fa] ∧
      Aft h h' k sp pv ps C P rs a n (stepR n op o1 o2 ha hn a x (sxN (le ((List.range n).map fun i => C (a + i))) n) (nxN o)) := by
  obtain ⟨old, hold⟩ : ∃ old, old = le ((List.range n).map fun i => C (a + i)) := ⟨_, rfl⟩
  rw [← hold] at hdo ⊢
  have szI : szP Try.prog 3 = some 1 := by kernel_rfl
  have szU : szP Try.prog 22 = some 1 := by kernel_rfl
  obtain ⟨n', hn', hnn⟩ := width_nat op
  have en : n' = n := by omega
  subst en
  have hkl := getElem?_lt hk
  unfold hartO at hk
  refine Fn_c Try.func33 mixed c33 (by kernel_rfl) ?_; rw [r33]
  simp -implicitDefEqProofs (disch := first | omega | (simp only [h_szP, h_szS]; done) | (simp only [h_szP, h_szS]; omega)) only [go_sem, Nat.reduceBEq, reduceCtorEq, Nat.reduceAdd, Int.reduceEq, Int.reduceLT, Int.reduceLE, Int.reduceMul, Int.reduceAdd, Int.reduceSub, reduceIte, Nat.reduceLeDiff, Nat.reduceLT, Nat.reduceMul, Nat.reduceSub, Int.reduceToNat, s33, zc64, fo77_2, sh22, fo77_3, sh3, sz3, sz22, Try.underlying3, sd64, pl64_0, sz64, Try.underlying22, zc41, sd41, pl41_1, pl64_1, fo77_4, sh75, sz41, fo41_0, sh41, sh64, hk]
  refine FnK.val (rwidth_c op _) ?_
  rw [hw]
  obtain ⟨h0, e0⟩ : ∃ h0, h0 = (h.setIfInBounds k (hartZ sp)).push (.cells #[.int .i64 0, .int .i64 0, .int .u64 0] 64) := ⟨_, rfl⟩
  have sz0 : h0.size = h.size + 1 := by rw [e0]; simp
  have o0 : ∀ b, b < h.size → b ≠ k → h0[b]? = h[b]? := fun b hb q => by rw [e0, h_pushL _ _ _ (by simp; omega)]; exact h_setN _ _ _ _ q
  have hk0 : h0[k]? = some (hartZ sp) := by rw [e0, h_pushL _ _ _ (by simp; omega)]; exact h_setS _ _ _ hkl
  have hS0 : h0[h.size]? = some (.cells #[.int .i64 0, .int .i64 0, .int .u64 0] 64 (0, 0)) := by rw [e0]; exact h_pushE _ _ _ (by simp)
  unfold hartZ at e0
  have hk0' := hk0
  unfold hartZ at hk0
  have hkl0 := getElem?_lt hk0
  have r0 : RP h0 sp pv ps C P rs := r.mono fun b f => o0 b (r.R.lt f) (fun e => nk (e ▸ f))
  have nok : ∀ (h1 : Heap) (t : StO), Keeps h.size h0 h1 → t.st = none → t.ha = 0 → t.hn = 0 → Aft h h1 k sp pv ps C P rs a n' t := fun h1 t K t1 t2 t3 =>
    Aft.of r t1 nk (by rw [K.old k hkl, hk0', t2, t3, hartZ_eq]) (by have := K.size; omega) (fun b hb q => by rw [K.old b hb, o0 b hb q])
  have aftS : ∀ (h2 h3 : Heap) (t : StO), RP h2 sp pv ps (putB t.st a n' C) P rs → (∀ b, b < h.size → ¬ rfoot sp pv ps b → h2[b]? = h0[b]?) → (∀ b, b < h.size → b ≠ k → h3[b]? = h2[b]?) → h.size ≤ h3.size → h3[k]? = some (hartO t.ha t.hn sp) → Aft h h3 k sp pv ps C P rs a n' t := fun h2 h3 t R2 old2 K sz hk3 =>
    ⟨R2.mono fun b f => K b (r.R.lt f) (fun e => nk (e ▸ f)), hk3, sz, fun b hb f q => by rw [K b hb q, old2 b hb f, o0 b hb q]⟩
  have nok' : ∀ (O : Obj) (t : StO), t.st = none → t.ha = 0 → t.hn = 0 → Aft h ((h.setIfInBounds k (hartZ sp)).push O) k sp pv ps C P rs a n' t := fun O t t1 t2 t3 =>
    Aft.of r t1 nk (by rw [h_pushL _ _ _ (by simp; omega), h_setS _ _ _ hkl, t2, t3, hartZ_eq]) (by simp) (fun b hb q => by rw [h_pushL _ _ _ (by simp; omega), h_setN _ _ _ _ q])
  unfold hartZ at nok'
  by_cases hz : n' = 0
  · have z1 : (((n' : Nat) : Int) = 0) = True := eq_true (by omega)
    have est : stepR n' op o1 o2 ha hn a x (sxN old n') (nxN o) = ⟨0, 0, 0, 3, 0, 0, none⟩ := by unfold stepR; rw [if_pos hz]
    rw [est]
    simp -implicitDefEqProofs (disch := first | omega | (simp only [h_szP, h_szS]; done) | (simp only [h_szP, h_szS]; omega)) only [go_sem, Nat.reduceBEq, reduceCtorEq, Nat.reduceAdd, Int.reduceEq, Int.reduceLT, Int.reduceLE, Int.reduceMul, Int.reduceAdd, Int.reduceSub, reduceIte, Nat.reduceLeDiff, Nat.reduceLT, Nat.reduceMul, Nat.reduceSub, Int.reduceToNat, s33, zc64, fo77_2, sh22, fo77_3, sh3, sz3, sz22, Try.underlying3, sd64, pl64_0, sz64, Try.underlying22, zc41, sd41, pl41_1, pl64_1, fo77_4, sh75, sz41, fo41_0, sh41, sh64, hk, z1]
    exact ⟨rfl, nok' _ _ rfl rfl rfl⟩
  have z1 : (((n' : Nat) : Int) = 0) = False := eq_false (by omega)
  have z2 : IntKind.u64.wrap (n' : Int) = n' := by rw [wrap_u64]; omega
  have z3 : ((a : Int) % n') = ((a % n' : Nat) : Int) := by omega
  by_cases hal : a % n' = 0
  case neg =>
    have z4 : (((a % n' : Nat) : Int) = 0) = False := eq_false (by omega)
    have est : stepR n' op o1 o2 ha hn a x (sxN old n') (nxN o) = ⟨0, 0, 0, 5, 0, a, none⟩ := by unfold stepR; rw [if_neg hz, if_pos hal]
    rw [est]
    simp -implicitDefEqProofs (disch := first | omega | (simp only [h_szP, h_szS]; done) | (simp only [h_szP, h_szS]; omega)) only [go_sem, Nat.reduceBEq, reduceCtorEq, Nat.reduceAdd, Int.reduceEq, Int.reduceLT, Int.reduceLE, Int.reduceMul, Int.reduceAdd, Int.reduceSub, reduceIte, Nat.reduceLeDiff, Nat.reduceLT, Nat.reduceMul, Nat.reduceSub, Int.reduceToNat, s33, zc64, fo77_2, sh22, fo77_3, sh3, sz3, sz22, Try.underlying3, sd64, pl64_0, sz64, Try.underlying22, zc41, sd41, pl41_1, pl64_1, fo77_4, sh75, sz41, fo41_0, sh41, sh64, hk, z1, z2, z3, z4]
    exact ⟨rfl, nok' _ _ rfl rfl rfl⟩
  have z4 : (((a % n' : Nat) : Int) = 0) = True := eq_true (by omega)
  have hn4 : n' = 4 ∨ n' = 8 := by omega
  by_cases hsc : scOp op
  · have z5 : ((op = 64) = True) ∨ ((op = 64) = False ∧ (op = 75) = True) := by
      rcases hsc with e | e
      · exact .inl (eq_true e)
      · exact .inr ⟨eq_false (by omega), eq_true e⟩
    have est : stepR n' op o1 o2 ha hn a x (sxN old n') (nxN o) = stepC n' o1 ha hn a x := by unfold stepR; rw [if_neg hz, if_neg (by omega), if_pos hsc]
    rw [est]
    rcases z5 with z5 | ⟨z5, z6⟩
    · simp -implicitDefEqProofs (disch := first | omega | (simp only [h_szP, h_szS]; done) | (simp only [h_szP, h_szS]; omega)) only [go_sem, Nat.reduceBEq, reduceCtorEq, Nat.reduceAdd, Int.reduceEq, Int.reduceLT, Int.reduceLE, Int.reduceMul, Int.reduceAdd, Int.reduceSub, reduceIte, Nat.reduceLeDiff, Nat.reduceLT, Nat.reduceMul, Nat.reduceSub, Int.reduceToNat, s33, zc64, fo77_2, sh22, fo77_3, sh3, sz3, sz22, Try.underlying3, sd64, pl64_0, sz64, Try.underlying22, zc41, sd41, pl41_1, pl64_1, fo77_4, sh75, sz41, fo41_0, sh41, sh64, hk, z1, z2, z3, z4, z5]
      rw [← e0]
      cases o1 with
      | some b =>
        refine FnK.use (rprobe_c r0 a n' (some b) ha1 hn4 F1) ?_
        intro y h1 ⟨e1, K1⟩
        have hS1 := K1.at hS0 (by omega)
        have hl1 := getElem?_lt hS1
        rw [e1]
        unfold fltO fltA
        simp -implicitDefEqProofs (disch := first | omega | (simp only [h_szP, h_szS]; done) | (simp only [h_szP, h_szS]; omega)) only [go_sem, Nat.reduceBEq, reduceCtorEq, Nat.reduceAdd, Int.reduceEq, Int.reduceLT, Int.reduceLE, Int.reduceMul, Int.reduceAdd, Int.reduceSub, reduceIte, Nat.reduceLeDiff, Nat.reduceLT, Nat.reduceMul, Nat.reduceSub, Int.reduceToNat, s33, zc64, fo77_2, sh22, fo77_3, sh3, sz3, sz22, Try.underlying3, sd64, pl64_0, sz64, Try.underlying22, zc41, sd41, pl41_1, pl64_1, fo77_4, sh75, sz41, fo41_0, sh41, sh64, hS1]
        exact ⟨rfl, nok _ _ (((K1.le (by omega)).set' (Nat.le_refl _)).push' (by omega)) rfl rfl rfl⟩
      | none =>
        refine FnK.use (rprobe_c r0 a n' none ha1 hn4 F1) ?_
        intro y h1 ⟨e1, K1⟩
        have hS1 := K1.at hS0 (by omega)
        have hk1 := K1.at hk0 hkl0
        have hl1 := getElem?_lt hS1
        rw [e1]
        unfold fltO fltA
        by_cases hh : ha = a ∧ hn = n'
        · have d1 : ((hn : Int) = n') = True := eq_true (by omega)
          have d2 : ((ha : Int) = a) = True := eq_true (by omega)
          have esc : stepC n' none ha hn a x = ⟨0, 0, 0, 0, 0, 0, some x⟩ := by unfold stepC; simp only; rw [if_pos hh]
          rw [esc]
          have r1 := (r0.ext K1).ext (Keeps.push h1 (.cells #[.int .i64 0, .int .u64 0] 41) (Nat.le_refl _))
          simp -implicitDefEqProofs (disch := first | omega | (simp only [h_szP, h_szS]; done) | (simp only [h_szP, h_szS]; omega)) only [go_sem, Nat.reduceBEq, reduceCtorEq, Nat.reduceAdd, Int.reduceEq, Int.reduceLT, Int.reduceLE, Int.reduceMul, Int.reduceAdd, Int.reduceSub, reduceIte, Nat.reduceLeDiff, Nat.reduceLT, Nat.reduceMul, Nat.reduceSub, Int.reduceToNat, s33, zc64, fo77_2, sh22, fo77_3, sh3, sz3, sz22, Try.underlying3, sd64, pl64_0, sz64, Try.underlying22, zc41, sd41, pl41_1, pl64_1, fo77_4, sh75, sz41, fo41_0, sh41, sh64, hS1, d1, d2, hk1]
          refine FnK.use (rstore_c r1 a n' x none ha1 hx hn4 F1) ?_
          intro y h2 ⟨e2, r2, sz2, old2⟩
          have nfS : ¬ rfoot sp pv ps h.size := fun f => by have := r.R.lt f; omega
          have hS2 : h2[h.size]? = some (.cells #[.int .i64 0, .int .i64 0, .int .u64 0] 64 (0, 0)) := by
            rw [old2 _ (by simp; omega) nfS, h_pushL _ _ _ hl1]; exact hS1
          have hl2 := getElem?_lt hS2
          have oldA : ∀ b, b < h.size → ¬ rfoot sp pv ps b → h2[b]? = h0[b]? := fun b hb f => by
            rw [old2 b (by simp; omega) f, h_pushL _ _ _ (by omega), K1.old b (by omega)]
          rw [e2]
          simp -implicitDefEqProofs (disch := first | omega | (simp only [h_szP, h_szS]; done) | (simp only [h_szP, h_szS]; omega)) only [go_sem, Nat.reduceBEq, reduceCtorEq, Nat.reduceAdd, Int.reduceEq, Int.reduceLT, Int.reduceLE, Int.reduceMul, Int.reduceAdd, Int.reduceSub, reduceIte, Nat.reduceLeDiff, Nat.reduceLT, Nat.reduceMul, Nat.reduceSub, Int.reduceToNat, s33, zc64, fo77_2, sh22, fo77_3, sh3, sz3, sz22, Try.underlying3, sd64, pl64_0, sz64, Try.underlying22, zc41, sd41, pl41_1, pl64_1, fo77_4, sh75, sz41, fo41_0, sh41, sh64, hS2]
          refine ⟨rfl, aftS h2 _ ⟨0, 0, 0, 0, 0, 0, some x⟩ r2 oldA (fun b hb q => h_setN _ _ _ _ (by omega)) (by simp; omega) ?_⟩
          rw [h_setN _ _ _ _ (by omega), oldA k hkl nk, hk0']; rfl
        · have esc : stepC n' none ha hn a x = ⟨1, 0, 0, 0, 0, 0, none⟩ := by unfold stepC; simp only; rw [if_neg hh]
          by_cases hh2 : hn = n'
          · have d1 : ((hn : Int) = n') = True := eq_true (by omega)
            have d2 : ((ha : Int) = a) = False := eq_false (by omega)
            simp -implicitDefEqProofs (disch := first | omega | (simp only [h_szP, h_szS]; done) | (simp only [h_szP, h_szS]; omega)) only [go_sem, Nat.reduceBEq, reduceCtorEq, Nat.reduceAdd, Int.reduceEq, Int.reduceLT, Int.reduceLE, Int.reduceMul, Int.reduceAdd, Int.reduceSub, reduceIte, Nat.reduceLeDiff, Nat.reduceLT, Nat.reduceMul, Nat.reduceSub, Int.reduceToNat, s33, zc64, fo77_2, sh22, fo77_3, sh3, sz3, sz22, Try.underlying3, sd64, pl64_0, sz64, Try.underlying22, zc41, sd41, pl41_1, pl64_1, fo77_4, sh75, sz41, fo41_0, sh41, sh64, hS1, d1, d2, hk1]
            rw [esc]
            exact ⟨rfl, nok _ _ (((K1.le (by omega)).set' (Nat.le_refl _)).push' (by omega)) rfl rfl rfl⟩
          · have d1 : ((hn : Int) = n') = False := eq_false (by omega)
            simp -implicitDefEqProofs (disch := first | omega | (simp only [h_szP, h_szS]; done) | (simp only [h_szP, h_szS]; omega)) only [go_sem, Nat.reduceBEq, reduceCtorEq, Nat.reduceAdd, Int.reduceEq, Int.reduceLT, Int.reduceLE, Int.reduceMul, Int.reduceAdd, Int.reduceSub, reduceIte, Nat.reduceLeDiff, Nat.reduceLT, Nat.reduceMul, Nat.reduceSub, Int.reduceToNat, s33, zc64, fo77_2, sh22, fo77_3, sh3, sz3, sz22, Try.underlying3, sd64, pl64_0, sz64, Try.underlying22, zc41, sd41, pl41_1, pl64_1, fo77_4, sh75, sz41, fo41_0, sh41, sh64, hS1, d1, hk1]
            rw [esc]
            exact ⟨rfl, nok _ _ (((K1.le (by omega)).set' (Nat.le_refl _)).push' (by omega)) rfl rfl rfl⟩
    · simp -implicitDefEqProofs (disch := first | omega | (simp only [h_szP, h_szS]; done) | (simp only [h_szP, h_szS]; omega)) only [go_sem, Nat.reduceBEq, reduceCtorEq, Nat.reduceAdd, Int.reduceEq, Int.reduceLT, Int.reduceLE, Int.reduceMul, Int.reduceAdd, Int.reduceSub, reduceIte, Nat.reduceLeDiff, Nat.reduceLT, Nat.reduceMul, Nat.reduceSub, Int.reduceToNat, s33, zc64, fo77_2, sh22, fo77_3, sh3, sz3, sz22, Try.underlying3, sd64, pl64_0, sz64, Try.underlying22, zc41, sd41, pl41_1, pl64_1, fo77_4, sh75, sz41, fo41_0, sh41, sh64, hk, z1, z2, z3, z4, z5, z6]
      rw [← e0]
      cases o1 with
      | some b =>
        refine FnK.use (rprobe_c r0 a n' (some b) ha1 hn4 F1) ?_
        intro y h1 ⟨e1, K1⟩
        have hS1 := K1.at hS0 (by omega)
        have hl1 := getElem?_lt hS1
        rw [e1]
        unfold fltO fltA
        simp -implicitDefEqProofs (disch := first | omega | (simp only [h_szP, h_szS]; done) | (simp only [h_szP, h_szS]; omega)) only [go_sem, Nat.reduceBEq, reduceCtorEq, Nat.reduceAdd, Int.reduceEq, Int.reduceLT, Int.reduceLE, Int.reduceMul, Int.reduceAdd, Int.reduceSub, reduceIte, Nat.reduceLeDiff, Nat.reduceLT, Nat.reduceMul, Nat.reduceSub, Int.reduceToNat, s33, zc64, fo77_2, sh22, fo77_3, sh3, sz3, sz22, Try.underlying3, sd64, pl64_0, sz64, Try.underlying22, zc41, sd41, pl41_1, pl64_1, fo77_4, sh75, sz41, fo41_0, sh41, sh64, hS1]
        exact ⟨rfl, nok _ _ (((K1.le (by omega)).set' (Nat.le_refl _)).push' (by omega)) rfl rfl rfl⟩
      | none =>
        refine FnK.use (rprobe_c r0 a n' none ha1 hn4 F1) ?_
        intro y h1 ⟨e1, K1⟩
        have hS1 := K1.at hS0 (by omega)
        have hk1 := K1.at hk0 hkl0
        have hl1 := getElem?_lt hS1
        rw [e1]
        unfold fltO fltA
        by_cases hh : ha = a ∧ hn = n'
        · have d1 : ((hn : Int) = n') = True := eq_true (by omega)
          have d2 : ((ha : Int) = a) = True := eq_true (by omega)
          have esc : stepC n' none ha hn a x = ⟨0, 0, 0, 0, 0, 0, some x⟩ := by unfold stepC; simp only; rw [if_pos hh]
          rw [esc]
          have r1 := (r0.ext K1).ext (Keeps.push h1 (.cells #[.int .i64 0, .int .u64 0] 41) (Nat.le_refl _))
          simp -implicitDefEqProofs (disch := first | omega | (simp only [h_szP, h_szS]; done) | (simp only [h_szP, h_szS]; omega)) only [go_sem, Nat.reduceBEq, reduceCtorEq, Nat.reduceAdd, Int.reduceEq, Int.reduceLT, Int.reduceLE, Int.reduceMul, Int.reduceAdd, Int.reduceSub, reduceIte, Nat.reduceLeDiff, Nat.reduceLT, Nat.reduceMul, Nat.reduceSub, Int.reduceToNat, s33, zc64, fo77_2, sh22, fo77_3, sh3, sz3, sz22, Try.underlying3, sd64, pl64_0, sz64, Try.underlying22, zc41, sd41, pl41_1, pl64_1, fo77_4, sh75, sz41, fo41_0, sh41, sh64, hS1, d1, d2, hk1]
          refine FnK.use (rstore_c r1 a n' x none ha1 hx hn4 F1) ?_
          intro y h2 ⟨e2, r2, sz2, old2⟩
          have nfS : ¬ rfoot sp pv ps h.size := fun f => by have := r.R.lt f; omega
          have hS2 : h2[h.size]? = some (.cells #[.int .i64 0, .int .i64 0, .int .u64 0] 64 (0, 0)) := by
            rw [old2 _ (by simp; omega) nfS, h_pushL _ _ _ hl1]; exact hS1
          have hl2 := getElem?_lt hS2
          have oldA : ∀ b, b < h.size → ¬ rfoot sp pv ps b → h2[b]? = h0[b]? := fun b hb f => by
            rw [old2 b (by simp; omega) f, h_pushL _ _ _ (by omega), K1.old b (by omega)]
          rw [e2]
          simp -implicitDefEqProofs (disch := first | omega | (simp only [h_szP, h_szS]; done) | (simp only [h_szP, h_szS]; omega)) only [go_sem, Nat.reduceBEq, reduceCtorEq, Nat.reduceAdd, Int.reduceEq, Int.reduceLT, Int.reduceLE, Int.reduceMul, Int.reduceAdd, Int.reduceSub, reduceIte, Nat.reduceLeDiff, Nat.reduceLT, Nat.reduceMul, Nat.reduceSub, Int.reduceToNat, s33, zc64, fo77_2, sh22, fo77_3, sh3, sz3, sz22, Try.underlying3, sd64, pl64_0, sz64, Try.underlying22, zc41, sd41, pl41_1, pl64_1, fo77_4, sh75, sz41, fo41_0, sh41, sh64, hS2]
          refine ⟨rfl, aftS h2 _ ⟨0, 0, 0, 0, 0, 0, some x⟩ r2 oldA (fun b hb q => h_setN _ _ _ _ (by omega)) (by simp; omega) ?_⟩
          rw [h_setN _ _ _ _ (by omega), oldA k hkl nk, hk0']; rfl
        · have esc : stepC n' none ha hn a x = ⟨1, 0, 0, 0, 0, 0, none⟩ := by unfold stepC; simp only; rw [if_neg hh]
          by_cases hh2 : hn = n'
          · have d1 : ((hn : Int) = n') = True := eq_true (by omega)
            have d2 : ((ha : Int) = a) = False := eq_false (by omega)
            simp -implicitDefEqProofs (disch := first | omega | (simp only [h_szP, h_szS]; done) | (simp only [h_szP, h_szS]; omega)) only [go_sem, Nat.reduceBEq, reduceCtorEq, Nat.reduceAdd, Int.reduceEq, Int.reduceLT, Int.reduceLE, Int.reduceMul, Int.reduceAdd, Int.reduceSub, reduceIte, Nat.reduceLeDiff, Nat.reduceLT, Nat.reduceMul, Nat.reduceSub, Int.reduceToNat, s33, zc64, fo77_2, sh22, fo77_3, sh3, sz3, sz22, Try.underlying3, sd64, pl64_0, sz64, Try.underlying22, zc41, sd41, pl41_1, pl64_1, fo77_4, sh75, sz41, fo41_0, sh41, sh64, hS1, d1, d2, hk1]
            rw [esc]
            exact ⟨rfl, nok _ _ (((K1.le (by omega)).set' (Nat.le_refl _)).push' (by omega)) rfl rfl rfl⟩
          · have d1 : ((hn : Int) = n') = False := eq_false (by omega)
            simp -implicitDefEqProofs (disch := first | omega | (simp only [h_szP, h_szS]; done) | (simp only [h_szP, h_szS]; omega)) only [go_sem, Nat.reduceBEq, reduceCtorEq, Nat.reduceAdd, Int.reduceEq, Int.reduceLT, Int.reduceLE, Int.reduceMul, Int.reduceAdd, Int.reduceSub, reduceIte, Nat.reduceLeDiff, Nat.reduceLT, Nat.reduceMul, Nat.reduceSub, Int.reduceToNat, s33, zc64, fo77_2, sh22, fo77_3, sh3, sz3, sz22, Try.underlying3, sd64, pl64_0, sz64, Try.underlying22, zc41, sd41, pl41_1, pl64_1, fo77_4, sh75, sz41, fo41_0, sh41, sh64, hS1, d1, hk1]
            rw [esc]
            exact ⟨rfl, nok _ _ (((K1.le (by omega)).set' (Nat.le_refl _)).push' (by omega)) rfl rfl rfl⟩
  have hne : op ≠ 64 ∧ op ≠ 75 := ⟨fun e => hsc (.inl e), fun e => hsc (.inr e)⟩
  have z5 : (op = 64) = False := eq_false hne.1
  have z6 : (op = 75) = False := eq_false hne.2
  cases o2 with
  | some b =>
    have est : stepR n' op o1 (some b) ha hn a x (sxN old n') (nxN o) = ⟨0, 0, 0, 4, 1, b, none⟩ := by unfold stepR; rw [if_neg hz, if_neg (by omega), if_neg hsc]
    rw [est]
    simp -implicitDefEqProofs (disch := first | omega | (simp only [h_szP, h_szS]; done) | (simp only [h_szP, h_szS]; omega)) only [go_sem, Nat.reduceBEq, reduceCtorEq, Nat.reduceAdd, Int.reduceEq, Int.reduceLT, Int.reduceLE, Int.reduceMul, Int.reduceAdd, Int.reduceSub, reduceIte, Nat.reduceLeDiff, Nat.reduceLT, Nat.reduceMul, Nat.reduceSub, Int.reduceToNat, s33, zc64, fo77_2, sh22, fo77_3, sh3, sz3, sz22, Try.underlying3, sd64, pl64_0, sz64, Try.underlying22, zc41, sd41, pl41_1, pl64_1, fo77_4, sh75, sz41, fo41_0, sh41, sh64, hk, z1, z2, z3, z4, z5, z6]
    rw [← e0]
    refine FnK.use (rload_c r0 a n' (some b) ha1 hn4 F2) ?_
    intro y h1 ⟨e1, K1⟩
    have hS1 := K1.at hS0 (by omega)
    have hl1 := getElem?_lt hS1
    rw [e1]
    unfold fltO fltA oldO
    simp -implicitDefEqProofs (disch := first | omega | (simp only [h_szP, h_szS]; done) | (simp only [h_szP, h_szS]; omega)) only [go_sem, Nat.reduceBEq, reduceCtorEq, Nat.reduceAdd, Int.reduceEq, Int.reduceLT, Int.reduceLE, Int.reduceMul, Int.reduceAdd, Int.reduceSub, reduceIte, Nat.reduceLeDiff, Nat.reduceLT, Nat.reduceMul, Nat.reduceSub, Int.reduceToNat, s33, zc64, fo77_2, sh22, fo77_3, sh3, sz3, sz22, Try.underlying3, sd64, pl64_0, sz64, Try.underlying22, zc41, sd41, pl41_1, pl64_1, fo77_4, sh75, sz41, fo41_0, sh41, sh64, hS1]
    exact ⟨rfl, nok _ _ (((K1.le (by omega)).set' (Nat.le_refl _)).push' (by omega)) rfl rfl rfl⟩
  | none =>
  have hol : old < 18446744073709551616 := by
    have := le_lt ((List.range n').map fun i => C (a + i)) (fun b hb => by
      simp only [List.mem_map] at hb
      obtain ⟨i, _, rfl⟩ := hb
      exact r.hC _)
    rw [List.length_map, List.length_range, ← hold] at this
    rcases hn4 with e | e
    · rw [e] at this; have : 256 ^ 4 ≤ 18446744073709551616 := by decide
      omega
    · rw [e] at this; have : 256 ^ 8 = 18446744073709551616 := by decide
      omega
  have z8 : (8 : Int) * n' = ((8 * n' : Nat) : Int) := by omega
  obtain ⟨sv, hsv⟩ : ∃ sv, sv = sxN old n' := ⟨_, rfl⟩
  have hsx : ∀ h : Heap, Fn Try.prog 32 [.int .u64 old, .int .i64 (8 * n' : Nat)] h fun v h' => v = .int .u64 sv ∧ h' = h := by rw [hsv]; exact rsextN_c old n' hn4 hol
  rw [← hsv]
  have load := rload_c r0 a n' none ha1 hn4 F2
  simp only [fltO, fltA, oldO] at load
  rw [← hold] at load
  by_cases hlr : lrOp op
  · have est : stepR n' op o1 none ha hn a x sv (nxN o) = ⟨sv, a, n', 0, 0, 0, none⟩ := by unfold stepR; rw [if_neg hz, if_neg (by omega), if_neg hsc]; simp only; rw [if_pos hlr]
    rw [est]
    have z7 : ((op = 63) = True) ∨ ((op = 63) = False ∧ (op = 74) = True) := by
      rcases hlr with e | e
      · exact .inl (eq_true e)
      · exact .inr ⟨eq_false (by omega), eq_true e⟩
    rcases z7 with z7 | ⟨z7, z9⟩
    · simp -implicitDefEqProofs (disch := first | omega | (simp only [h_szP, h_szS]; done) | (simp only [h_szP, h_szS]; omega)) only [go_sem, Nat.reduceBEq, reduceCtorEq, Nat.reduceAdd, Int.reduceEq, Int.reduceLT, Int.reduceLE, Int.reduceMul, Int.reduceAdd, Int.reduceSub, reduceIte, Nat.reduceLeDiff, Nat.reduceLT, Nat.reduceMul, Nat.reduceSub, Int.reduceToNat, s33, zc64, fo77_2, sh22, fo77_3, sh3, sz3, sz22, Try.underlying3, sd64, pl64_0, sz64, Try.underlying22, zc41, sd41, pl41_1, pl64_1, fo77_4, sh75, sz41, fo41_0, sh41, sh64, hk, z1, z2, z3, z4, z5, z6]
      rw [← e0]
      refine FnK.use load ?_
      intro y h1 ⟨e1, K1⟩
      have hS1 := K1.at hS0 (by omega)
      have hk1 := K1.at hk0 hkl0
      have hl1 := getElem?_lt hS1
      have hl2 := getElem?_lt hk1
      rw [e1]
      simp -implicitDefEqProofs (disch := first | omega | (simp only [h_szP, h_szS]; done) | (simp only [h_szP, h_szS]; omega)) only [go_sem, Nat.reduceBEq, reduceCtorEq, Nat.reduceAdd, Int.reduceEq, Int.reduceLT, Int.reduceLE, Int.reduceMul, Int.reduceAdd, Int.reduceSub, reduceIte, Nat.reduceLeDiff, Nat.reduceLT, Nat.reduceMul, Nat.reduceSub, Int.reduceToNat, s33, zc64, fo77_2, sh22, fo77_3, sh3, sz3, sz22, Try.underlying3, sd64, pl64_0, sz64, Try.underlying22, zc41, sd41, pl41_1, pl64_1, fo77_4, sh75, sz41, fo41_0, sh41, sh64, hS1, hk1, z7, z8]
      refine FnK.val (hsx _) ?_
      simp -implicitDefEqProofs (disch := first | omega | (simp only [h_szP, h_szS]; done) | (simp only [h_szP, h_szS]; omega)) only [go_sem, Nat.reduceBEq, reduceCtorEq, Nat.reduceAdd, Int.reduceEq, Int.reduceLT, Int.reduceLE, Int.reduceMul, Int.reduceAdd, Int.reduceSub, reduceIte, Nat.reduceLeDiff, Nat.reduceLT, Nat.reduceMul, Nat.reduceSub, Int.reduceToNat, s33, zc64, fo77_2, sh22, fo77_3, sh3, sz3, sz22, Try.underlying3, sd64, pl64_0, sz64, Try.underlying22, zc41, sd41, pl41_1, pl64_1, fo77_4, sh75, sz41, fo41_0, sh41, sh64, hS1, hk1]
      refine ⟨rfl, Aft.of r rfl nk ?_ ?_ ?_⟩
      · rw [h_pushL _ _ _ (by simp; omega), h_setN _ _ _ _ (by omega), h_setS _ _ _ hl2]; rfl
      · have := K1.size; simp; omega
      · exact fun b hb q => by rw [h_pushL _ _ _ (by simp; omega), h_setN _ _ _ _ (by omega), h_setN _ _ _ _ q, K1.old b (by omega), o0 b hb q]
    · simp -implicitDefEqProofs (disch := first | omega | (simp only [h_szP, h_szS]; done) | (simp only [h_szP, h_szS]; omega)) only [go_sem, Nat.reduceBEq, reduceCtorEq, Nat.reduceAdd, Int.reduceEq, Int.reduceLT, Int.reduceLE, Int.reduceMul, Int.reduceAdd, Int.reduceSub, reduceIte, Nat.reduceLeDiff, Nat.reduceLT, Nat.reduceMul, Nat.reduceSub, Int.reduceToNat, s33, zc64, fo77_2, sh22, fo77_3, sh3, sz3, sz22, Try.underlying3, sd64, pl64_0, sz64, Try.underlying22, zc41, sd41, pl41_1, pl64_1, fo77_4, sh75, sz41, fo41_0, sh41, sh64, hk, z1, z2, z3, z4, z5, z6]
      rw [← e0]
      refine FnK.use load ?_
      intro y h1 ⟨e1, K1⟩
      have hS1 := K1.at hS0 (by omega)
      have hk1 := K1.at hk0 hkl0
      have hl1 := getElem?_lt hS1
      have hl2 := getElem?_lt hk1
      rw [e1]
      simp -implicitDefEqProofs (disch := first | omega | (simp only [h_szP, h_szS]; done) | (simp only [h_szP, h_szS]; omega)) only [go_sem, Nat.reduceBEq, reduceCtorEq, Nat.reduceAdd, Int.reduceEq, Int.reduceLT, Int.reduceLE, Int.reduceMul, Int.reduceAdd, Int.reduceSub, reduceIte, Nat.reduceLeDiff, Nat.reduceLT, Nat.reduceMul, Nat.reduceSub, Int.reduceToNat, s33, zc64, fo77_2, sh22, fo77_3, sh3, sz3, sz22, Try.underlying3, sd64, pl64_0, sz64, Try.underlying22, zc41, sd41, pl41_1, pl64_1, fo77_4, sh75, sz41, fo41_0, sh41, sh64, hS1, hk1, z7, z9, z8]
      refine FnK.val (hsx _) ?_
      simp -implicitDefEqProofs (disch := first | omega | (simp only [h_szP, h_szS]; done) | (simp only [h_szP, h_szS]; omega)) only [go_sem, Nat.reduceBEq, reduceCtorEq, Nat.reduceAdd, Int.reduceEq, Int.reduceLT, Int.reduceLE, Int.reduceMul, Int.reduceAdd, Int.reduceSub, reduceIte, Nat.reduceLeDiff, Nat.reduceLT, Nat.reduceMul, Nat.reduceSub, Int.reduceToNat, s33, zc64, fo77_2, sh22, fo77_3, sh3, sz3, sz22, Try.underlying3, sd64, pl64_0, sz64, Try.underlying22, zc41, sd41, pl41_1, pl64_1, fo77_4, sh75, sz41, fo41_0, sh41, sh64, hS1, hk1]
      refine ⟨rfl, Aft.of r rfl nk ?_ ?_ ?_⟩
      · rw [h_pushL _ _ _ (by simp; omega), h_setN _ _ _ _ (by omega), h_setS _ _ _ hl2]; rfl
      · have := K1.size; simp; omega
      · exact fun b hb q => by rw [h_pushL _ _ _ (by simp; omega), h_setN _ _ _ _ (by omega), h_setN _ _ _ _ q, K1.old b (by omega), o0 b hb q]
  have z7 : (op = 63) = False := eq_false (fun e => hlr (.inl e))
  have z9 : (op = 74) = False := eq_false (fun e => hlr (.inr e))
  obtain ⟨db, hdb⟩ := told_nx o
  obtain ⟨nx, hnx⟩ : ∃ nx, nx = nxN o := ⟨_, rfl⟩
  have hnl : nx < 18446744073709551616 := by
    rw [hnx]; unfold nxN
    cases o with
    | none => simp
    | some y => exact y.isLt
  rw [← hnx] at hdb ⊢
  have hdo2 : ∀ h : Heap, Fn Try.prog 12 [.int .i64 op, .int .u64 old, .int .u64 x] h fun v h' => v = .tuple #[.int .u64 nx, .bool db] ∧ Keeps h.size h h' := fun h => by rw [← hdb]; exact hdo h
  have est : ∀ o1, stepR n' op o1 none ha hn a x sv nx = match o1 with | some b => ⟨0, 0, 0, 4, 2, b, none⟩ | none => ⟨sv, ha, hn, 0, 0, 0, some nx⟩ := fun o1 => by unfold stepR; rw [if_neg hz, if_neg (by omega), if_neg hsc]; simp only; rw [if_neg hlr]; cases o1 <;> rfl
  rw [est]
  have walk : ∀ o1, FirstN rs a n' 2 o1 → True := fun _ _ => trivial
  cases o1 with
  | some b =>
    simp only
    simp -implicitDefEqProofs (disch := first | omega | (simp only [h_szP, h_szS]; done) | (simp only [h_szP, h_szS]; omega)) only [go_sem, Nat.reduceBEq, reduceCtorEq, Nat.reduceAdd, Int.reduceEq, Int.reduceLT, Int.reduceLE, Int.reduceMul, Int.reduceAdd, Int.reduceSub, reduceIte, Nat.reduceLeDiff, Nat.reduceLT, Nat.reduceMul, Nat.reduceSub, Int.reduceToNat, s33, zc64, fo77_2, sh22, fo77_3, sh3, sz3, sz22, Try.underlying3, sd64, pl64_0, sz64, Try.underlying22, zc41, sd41, pl41_1, pl64_1, fo77_4, sh75, sz41, fo41_0, sh41, sh64, hk, z1, z2, z3, z4, z5, z6]
    rw [← e0]
    refine FnK.use load ?_
    intro y h1 ⟨e1, K1⟩
    have hS1 := K1.at hS0 (by omega)
    have hk1 := K1.at hk0 hkl0
    have hl1 := getElem?_lt hS1
    rw [e1]
    simp -implicitDefEqProofs (disch := first | omega | (simp only [h_szP, h_szS]; done) | (simp only [h_szP, h_szS]; omega)) only [go_sem, Nat.reduceBEq, reduceCtorEq, Nat.reduceAdd, Int.reduceEq, Int.reduceLT, Int.reduceLE, Int.reduceMul, Int.reduceAdd, Int.reduceSub, reduceIte, Nat.reduceLeDiff, Nat.reduceLT, Nat.reduceMul, Nat.reduceSub, Int.reduceToNat, s33, zc64, fo77_2, sh22, fo77_3, sh3, sz3, sz22, Try.underlying3, sd64, pl64_0, sz64, Try.underlying22, zc41, sd41, pl41_1, pl64_1, fo77_4, sh75, sz41, fo41_0, sh41, sh64, hS1, hk1, z7, z9, z8]
    refine FnK.use (hdo2 _) ?_
    intro y h2 ⟨e2, K2⟩
    have hS2 := K2.at (b := h.size) (by rw [h_pushL _ _ _ hl1]; exact hS1) (by simp; omega)
    have hk2 := K2.at (b := k) (by rw [h_pushL _ _ _ (by omega)]; exact hk1) (by simp; omega)
    have hF2 := K2.at (h_pushE h1 (.cells #[.int .i64 0, .int .u64 0] 41) h1.size rfl) (by simp)
    have r2 := ((r0.ext K1).ext (Keeps.push h1 (.cells #[.int .i64 0, .int .u64 0] 41) (Nat.le_refl _))).ext K2
    have sK1 := K1.size
    have sK2 := K2.size
    simp only [Array.size_push] at sK2
    rw [e2]
    simp -implicitDefEqProofs (disch := first | omega | (simp only [h_szP, h_szS]; done) | (simp only [h_szP, h_szS]; omega)) only [go_sem, Nat.reduceBEq, reduceCtorEq, Nat.reduceAdd, Int.reduceEq, Int.reduceLT, Int.reduceLE, Int.reduceMul, Int.reduceAdd, Int.reduceSub, reduceIte, Nat.reduceLeDiff, Nat.reduceLT, Nat.reduceMul, Nat.reduceSub, Int.reduceToNat, s33, zc64, fo77_2, sh22, fo77_3, sh3, sz3, sz22, Try.underlying3, sd64, pl64_0, sz64, Try.underlying22, zc41, sd41, pl41_1, pl64_1, fo77_4, sh75, sz41, fo41_0, sh41, sh64, hS2, hk2]
    refine FnK.use (rstore_c r2 a n' nx (some b) ha1 hnl hn4 F1) ?_
    intro y h3 ⟨e3, r3, sz3, old3⟩
    have nf1 : ∀ j, h.size ≤ j → ¬ rfoot sp pv ps j := fun j hj f => by have := r.R.lt f; omega
    have hS3 : h3[h.size]? = some (.cells #[.int .i64 0, .int .i64 0, .int .u64 0] 64 (0, 0)) := by rw [old3 _ (by omega) (nf1 _ (Nat.le_refl _))]; exact hS2
    have hF3 : h3[h1.size]? = some (.cells #[.int .i64 0, .int .u64 0] 41 (0, 0)) := by rw [old3 _ (by omega) (nf1 _ (by omega))]; exact hF2
    have hk3 := old3 k (by omega) nk
    rw [hk2] at hk3
    have m1 := getElem?_lt hS3
    have m2 := getElem?_lt hF3
    have m3 := getElem?_lt hk3
    have oldA : ∀ b, b < h.size → ¬ rfoot sp pv ps b → h3[b]? = h0[b]? := fun b hb f => by
      rw [old3 b (by omega) f, K2.old b (by simp; omega), h_pushL _ _ _ (by omega), K1.old b (by omega)]
    rw [e3]
    unfold fltO fltA
    simp -implicitDefEqProofs (disch := first | omega | (simp only [h_szP, h_szS]; done) | (simp only [h_szP, h_szS]; omega)) only [go_sem, Nat.reduceBEq, reduceCtorEq, Nat.reduceAdd, Int.reduceEq, Int.reduceLT, Int.reduceLE, Int.reduceMul, Int.reduceAdd, Int.reduceSub, reduceIte, Nat.reduceLeDiff, Nat.reduceLT, Nat.reduceMul, Nat.reduceSub, Int.reduceToNat, s33, zc64, fo77_2, sh22, fo77_3, sh3, sz3, sz22, Try.underlying3, sd64, pl64_0, sz64, Try.underlying22, zc41, sd41, pl41_1, pl64_1, fo77_4, sh75, sz41, fo41_0, sh41, sh64, hS3, hF3, hk3, z8]
    refine ⟨rfl, aftS h3 _ ⟨0, 0, 0, 4, 2, b, none⟩ r3 oldA ?_ ?_ ?_⟩
    · exact fun b hb q => by rw [h_setN _ _ _ _ (by omega), h_setN _ _ _ _ (by omega)]
    · simp; omega
    · rw [h_setN _ _ _ _ (by omega), h_setN _ _ _ _ (by omega), oldA k hkl nk, hk0', hartZ_eq]
  | none =>
    simp only
    simp -implicitDefEqProofs (disch := first | omega | (simp only [h_szP, h_szS]; done) | (simp only [h_szP, h_szS]; omega)) only [go_sem, Nat.reduceBEq, reduceCtorEq, Nat.reduceAdd, Int.reduceEq, Int.reduceLT, Int.reduceLE, Int.reduceMul, Int.reduceAdd, Int.reduceSub, reduceIte, Nat.reduceLeDiff, Nat.reduceLT, Nat.reduceMul, Nat.reduceSub, Int.reduceToNat, s33, zc64, fo77_2, sh22, fo77_3, sh3, sz3, sz22, Try.underlying3, sd64, pl64_0, sz64, Try.underlying22, zc41, sd41, pl41_1, pl64_1, fo77_4, sh75, sz41, fo41_0, sh41, sh64, hk, z1, z2, z3, z4, z5, z6]
    rw [← e0]
    refine FnK.use load ?_
    intro y h1 ⟨e1, K1⟩
    have hS1 := K1.at hS0 (by omega)
    have hk1 := K1.at hk0 hkl0
    have hl1 := getElem?_lt hS1
    rw [e1]
    simp -implicitDefEqProofs (disch := first | omega | (simp only [h_szP, h_szS]; done) | (simp only [h_szP, h_szS]; omega)) only [go_sem, Nat.reduceBEq, reduceCtorEq, Nat.reduceAdd, Int.reduceEq, Int.reduceLT, Int.reduceLE, Int.reduceMul, Int.reduceAdd, Int.reduceSub, reduceIte, Nat.reduceLeDiff, Nat.reduceLT, Nat.reduceMul, Nat.reduceSub, Int.reduceToNat, s33, zc64, fo77_2, sh22, fo77_3, sh3, sz3, sz22, Try.underlying3, sd64, pl64_0, sz64, Try.underlying22, zc41, sd41, pl41_1, pl64_1, fo77_4, sh75, sz41, fo41_0, sh41, sh64, hS1, hk1, z7, z9, z8]
    refine FnK.use (hdo2 _) ?_
    intro y h2 ⟨e2, K2⟩
    have hS2 := K2.at (b := h.size) (by rw [h_pushL _ _ _ hl1]; exact hS1) (by simp; omega)
    have hk2 := K2.at (b := k) (by rw [h_pushL _ _ _ (by omega)]; exact hk1) (by simp; omega)
    have hF2 := K2.at (h_pushE h1 (.cells #[.int .i64 0, .int .u64 0] 41) h1.size rfl) (by simp)
    have r2 := ((r0.ext K1).ext (Keeps.push h1 (.cells #[.int .i64 0, .int .u64 0] 41) (Nat.le_refl _))).ext K2
    have sK1 := K1.size
    have sK2 := K2.size
    simp only [Array.size_push] at sK2
    rw [e2]
    simp -implicitDefEqProofs (disch := first | omega | (simp only [h_szP, h_szS]; done) | (simp only [h_szP, h_szS]; omega)) only [go_sem, Nat.reduceBEq, reduceCtorEq, Nat.reduceAdd, Int.reduceEq, Int.reduceLT, Int.reduceLE, Int.reduceMul, Int.reduceAdd, Int.reduceSub, reduceIte, Nat.reduceLeDiff, Nat.reduceLT, Nat.reduceMul, Nat.reduceSub, Int.reduceToNat, s33, zc64, fo77_2, sh22, fo77_3, sh3, sz3, sz22, Try.underlying3, sd64, pl64_0, sz64, Try.underlying22, zc41, sd41, pl41_1, pl64_1, fo77_4, sh75, sz41, fo41_0, sh41, sh64, hS2, hk2]
    refine FnK.use (rstore_c r2 a n' nx none ha1 hnl hn4 F1) ?_
    intro y h3 ⟨e3, r3, sz3, old3⟩
    have nf1 : ∀ j, h.size ≤ j → ¬ rfoot sp pv ps j := fun j hj f => by have := r.R.lt f; omega
    have hS3 : h3[h.size]? = some (.cells #[.int .i64 0, .int .i64 0, .int .u64 0] 64 (0, 0)) := by rw [old3 _ (by omega) (nf1 _ (Nat.le_refl _))]; exact hS2
    have hF3 : h3[h1.size]? = some (.cells #[.int .i64 0, .int .u64 0] 41 (0, 0)) := by rw [old3 _ (by omega) (nf1 _ (by omega))]; exact hF2
    have hk3 := old3 k (by omega) nk
    rw [hk2] at hk3
    have m1 := getElem?_lt hS3
    have m2 := getElem?_lt hF3
    have m3 := getElem?_lt hk3
    have oldA : ∀ b, b < h.size → ¬ rfoot sp pv ps b → h3[b]? = h0[b]? := fun b hb f => by
      rw [old3 b (by omega) f, K2.old b (by simp; omega), h_pushL _ _ _ (by omega), K1.old b (by omega)]
    rw [e3]
    unfold fltO fltA
    simp -implicitDefEqProofs (disch := first | omega | (simp only [h_szP, h_szS]; done) | (simp only [h_szP, h_szS]; omega)) only [go_sem, Nat.reduceBEq, reduceCtorEq, Nat.reduceAdd, Int.reduceEq, Int.reduceLT, Int.reduceLE, Int.reduceMul, Int.reduceAdd, Int.reduceSub, reduceIte, Nat.reduceLeDiff, Nat.reduceLT, Nat.reduceMul, Nat.reduceSub, Int.reduceToNat, s33, zc64, fo77_2, sh22, fo77_3, sh3, sz3, sz22, Try.underlying3, sd64, pl64_0, sz64, Try.underlying22, zc41, sd41, pl41_1, pl64_1, fo77_4, sh75, sz41, fo41_0, sh41, sh64, hS3, hF3, hk3, z8, szI, szU]
    refine FnK.val (hsx _) ?_
    simp -implicitDefEqProofs (disch := first | omega | (simp only [h_szP, h_szS]; done) | (simp only [h_szP, h_szS]; omega)) only [go_sem, Nat.reduceBEq, reduceCtorEq, Nat.reduceAdd, Int.reduceEq, Int.reduceLT, Int.reduceLE, Int.reduceMul, Int.reduceAdd, Int.reduceSub, reduceIte, Nat.reduceLeDiff, Nat.reduceLT, Nat.reduceMul, Nat.reduceSub, Int.reduceToNat, s33, zc64, fo77_2, sh22, fo77_3, sh3, sz3, sz22, Try.underlying3, sd64, pl64_0, sz64, Try.underlying22, zc41, sd41, pl41_1, pl64_1, fo77_4, sh75, sz41, fo41_0, sh41, sh64, hS3, hF3]
    refine ⟨rfl, aftS h3 _ ⟨sv, ha, hn, 0, 0, 0, some nx⟩ r3 oldA ?_ ?_ ?_⟩
    · exact fun b hb q => by rw [h_setN _ _ _ _ (by omega), h_setN _ _ _ _ q, h_setN _ _ _ _ (by omega)]
    · simp; omega
    · rw [h_setN _ _ _ _ (by omega), h_setS _ _ _ (by simp; omega)]; rfl
end Go.SX.G
