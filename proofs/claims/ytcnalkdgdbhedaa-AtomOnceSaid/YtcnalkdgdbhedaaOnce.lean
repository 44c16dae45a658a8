/- AtomOnce, the walk. No condition. -/
import Derived.Test.YtcnalkdgdbhedaaStep
set_option linter.unusedVariables false
set_option linter.unusedSimpArgs false
namespace Go.SX.G
open Go Go.SX Go.Proofs
set_option maxRecDepth 100000
set_option maxHeartbeats 4000000
theorem ok3 {h : Heap} {s sp m : Nat} {pv : Value} {M : MemD} {ps : List Pg} {C : Nat → Nat} (B : Both h s sp pv M ps C (protL []) 3) (p a n : Nat) (hp : p = 1 ∨ p = 2) (h1 : 4096 ≤ a) (h2 : a + n ≤ 16384) : ∀ i, i < n → okAt M.rs p (adr a i) := by
  intro i hi
  have e : adr a i = a + i := by unfold adr; omega
  rw [okAt_iff, B.kq.pr, e]
  unfold kP
  rw [if_pos (by omega)]
  refine ⟨3, by unfold protL; rw [if_neg (by simp)], ?_⟩
  rcases hp with e | e <;> rw [e] <;> rfl
theorem do_nat (op : Int) (A X : Nat) (hA : A < 18446744073709551616) (hX : X < 18446744073709551616) : ∃ o : Option (BitVec 64), (∀ h : Heap, Fn Try.prog 11 [.int .i64 op, .int .u64 A, .int .u64 X] h fun v h' => v = told o ∧ h' = h) ∧ ∀ h1 : Heap, Fn Try.prog 12 [.int .i64 op, .int .u64 A, .int .u64 X] h1 fun v h' => v = told o ∧ Keeps h1.size h1 h' := by
  rw [uN hA, uN hX]; exact do_any op _ _
theorem rsextN_c (x n : Nat) (hn : n = 4 ∨ n = 8) (hx : x < 18446744073709551616) (h : Heap) : Fn Try.prog 32 [.int .u64 x, .int .i64 (8 * n : Nat)] h fun v h' => v = .int .u64 (sxN x n) ∧ h' = h := by
  rw [uN hx]
  exact rsext_c (BitVec.ofNat 64 x) (8 * n) (by omega) (by omega) h
theorem sx_cut (x : Nat) : sxN (x % 256 ^ 4) 4 = sxN x 4 ∧ sxN (x % 256 ^ 8) 8 = sxN x 8 := by
  have e1 : (BitVec.ofNat 64 (x % 256 ^ 4)) <<< (64 - 8 * 4) = (BitVec.ofNat 64 x) <<< (64 - 8 * 4) := by
    apply BitVec.eq_of_toNat_eq
    rw [BitVec.toNat_shiftLeft, BitVec.toNat_shiftLeft, BitVec.toNat_ofNat, BitVec.toNat_ofNat, Nat.shiftLeft_eq, Nat.shiftLeft_eq]
    omega
  have e2 : (BitVec.ofNat 64 (x % 256 ^ 8)) = (BitVec.ofNat 64 x) := by
    apply BitVec.eq_of_toNat_eq
    rw [BitVec.toNat_ofNat, BitVec.toNat_ofNat]
    omega
  unfold sxN
  rw [e1, e2]; exact ⟨rfl, rfl⟩
theorem peek_put {M : MemD} {a n v : Nat} {B : Nat → Nat} (hb : ∀ y, memAt M y = if a ≤ y ∧ y < a + n then v / 256 ^ (y - a) % 256 else B y) : le (peekL M a n) = v % 256 ^ n := by
  have : peekL M a n = bytesOf v n := by
    unfold peekL bytesOf
    apply List.map_congr_left
    intro i hi
    simp at hi
    rw [hb, if_pos (by omega), Nat.add_sub_cancel_left]
  rw [this, le_bytes]
theorem peek_same {M M' : MemD} {a n : Nat} (hb : ∀ i, i < n → memAt M' (a + i) = memAt M (a + i)) : le (peekL M' a n) = le (peekL M a n) := by
  congr 1
  unfold peekL
  apply List.map_congr_left
  intro i hi
  simp at hi
  exact hb i hi
theorem cut_sh (x : Nat) (hx : x < 18446744073709551616) : ((x % 256 ^ 4 : Nat) : Int) = shrI .u64 (shlI .u64 (x : Int) 32) 32 ∧ ((x % 256 ^ 8 : Nat) : Int) = shrI .u64 (shlI .u64 (x : Int) 0) 0 := by
  have e32 : min ((32 : Int)).toNat IntKind.u64.bits = 32 := by decide
  have e0 : min ((0 : Int)).toNat IntKind.u64.bits = 0 := by decide
  have p32 : (2 : Int) ^ 32 = 4294967296 := by decide
  have q4 : 256 ^ 4 = 4294967296 := by decide
  have q8 : 256 ^ 8 = 18446744073709551616 := by decide
  unfold shrI shlI
  rw [e32, e0, p32, q4, q8, wrap_u64, wrap_u64, Int.pow_zero, Int.mul_one, Int.fdiv_eq_ediv_of_nonneg _ (by omega), Int.fdiv_eq_ediv_of_nonneg _ (by omega)]
  omega
theorem once4_c {h : Heap} (at_ : Nat) (hat : at_ < 65536) (ot : Nat) (hot : ot < 65536) (x : Nat) (hx : x < 18446744073709551616) (y : Nat) (hy : y < 18446744073709551616) :
    Fn Try.prog 9 [.int .u16 at_, .int .u16 ot, .int .u64 x, .int .u64 y, .bool false] h fun r h' => r = .bool true ∧ ∀ b, b < h.size → h'[b]? = h[b]? := by
  obtain ⟨a, ha⟩ : ∃ a : Nat, a = 4096 + at_ % 1500 * 4 := ⟨_, rfl⟩
  obtain ⟨b, hb⟩ : ∃ b : Nat, b = 4096 + ot % 1500 * 4 := ⟨_, rfl⟩
  have ea : (4096 : Int) + (at_ : Int) % 1500 * 4 = a := by omega
  have eb : (4096 : Int) + (ot : Int) % 1500 * 4 = b := by omega
  have al : a + 4 ≤ 16384 ∧ 4096 ≤ a ∧ a % 4 = 0 := by omega
  have bl : b + 4 ≤ 16384 ∧ 4096 ≤ b ∧ b % 4 = 0 := by omega
  refine Fn_c Try.func9 mixed c9 (by kernel_rfl) ?_; rw [r9]
  simp -implicitDefEqProofs (disch := first | omega | (simp only [h_szP, h_szS]; done) | (simp only [h_szP, h_szS]; omega)) only [go_sem, Nat.reduceBEq, reduceCtorEq, Nat.reduceAdd, Int.reduceEq, Int.reduceLT, Int.reduceLE, Int.reduceMul, Int.reduceAdd, Int.reduceSub, reduceIte, Nat.reduceLeDiff, Nat.reduceLT, Nat.reduceMul, Nat.reduceSub, Int.reduceToNat, s9, Try.underlying33, Try.underlying3, Try.underlying22, zc62, sd62, zc64, sz62, sz64, fo64_0, sh3, sh62, pl62_0, pl62_1, Try.underlying62, Try.underlying4, zc41, sz41, Try.underlying45]
  refine FnK.use (spaces_c (Vs.nil h) (fun b q => by cases q)) ?_
  intro z h1 ⟨s, k, sp, pv, M, ps, ez, B, hz, K1, hF⟩
  rw [ez]
  simp -implicitDefEqProofs (disch := first | omega | (simp only [h_szP, h_szS]; done) | (simp only [h_szP, h_szS]; omega)) only [go_sem, Nat.reduceBEq, reduceCtorEq, Nat.reduceAdd, Int.reduceEq, Int.reduceLT, Int.reduceLE, Int.reduceMul, Int.reduceAdd, Int.reduceSub, reduceIte, Nat.reduceLeDiff, Nat.reduceLT, Nat.reduceMul, Nat.reduceSub, Int.reduceToNat, s9, Try.underlying33, Try.underlying3, Try.underlying22, zc62, sd62, zc64, sz62, sz64, fo64_0, sh3, sh62, pl62_0, pl62_1, Try.underlying62, Try.underlying4, zc41, sz41, Try.underlying45, ea, eb]
  have okr : ∀ p, p = 1 ∨ p = 2 → ∀ a, 4096 ≤ a → a + 4 ≤ 16384 → ∀ i, i < 4 → okAt M.rs p (adr a i) := fun p hp a h1 h2 => ok3 (m := 0) B p a 4 hp h1 h2
  refine FnK.use (mstore_ok a 4 x B.mr (by omega) hx rfl (okr 2 (.inr rfl) a (by omega) (by omega))) ?_
  intro z h2 ⟨ez2, M2, g2, rs2, by2⟩
  have A2 := g2.fx.own hF K1
  rw [ez2]
  unfold fltA
  simp -implicitDefEqProofs (disch := first | omega | (simp only [h_szP, h_szS]; done) | (simp only [h_szP, h_szS]; omega)) only [go_sem, Nat.reduceBEq, reduceCtorEq, Nat.reduceAdd, Int.reduceEq, Int.reduceLT, Int.reduceLE, Int.reduceMul, Int.reduceAdd, Int.reduceSub, reduceIte, Nat.reduceLeDiff, Nat.reduceLT, Nat.reduceMul, Nat.reduceSub, Int.reduceToNat, s9, Try.underlying33, Try.underlying3, Try.underlying22, zc62, sd62, zc64, sz62, sz64, fo64_0, sh3, sh62, pl62_0, pl62_1, Try.underlying62, Try.underlying4, zc41, sz41, Try.underlying45]
  have F1 : ∀ a, 4096 ≤ a → a + 4 ≤ 16384 → FirstN M2.rs a 4 2 none := fun a h1 h2 => .none (by rw [rs2]; exact okr 2 (.inr rfl) a h1 h2)
  have F2 : ∀ a, 4096 ≤ a → a + 4 ≤ 16384 → FirstN M2.rs a 4 1 none := fun a h1 h2 => .none (by rw [rs2]; exact okr 1 (.inl rfl) a h1 h2)
  have hv1 : le (peekL M2 a 4) = x % 256 ^ 4 := peek_put by2
  have hv1l : le (peekL M2 a 4) < 18446744073709551616 := by
    rw [hv1]
    have : 256 ^ 4 ≤ 18446744073709551616 := by decide
    have := Nat.mod_lt x (show 0 < 256 ^ 4 by decide)
    omega
  obtain ⟨o3, hdo3, _⟩ := do_nat 63 (le (peekL M2 a 4)) 0 hv1l (by omega)
  have est3 : stepR 4 63 none none 0 0 a 0 (sxN (le (peekL M2 a 4)) 4) (nxN o3) = ⟨sxN x 4, a, 4, 0, 0, 0, none⟩ := by
    rw [hv1, (sx_cut x).1]
    unfold stepR
    rw [if_neg (by decide), if_neg (by omega), if_neg (by decide)]
    simp only
    rw [if_pos (by decide)]
  refine FnK.use (step_c 63 a 0 0 0 4 none none o3 g2.r (by omega) (by omega) rfl (F1 a (by omega) (by omega)) (F2 a (by omega) (by omega)) hdo3) ?_
  rw [est3]
  intro z h3 ⟨ez3, M3, g3, rs3, by3⟩
  have A3 := g3.fx.own A2.2 A2.1
  rw [ez3]
  unfold stepT holdV stopV
  simp -implicitDefEqProofs (disch := first | omega | (simp only [h_szP, h_szS]; done) | (simp only [h_szP, h_szS]; omega)) only [go_sem, Nat.reduceBEq, reduceCtorEq, Nat.reduceAdd, Int.reduceEq, Int.reduceLT, Int.reduceLE, Int.reduceMul, Int.reduceAdd, Int.reduceSub, reduceIte, Nat.reduceLeDiff, Nat.reduceLT, Nat.reduceMul, Nat.reduceSub, Int.reduceToNat, s9, Try.underlying33, Try.underlying3, Try.underlying22, zc62, sd62, zc64, sz62, sz64, fo64_0, sh3, sh62, pl62_0, pl62_1, Try.underlying62, Try.underlying4, zc41, sz41, Try.underlying45]
  refine FnK.val (answers_c _) ?_
  simp -implicitDefEqProofs (disch := first | omega | (simp only [h_szP, h_szS]; done) | (simp only [h_szP, h_szS]; omega)) only [go_sem, Nat.reduceBEq, reduceCtorEq, Nat.reduceAdd, Int.reduceEq, Int.reduceLT, Int.reduceLE, Int.reduceMul, Int.reduceAdd, Int.reduceSub, reduceIte, Nat.reduceLeDiff, Nat.reduceLT, Nat.reduceMul, Nat.reduceSub, Int.reduceToNat, s9, Try.underlying33, Try.underlying3, Try.underlying22, zc62, sd62, zc64, sz62, sz64, fo64_0, sh3, sh62, pl62_0, pl62_1, Try.underlying62, Try.underlying4, zc41, sz41, Try.underlying45]
  refine FnK.val (rsextN_c x 4 (by omega) hx _) ?_
  simp -implicitDefEqProofs (disch := first | omega | (simp only [h_szP, h_szS]; done) | (simp only [h_szP, h_szS]; omega)) only [go_sem, Nat.reduceBEq, reduceCtorEq, Nat.reduceAdd, Int.reduceEq, Int.reduceLT, Int.reduceLE, Int.reduceMul, Int.reduceAdd, Int.reduceSub, reduceIte, Nat.reduceLeDiff, Nat.reduceLT, Nat.reduceMul, Nat.reduceSub, Int.reduceToNat, s9, Try.underlying33, Try.underlying3, Try.underlying22, zc62, sd62, zc64, sz62, sz64, fo64_0, sh3, sh62, pl62_0, pl62_1, Try.underlying62, Try.underlying4, zc41, sz41, Try.underlying45, ne_hold, decide_true, Bool.and_true, Bool.not_true]
  obtain ⟨h4, e4⟩ : ∃ h4, h4 = (h3.push (.cells #[.int .u64 a, .int .i64 4] 62)).push (.cells #[.int .i64 0, .int .i64 0, .int .u64 0] 64) := ⟨_, rfl⟩
  have K34 : Keeps h3.size h3 h4 := by rw [e4]; exact (Keeps.push _ _ (Nat.le_refl _)).push' (Nat.le_refl _)
  rw [← e4]
  have K4 := A3.1.of_ext K34 (Nat.le_refl _)
  have R4 := g3.r.ext K34
  have hm3 : ∀ y, memAt M3 y = memAt M2 y := by3
  have hv2l : ∀ M : MemD, (∀ y, memAt M y < 256) → ∀ c, le (peekL M c 4) < 18446744073709551616 := fun M hM c => by
    have := le_lt (peekL M c 4) (fun b hb => by
      simp only [peekL, List.mem_map] at hb
      obtain ⟨i, _, rfl⟩ := hb
      exact hM _)
    rw [peekL_len] at this
    have : 256 ^ 4 ≤ 18446744073709551616 := by decide
    omega
  obtain ⟨o5, hdo5, _⟩ := do_nat 64 (le (peekL M3 b 4)) y (hv2l M3 (fun y => byteAt_lt g3.r.sr y) b) hy
  refine FnK.use (step_c 64 b y a 4 4 none none o5 R4 (by omega) hy rfl (by rw [rs3]; exact F1 b (by omega) (by omega)) (by rw [rs3]; exact F2 b (by omega) (by omega)) hdo5) ?_
  intro z h5 ⟨ez5, M5, g5, rs5, by5⟩
  have A5 := g5.fx.own A3.2 K4
  have nf3 : ∀ j, ¬ mfoot s M3 (h3.size + j) := fun j q => by have := g3.r.lt q; omega
  have sz4 : h4.size = h3.size + 2 := by rw [e4]; simp
  have hH5 : h5[h3.size]? = some (.cells #[.int .u64 a, .int .i64 4] 62 (0, 0)) := by rw [g5.fx.old _ (by omega) (by have := nf3 0; simpa using this), e4]; simp -implicitDefEqProofs (disch := first | omega | (simp only [h_szP, h_szS]; done) | (simp only [h_szP, h_szS]; omega)) only [go_sem, Nat.reduceBEq, reduceCtorEq, Nat.reduceAdd, Int.reduceEq, Int.reduceLT, Int.reduceLE, Int.reduceMul, Int.reduceAdd, Int.reduceSub, reduceIte, Nat.reduceLeDiff, Nat.reduceLT, Nat.reduceMul, Nat.reduceSub, Int.reduceToNat]
  have hS5 : h5[h3.size + 1]? = some (.cells #[.int .i64 0, .int .i64 0, .int .u64 0] 64 (0, 0)) := by rw [g5.fx.old _ (by omega) (nf3 1), e4]; simp -implicitDefEqProofs (disch := first | omega | (simp only [h_szP, h_szS]; done) | (simp only [h_szP, h_szS]; omega)) only [go_sem, Nat.reduceBEq, reduceCtorEq, Nat.reduceAdd, Int.reduceEq, Int.reduceLT, Int.reduceLE, Int.reduceMul, Int.reduceAdd, Int.reduceSub, reduceIte, Nat.reduceLeDiff, Nat.reduceLT, Nat.reduceMul, Nat.reduceSub, Int.reduceToNat]
  have m5 := getElem?_lt hH5
  have m6 := getElem?_lt hS5
  have nf5 : ∀ j, j < 2 → ¬ mfoot s M5 (h3.size + j) := fun j hj q => by
    rcases g5.fx.ft _ q with z | z
    · exact nf3 j z
    · omega
  by_cases hab : a = b
  · subst hab
    have est5 : ∀ q r, stepR 4 64 none none a 4 a y q r = ⟨0, 0, 0, 0, 0, 0, some y⟩ := fun q r => by
      unfold stepR
      rw [if_neg (by decide), if_neg (by omega), if_pos (by decide)]
      unfold stepC
      simp only
      rw [if_pos ⟨trivial, trivial⟩]
    rw [est5] at ez5 by5
    rw [ez5]
    unfold stepT holdV stopV
    simp -implicitDefEqProofs (disch := first | omega | (simp only [h_szP, h_szS]; done) | (simp only [h_szP, h_szS]; omega)) only [go_sem, Nat.reduceBEq, reduceCtorEq, Nat.reduceAdd, Int.reduceEq, Int.reduceLT, Int.reduceLE, Int.reduceMul, Int.reduceAdd, Int.reduceSub, reduceIte, Nat.reduceLeDiff, Nat.reduceLT, Nat.reduceMul, Nat.reduceSub, Int.reduceToNat, s9, Try.underlying33, Try.underlying3, Try.underlying22, zc62, sd62, zc64, sz62, sz64, fo64_0, sh3, sh62, pl62_0, pl62_1, Try.underlying62, Try.underlying4, zc41, sz41, Try.underlying45, hH5, hS5, ne_hold, decide_true, Bool.and_true, Bool.not_true]
    obtain ⟨h6, e6⟩ : ∃ h6, h6 = (h5.setIfInBounds h3.size (.cells #[.int .u64 0, .int .i64 0] 62)).setIfInBounds (h3.size + 1) (.cells #[.int .i64 0, .int .i64 0, .int .u64 0] 64) := ⟨_, rfl⟩
    rw [← e6]
    have G6 : Chg h3 h6 s M3 M5 8 (fun _ => False) := by
      rw [e6]
      exact ((g5.widen (h0 := h3) K34).poke (Nat.le_refl _) (by have := nf5 0 (by omega); simpa using this) _).poke (by omega) (nf5 1 (by omega)) _
    have hH6 : h6[h3.size]? = some (.cells #[.int .u64 0, .int .i64 0] 62 (0, 0)) := by rw [e6]; simp -implicitDefEqProofs (disch := first | omega | (simp only [h_szP, h_szS]; done) | (simp only [h_szP, h_szS]; omega)) only [go_sem, Nat.reduceBEq, reduceCtorEq, Nat.reduceAdd, Int.reduceEq, Int.reduceLT, Int.reduceLE, Int.reduceMul, Int.reduceAdd, Int.reduceSub, reduceIte, Nat.reduceLeDiff, Nat.reduceLT, Nat.reduceMul, Nat.reduceSub, Int.reduceToNat]
    have hS6 : h6[h3.size + 1]? = some (.cells #[.int .i64 0, .int .i64 0, .int .u64 0] 64 (0, 0)) := by rw [e6, h_setS _ _ _ (by simp; omega)]
    have A6 := G6.fx.own A3.2 A3.1
    have m7 := getElem?_lt hH6
    have m8 := getElem?_lt hS6
    have nf6 : ∀ j, j < 2 → ¬ mfoot s M5 (h3.size + j) := nf5
    obtain ⟨o7, hdo7, _⟩ := do_nat 64 (le (peekL M5 a 4)) x (hv2l M5 (fun y => byteAt_lt g5.r.sr y) a) hx
    have est7 : ∀ q r, stepR 4 64 none none 0 0 a x q r = ⟨1, 0, 0, 0, 0, 0, none⟩ := fun q r => by
      unfold stepR
      rw [if_neg (by decide), if_neg (by omega), if_pos (by decide)]
      unfold stepC
      simp only
      rw [if_neg (fun e => by omega)]
    refine FnK.use (step_c 64 a x 0 0 4 none none o7 G6.r (by omega) hx rfl (by rw [rs5, rs3]; exact F1 a (by omega) (by omega)) (by rw [rs5, rs3]; exact F2 a (by omega) (by omega)) hdo7) ?_
    rw [est7]
    intro z h7 ⟨ez7, M7, g7, rs7, by7⟩
    have A7 := g7.fx.own A6.2 A6.1
    have hH7 : h7[h3.size]? = some (.cells #[.int .u64 0, .int .i64 0] 62 (0, 0)) := by rw [g7.fx.old _ (by omega) (by have := nf5 0 (by omega); simpa using this)]; exact hH6
    have hS7 : h7[h3.size + 1]? = some (.cells #[.int .i64 0, .int .i64 0, .int .u64 0] 64 (0, 0)) := by rw [g7.fx.old _ (by omega) (nf5 1 (by omega))]; exact hS6
    have m9 := getElem?_lt hH7
    have m10 := getElem?_lt hS7
    rw [ez7]
    unfold stepT holdV stopV
    simp -implicitDefEqProofs (disch := first | omega | (simp only [h_szP, h_szS]; done) | (simp only [h_szP, h_szS]; omega)) only [go_sem, Nat.reduceBEq, reduceCtorEq, Nat.reduceAdd, Int.reduceEq, Int.reduceLT, Int.reduceLE, Int.reduceMul, Int.reduceAdd, Int.reduceSub, reduceIte, Nat.reduceLeDiff, Nat.reduceLT, Nat.reduceMul, Nat.reduceSub, Int.reduceToNat, s9, Try.underlying33, Try.underlying3, Try.underlying22, zc62, sd62, zc64, sz62, sz64, fo64_0, sh3, sh62, pl62_0, pl62_1, Try.underlying62, Try.underlying4, zc41, sz41, Try.underlying45, hH7, hS7, ne_hold, decide_true, Bool.and_true, Bool.not_true]
    have nf7 : ∀ j, j < 2 → ¬ mfoot s M7 (h3.size + j) := fun j hj q => by
      rcases g7.fx.ft _ q with z | z
      · exact nf5 j hj z
      · omega
    obtain ⟨h8, e8⟩ : ∃ h8, h8 = (h7.setIfInBounds h3.size (.cells #[.int .u64 0, .int .i64 0] 62)).setIfInBounds (h3.size + 1) (.cells #[.int .i64 0, .int .i64 0, .int .u64 0] 64) := ⟨_, rfl⟩
    rw [← e8]
    have G8 := ((G6.trans g7).poke (Nat.le_refl _) (by have := nf7 0 (by omega); simpa using this) (.cells #[.int .u64 0, .int .i64 0] 62)).poke (by omega) (nf7 1 (by omega)) (.cells #[.int .i64 0, .int .i64 0, .int .u64 0] 64)
    rw [← e8] at G8
    have hH8 : h8[h3.size]? = some (.cells #[.int .u64 0, .int .i64 0] 62 (0, 0)) := by rw [e8]; simp -implicitDefEqProofs (disch := first | omega | (simp only [h_szP, h_szS]; done) | (simp only [h_szP, h_szS]; omega)) only [go_sem, Nat.reduceBEq, reduceCtorEq, Nat.reduceAdd, Int.reduceEq, Int.reduceLT, Int.reduceLE, Int.reduceMul, Int.reduceAdd, Int.reduceSub, reduceIte, Nat.reduceLeDiff, Nat.reduceLT, Nat.reduceMul, Nat.reduceSub, Int.reduceToNat]
    have hS8 : h8[h3.size + 1]? = some (.cells #[.int .i64 0, .int .i64 0, .int .u64 0] 64 (0, 0)) := by rw [e8, h_setS _ _ _ (by simp; omega)]
    have A8 := G8.fx.own A3.2 A3.1
    have hv9 : le (peekL M7 a 4) = y % 256 ^ 4 := by
      rw [peek_same (M := M5) (fun i hi => by7 (a + i))]
      exact peek_put by5
    refine FnK.use (mload_ok a 4 G8.r (by omega) rfl (by rw [rs7, rs5, rs3, rs2]; exact okr 1 (.inl rfl) a (by omega) (by omega))) ?_
    intro z h9 ⟨ez9, K9⟩
    have hH9 := K9.at hH8 (getElem?_lt hH8)
    have hS9 := K9.at hS8 (getElem?_lt hS8)
    have m11 := getElem?_lt hH9
    have m12 := getElem?_lt hS9
    rw [ez9, hv9]
    unfold fltA
    simp -implicitDefEqProofs (disch := first | omega | (simp only [h_szP, h_szS]; done) | (simp only [h_szP, h_szS]; omega)) only [go_sem, Nat.reduceBEq, reduceCtorEq, Nat.reduceAdd, Int.reduceEq, Int.reduceLT, Int.reduceLE, Int.reduceMul, Int.reduceAdd, Int.reduceSub, reduceIte, Nat.reduceLeDiff, Nat.reduceLT, Nat.reduceMul, Nat.reduceSub, Int.reduceToNat, s9, Try.underlying33, Try.underlying3, Try.underlying22, zc62, sd62, zc64, sz62, sz64, fo64_0, sh3, sh62, pl62_0, pl62_1, Try.underlying62, Try.underlying4, zc41, sz41, Try.underlying45, hH9, hS9, eq_hold, ne_hold, decide_true, Bool.and_true, Bool.not_true]
    exact ⟨by rw [(cut_sh y hy).1]; simp, fun c hc => by rw [h_pushL _ _ _ (by have := A8.1.size; have := K9.size; omega), K9.old c (by have := A8.1.size; omega), A8.1.old c hc]⟩
  · have est5 : ∀ q r, stepR 4 64 none none a 4 b y q r = ⟨1, 0, 0, 0, 0, 0, none⟩ := fun q r => by
      unfold stepR
      rw [if_neg (by decide), if_neg (by omega), if_pos (by decide)]
      unfold stepC
      simp only
      rw [if_neg (fun e => hab e.1)]
    rw [est5] at ez5 by5
    rw [ez5]
    unfold stepT holdV stopV
    have hab' : ((a : Int) = b) = False := eq_false (by omega)
    simp -implicitDefEqProofs (disch := first | omega | (simp only [h_szP, h_szS]; done) | (simp only [h_szP, h_szS]; omega)) only [go_sem, Nat.reduceBEq, reduceCtorEq, Nat.reduceAdd, Int.reduceEq, Int.reduceLT, Int.reduceLE, Int.reduceMul, Int.reduceAdd, Int.reduceSub, reduceIte, Nat.reduceLeDiff, Nat.reduceLT, Nat.reduceMul, Nat.reduceSub, Int.reduceToNat, s9, Try.underlying33, Try.underlying3, Try.underlying22, zc62, sd62, zc64, sz62, sz64, fo64_0, sh3, sh62, pl62_0, pl62_1, Try.underlying62, Try.underlying4, zc41, sz41, Try.underlying45, hH5, hS5, ne_hold, hab', decide_true, Bool.and_true, Bool.not_true]
    obtain ⟨h6, e6⟩ : ∃ h6, h6 = (h5.setIfInBounds h3.size (.cells #[.int .u64 0, .int .i64 0] 62)).setIfInBounds (h3.size + 1) (.cells #[.int .i64 0, .int .i64 0, .int .u64 0] 64) := ⟨_, rfl⟩
    rw [← e6]
    have G6 : Chg h3 h6 s M3 M5 8 (fun _ => False) := by
      rw [e6]
      exact ((g5.widen (h0 := h3) K34).poke (Nat.le_refl _) (by have := nf5 0 (by omega); simpa using this) _).poke (by omega) (nf5 1 (by omega)) _
    have hH6 : h6[h3.size]? = some (.cells #[.int .u64 0, .int .i64 0] 62 (0, 0)) := by rw [e6]; simp -implicitDefEqProofs (disch := first | omega | (simp only [h_szP, h_szS]; done) | (simp only [h_szP, h_szS]; omega)) only [go_sem, Nat.reduceBEq, reduceCtorEq, Nat.reduceAdd, Int.reduceEq, Int.reduceLT, Int.reduceLE, Int.reduceMul, Int.reduceAdd, Int.reduceSub, reduceIte, Nat.reduceLeDiff, Nat.reduceLT, Nat.reduceMul, Nat.reduceSub, Int.reduceToNat]
    have hS6 : h6[h3.size + 1]? = some (.cells #[.int .i64 0, .int .i64 0, .int .u64 0] 64 (0, 0)) := by rw [e6, h_setS _ _ _ (by simp; omega)]
    have A6 := G6.fx.own A3.2 A3.1
    have m7 := getElem?_lt hH6
    have m8 := getElem?_lt hS6
    have nf6 : ∀ j, j < 2 → ¬ mfoot s M5 (h3.size + j) := nf5
    obtain ⟨o7, hdo7, _⟩ := do_nat 64 (le (peekL M5 a 4)) x (hv2l M5 (fun y => byteAt_lt g5.r.sr y) a) hx
    have est7 : ∀ q r, stepR 4 64 none none 0 0 a x q r = ⟨1, 0, 0, 0, 0, 0, none⟩ := fun q r => by
      unfold stepR
      rw [if_neg (by decide), if_neg (by omega), if_pos (by decide)]
      unfold stepC
      simp only
      rw [if_neg (fun e => by omega)]
    refine FnK.use (step_c 64 a x 0 0 4 none none o7 G6.r (by omega) hx rfl (by rw [rs5, rs3]; exact F1 a (by omega) (by omega)) (by rw [rs5, rs3]; exact F2 a (by omega) (by omega)) hdo7) ?_
    rw [est7]
    intro z h7 ⟨ez7, M7, g7, rs7, by7⟩
    have A7 := g7.fx.own A6.2 A6.1
    have hH7 : h7[h3.size]? = some (.cells #[.int .u64 0, .int .i64 0] 62 (0, 0)) := by rw [g7.fx.old _ (by omega) (by have := nf5 0 (by omega); simpa using this)]; exact hH6
    have hS7 : h7[h3.size + 1]? = some (.cells #[.int .i64 0, .int .i64 0, .int .u64 0] 64 (0, 0)) := by rw [g7.fx.old _ (by omega) (nf5 1 (by omega))]; exact hS6
    have m9 := getElem?_lt hH7
    have m10 := getElem?_lt hS7
    rw [ez7]
    unfold stepT holdV stopV
    simp -implicitDefEqProofs (disch := first | omega | (simp only [h_szP, h_szS]; done) | (simp only [h_szP, h_szS]; omega)) only [go_sem, Nat.reduceBEq, reduceCtorEq, Nat.reduceAdd, Int.reduceEq, Int.reduceLT, Int.reduceLE, Int.reduceMul, Int.reduceAdd, Int.reduceSub, reduceIte, Nat.reduceLeDiff, Nat.reduceLT, Nat.reduceMul, Nat.reduceSub, Int.reduceToNat, s9, Try.underlying33, Try.underlying3, Try.underlying22, zc62, sd62, zc64, sz62, sz64, fo64_0, sh3, sh62, pl62_0, pl62_1, Try.underlying62, Try.underlying4, zc41, sz41, Try.underlying45, hH7, hS7, ne_hold, decide_true, Bool.and_true, Bool.not_true]
    have nf7 : ∀ j, j < 2 → ¬ mfoot s M7 (h3.size + j) := fun j hj q => by
      rcases g7.fx.ft _ q with z | z
      · exact nf5 j hj z
      · omega
    obtain ⟨h8, e8⟩ : ∃ h8, h8 = (h7.setIfInBounds h3.size (.cells #[.int .u64 0, .int .i64 0] 62)).setIfInBounds (h3.size + 1) (.cells #[.int .i64 0, .int .i64 0, .int .u64 0] 64) := ⟨_, rfl⟩
    rw [← e8]
    have G8 := ((G6.trans g7).poke (Nat.le_refl _) (by have := nf7 0 (by omega); simpa using this) (.cells #[.int .u64 0, .int .i64 0] 62)).poke (by omega) (nf7 1 (by omega)) (.cells #[.int .i64 0, .int .i64 0, .int .u64 0] 64)
    rw [← e8] at G8
    have hH8 : h8[h3.size]? = some (.cells #[.int .u64 0, .int .i64 0] 62 (0, 0)) := by rw [e8]; simp -implicitDefEqProofs (disch := first | omega | (simp only [h_szP, h_szS]; done) | (simp only [h_szP, h_szS]; omega)) only [go_sem, Nat.reduceBEq, reduceCtorEq, Nat.reduceAdd, Int.reduceEq, Int.reduceLT, Int.reduceLE, Int.reduceMul, Int.reduceAdd, Int.reduceSub, reduceIte, Nat.reduceLeDiff, Nat.reduceLT, Nat.reduceMul, Nat.reduceSub, Int.reduceToNat]
    have hS8 : h8[h3.size + 1]? = some (.cells #[.int .i64 0, .int .i64 0, .int .u64 0] 64 (0, 0)) := by rw [e8, h_setS _ _ _ (by simp; omega)]
    have A8 := G8.fx.own A3.2 A3.1
    have hv9 : le (peekL M7 a 4) = x % 256 ^ 4 := by
      rw [peek_same (M := M5) (fun i hi => by7 (a + i))]
      rw [peek_same (M := M3) (fun i hi => by5 (a + i)), peek_same (M := M2) (fun i hi => hm3 (a + i)), hv1]
    refine FnK.use (mload_ok a 4 G8.r (by omega) rfl (by rw [rs7, rs5, rs3, rs2]; exact okr 1 (.inl rfl) a (by omega) (by omega))) ?_
    intro z h9 ⟨ez9, K9⟩
    have hH9 := K9.at hH8 (getElem?_lt hH8)
    have hS9 := K9.at hS8 (getElem?_lt hS8)
    have m11 := getElem?_lt hH9
    have m12 := getElem?_lt hS9
    rw [ez9, hv9]
    unfold fltA
    simp -implicitDefEqProofs (disch := first | omega | (simp only [h_szP, h_szS]; done) | (simp only [h_szP, h_szS]; omega)) only [go_sem, Nat.reduceBEq, reduceCtorEq, Nat.reduceAdd, Int.reduceEq, Int.reduceLT, Int.reduceLE, Int.reduceMul, Int.reduceAdd, Int.reduceSub, reduceIte, Nat.reduceLeDiff, Nat.reduceLT, Nat.reduceMul, Nat.reduceSub, Int.reduceToNat, s9, Try.underlying33, Try.underlying3, Try.underlying22, zc62, sd62, zc64, sz62, sz64, fo64_0, sh3, sh62, pl62_0, pl62_1, Try.underlying62, Try.underlying4, zc41, sz41, Try.underlying45, hH9, hS9, hab', eq_hold, ne_hold, decide_true, Bool.and_true, Bool.not_true]
    exact ⟨by rw [(cut_sh x hx).1]; simp, fun c hc => by rw [h_pushL _ _ _ (by have := A8.1.size; have := K9.size; omega), K9.old c (by have := A8.1.size; omega), A8.1.old c hc]⟩
theorem once8_c {h : Heap} (at_ : Nat) (hat : at_ < 65536) (ot : Nat) (hot : ot < 65536) (x : Nat) (hx : x < 18446744073709551616) (y : Nat) (hy : y < 18446744073709551616) :
    Fn Try.prog 9 [.int .u16 at_, .int .u16 ot, .int .u64 x, .int .u64 y, .bool true] h fun r h' => r = .bool true ∧ ∀ b, b < h.size → h'[b]? = h[b]? := by
  obtain ⟨a, ha⟩ : ∃ a : Nat, a = 4096 + at_ % 1500 * 8 := ⟨_, rfl⟩
  obtain ⟨b, hb⟩ : ∃ b : Nat, b = 4096 + ot % 1500 * 8 := ⟨_, rfl⟩
  have ea : (4096 : Int) + (at_ : Int) % 1500 * 8 = a := by omega
  have eb : (4096 : Int) + (ot : Int) % 1500 * 8 = b := by omega
  have al : a + 8 ≤ 16384 ∧ 4096 ≤ a ∧ a % 8 = 0 := by omega
  have bl : b + 8 ≤ 16384 ∧ 4096 ≤ b ∧ b % 8 = 0 := by omega
  refine Fn_c Try.func9 mixed c9 (by kernel_rfl) ?_; rw [r9]
  simp -implicitDefEqProofs (disch := first | omega | (simp only [h_szP, h_szS]; done) | (simp only [h_szP, h_szS]; omega)) only [go_sem, Nat.reduceBEq, reduceCtorEq, Nat.reduceAdd, Int.reduceEq, Int.reduceLT, Int.reduceLE, Int.reduceMul, Int.reduceAdd, Int.reduceSub, reduceIte, Nat.reduceLeDiff, Nat.reduceLT, Nat.reduceMul, Nat.reduceSub, Int.reduceToNat, s9, Try.underlying33, Try.underlying3, Try.underlying22, zc62, sd62, zc64, sz62, sz64, fo64_0, sh3, sh62, pl62_0, pl62_1, Try.underlying62, Try.underlying4, zc41, sz41, Try.underlying45]
  refine FnK.use (spaces_c (Vs.nil h) (fun b q => by cases q)) ?_
  intro z h1 ⟨s, k, sp, pv, M, ps, ez, B, hz, K1, hF⟩
  rw [ez]
  simp -implicitDefEqProofs (disch := first | omega | (simp only [h_szP, h_szS]; done) | (simp only [h_szP, h_szS]; omega)) only [go_sem, Nat.reduceBEq, reduceCtorEq, Nat.reduceAdd, Int.reduceEq, Int.reduceLT, Int.reduceLE, Int.reduceMul, Int.reduceAdd, Int.reduceSub, reduceIte, Nat.reduceLeDiff, Nat.reduceLT, Nat.reduceMul, Nat.reduceSub, Int.reduceToNat, s9, Try.underlying33, Try.underlying3, Try.underlying22, zc62, sd62, zc64, sz62, sz64, fo64_0, sh3, sh62, pl62_0, pl62_1, Try.underlying62, Try.underlying4, zc41, sz41, Try.underlying45, ea, eb]
  have okr : ∀ p, p = 1 ∨ p = 2 → ∀ a, 4096 ≤ a → a + 8 ≤ 16384 → ∀ i, i < 8 → okAt M.rs p (adr a i) := fun p hp a h1 h2 => ok3 (m := 0) B p a 8 hp h1 h2
  refine FnK.use (mstore_ok a 8 x B.mr (by omega) hx rfl (okr 2 (.inr rfl) a (by omega) (by omega))) ?_
  intro z h2 ⟨ez2, M2, g2, rs2, by2⟩
  have A2 := g2.fx.own hF K1
  rw [ez2]
  unfold fltA
  simp -implicitDefEqProofs (disch := first | omega | (simp only [h_szP, h_szS]; done) | (simp only [h_szP, h_szS]; omega)) only [go_sem, Nat.reduceBEq, reduceCtorEq, Nat.reduceAdd, Int.reduceEq, Int.reduceLT, Int.reduceLE, Int.reduceMul, Int.reduceAdd, Int.reduceSub, reduceIte, Nat.reduceLeDiff, Nat.reduceLT, Nat.reduceMul, Nat.reduceSub, Int.reduceToNat, s9, Try.underlying33, Try.underlying3, Try.underlying22, zc62, sd62, zc64, sz62, sz64, fo64_0, sh3, sh62, pl62_0, pl62_1, Try.underlying62, Try.underlying4, zc41, sz41, Try.underlying45]
  have F1 : ∀ a, 4096 ≤ a → a + 8 ≤ 16384 → FirstN M2.rs a 8 2 none := fun a h1 h2 => .none (by rw [rs2]; exact okr 2 (.inr rfl) a h1 h2)
  have F2 : ∀ a, 4096 ≤ a → a + 8 ≤ 16384 → FirstN M2.rs a 8 1 none := fun a h1 h2 => .none (by rw [rs2]; exact okr 1 (.inl rfl) a h1 h2)
  have hv1 : le (peekL M2 a 8) = x % 256 ^ 8 := peek_put by2
  have hv1l : le (peekL M2 a 8) < 18446744073709551616 := by
    rw [hv1]
    have : 256 ^ 8 ≤ 18446744073709551616 := by decide
    have := Nat.mod_lt x (show 0 < 256 ^ 8 by decide)
    omega
  obtain ⟨o3, hdo3, _⟩ := do_nat 74 (le (peekL M2 a 8)) 0 hv1l (by omega)
  have est3 : stepR 8 74 none none 0 0 a 0 (sxN (le (peekL M2 a 8)) 8) (nxN o3) = ⟨sxN x 8, a, 8, 0, 0, 0, none⟩ := by
    rw [hv1, (sx_cut x).2]
    unfold stepR
    rw [if_neg (by decide), if_neg (by omega), if_neg (by decide)]
    simp only
    rw [if_pos (by decide)]
  refine FnK.use (step_c 74 a 0 0 0 8 none none o3 g2.r (by omega) (by omega) rfl (F1 a (by omega) (by omega)) (F2 a (by omega) (by omega)) hdo3) ?_
  rw [est3]
  intro z h3 ⟨ez3, M3, g3, rs3, by3⟩
  have A3 := g3.fx.own A2.2 A2.1
  rw [ez3]
  unfold stepT holdV stopV
  simp -implicitDefEqProofs (disch := first | omega | (simp only [h_szP, h_szS]; done) | (simp only [h_szP, h_szS]; omega)) only [go_sem, Nat.reduceBEq, reduceCtorEq, Nat.reduceAdd, Int.reduceEq, Int.reduceLT, Int.reduceLE, Int.reduceMul, Int.reduceAdd, Int.reduceSub, reduceIte, Nat.reduceLeDiff, Nat.reduceLT, Nat.reduceMul, Nat.reduceSub, Int.reduceToNat, s9, Try.underlying33, Try.underlying3, Try.underlying22, zc62, sd62, zc64, sz62, sz64, fo64_0, sh3, sh62, pl62_0, pl62_1, Try.underlying62, Try.underlying4, zc41, sz41, Try.underlying45]
  refine FnK.val (answers_c _) ?_
  simp -implicitDefEqProofs (disch := first | omega | (simp only [h_szP, h_szS]; done) | (simp only [h_szP, h_szS]; omega)) only [go_sem, Nat.reduceBEq, reduceCtorEq, Nat.reduceAdd, Int.reduceEq, Int.reduceLT, Int.reduceLE, Int.reduceMul, Int.reduceAdd, Int.reduceSub, reduceIte, Nat.reduceLeDiff, Nat.reduceLT, Nat.reduceMul, Nat.reduceSub, Int.reduceToNat, s9, Try.underlying33, Try.underlying3, Try.underlying22, zc62, sd62, zc64, sz62, sz64, fo64_0, sh3, sh62, pl62_0, pl62_1, Try.underlying62, Try.underlying4, zc41, sz41, Try.underlying45]
  refine FnK.val (rsextN_c x 8 (by omega) hx _) ?_
  simp -implicitDefEqProofs (disch := first | omega | (simp only [h_szP, h_szS]; done) | (simp only [h_szP, h_szS]; omega)) only [go_sem, Nat.reduceBEq, reduceCtorEq, Nat.reduceAdd, Int.reduceEq, Int.reduceLT, Int.reduceLE, Int.reduceMul, Int.reduceAdd, Int.reduceSub, reduceIte, Nat.reduceLeDiff, Nat.reduceLT, Nat.reduceMul, Nat.reduceSub, Int.reduceToNat, s9, Try.underlying33, Try.underlying3, Try.underlying22, zc62, sd62, zc64, sz62, sz64, fo64_0, sh3, sh62, pl62_0, pl62_1, Try.underlying62, Try.underlying4, zc41, sz41, Try.underlying45, ne_hold, decide_true, Bool.and_true, Bool.not_true]
  obtain ⟨h4, e4⟩ : ∃ h4, h4 = (h3.push (.cells #[.int .u64 a, .int .i64 8] 62)).push (.cells #[.int .i64 0, .int .i64 0, .int .u64 0] 64) := ⟨_, rfl⟩
  have K34 : Keeps h3.size h3 h4 := by rw [e4]; exact (Keeps.push _ _ (Nat.le_refl _)).push' (Nat.le_refl _)
  rw [← e4]
  have K4 := A3.1.of_ext K34 (Nat.le_refl _)
  have R4 := g3.r.ext K34
  have hm3 : ∀ y, memAt M3 y = memAt M2 y := by3
  have hv2l : ∀ M : MemD, (∀ y, memAt M y < 256) → ∀ c, le (peekL M c 8) < 18446744073709551616 := fun M hM c => by
    have := le_lt (peekL M c 8) (fun b hb => by
      simp only [peekL, List.mem_map] at hb
      obtain ⟨i, _, rfl⟩ := hb
      exact hM _)
    rw [peekL_len] at this
    have : 256 ^ 8 ≤ 18446744073709551616 := by decide
    omega
  obtain ⟨o5, hdo5, _⟩ := do_nat 75 (le (peekL M3 b 8)) y (hv2l M3 (fun y => byteAt_lt g3.r.sr y) b) hy
  refine FnK.use (step_c 75 b y a 8 8 none none o5 R4 (by omega) hy rfl (by rw [rs3]; exact F1 b (by omega) (by omega)) (by rw [rs3]; exact F2 b (by omega) (by omega)) hdo5) ?_
  intro z h5 ⟨ez5, M5, g5, rs5, by5⟩
  have A5 := g5.fx.own A3.2 K4
  have nf3 : ∀ j, ¬ mfoot s M3 (h3.size + j) := fun j q => by have := g3.r.lt q; omega
  have sz4 : h4.size = h3.size + 2 := by rw [e4]; simp
  have hH5 : h5[h3.size]? = some (.cells #[.int .u64 a, .int .i64 8] 62 (0, 0)) := by rw [g5.fx.old _ (by omega) (by have := nf3 0; simpa using this), e4]; simp -implicitDefEqProofs (disch := first | omega | (simp only [h_szP, h_szS]; done) | (simp only [h_szP, h_szS]; omega)) only [go_sem, Nat.reduceBEq, reduceCtorEq, Nat.reduceAdd, Int.reduceEq, Int.reduceLT, Int.reduceLE, Int.reduceMul, Int.reduceAdd, Int.reduceSub, reduceIte, Nat.reduceLeDiff, Nat.reduceLT, Nat.reduceMul, Nat.reduceSub, Int.reduceToNat]
  have hS5 : h5[h3.size + 1]? = some (.cells #[.int .i64 0, .int .i64 0, .int .u64 0] 64 (0, 0)) := by rw [g5.fx.old _ (by omega) (nf3 1), e4]; simp -implicitDefEqProofs (disch := first | omega | (simp only [h_szP, h_szS]; done) | (simp only [h_szP, h_szS]; omega)) only [go_sem, Nat.reduceBEq, reduceCtorEq, Nat.reduceAdd, Int.reduceEq, Int.reduceLT, Int.reduceLE, Int.reduceMul, Int.reduceAdd, Int.reduceSub, reduceIte, Nat.reduceLeDiff, Nat.reduceLT, Nat.reduceMul, Nat.reduceSub, Int.reduceToNat]
  have m5 := getElem?_lt hH5
  have m6 := getElem?_lt hS5
  have nf5 : ∀ j, j < 2 → ¬ mfoot s M5 (h3.size + j) := fun j hj q => by
    rcases g5.fx.ft _ q with z | z
    · exact nf3 j z
    · omega
  by_cases hab : a = b
  · subst hab
    have est5 : ∀ q r, stepR 8 75 none none a 8 a y q r = ⟨0, 0, 0, 0, 0, 0, some y⟩ := fun q r => by
      unfold stepR
      rw [if_neg (by decide), if_neg (by omega), if_pos (by decide)]
      unfold stepC
      simp only
      rw [if_pos ⟨trivial, trivial⟩]
    rw [est5] at ez5 by5
    rw [ez5]
    unfold stepT holdV stopV
    simp -implicitDefEqProofs (disch := first | omega | (simp only [h_szP, h_szS]; done) | (simp only [h_szP, h_szS]; omega)) only [go_sem, Nat.reduceBEq, reduceCtorEq, Nat.reduceAdd, Int.reduceEq, Int.reduceLT, Int.reduceLE, Int.reduceMul, Int.reduceAdd, Int.reduceSub, reduceIte, Nat.reduceLeDiff, Nat.reduceLT, Nat.reduceMul, Nat.reduceSub, Int.reduceToNat, s9, Try.underlying33, Try.underlying3, Try.underlying22, zc62, sd62, zc64, sz62, sz64, fo64_0, sh3, sh62, pl62_0, pl62_1, Try.underlying62, Try.underlying4, zc41, sz41, Try.underlying45, hH5, hS5, ne_hold, decide_true, Bool.and_true, Bool.not_true]
    obtain ⟨h6, e6⟩ : ∃ h6, h6 = (h5.setIfInBounds h3.size (.cells #[.int .u64 0, .int .i64 0] 62)).setIfInBounds (h3.size + 1) (.cells #[.int .i64 0, .int .i64 0, .int .u64 0] 64) := ⟨_, rfl⟩
    rw [← e6]
    have G6 : Chg h3 h6 s M3 M5 8 (fun _ => False) := by
      rw [e6]
      exact ((g5.widen (h0 := h3) K34).poke (Nat.le_refl _) (by have := nf5 0 (by omega); simpa using this) _).poke (by omega) (nf5 1 (by omega)) _
    have hH6 : h6[h3.size]? = some (.cells #[.int .u64 0, .int .i64 0] 62 (0, 0)) := by rw [e6]; simp -implicitDefEqProofs (disch := first | omega | (simp only [h_szP, h_szS]; done) | (simp only [h_szP, h_szS]; omega)) only [go_sem, Nat.reduceBEq, reduceCtorEq, Nat.reduceAdd, Int.reduceEq, Int.reduceLT, Int.reduceLE, Int.reduceMul, Int.reduceAdd, Int.reduceSub, reduceIte, Nat.reduceLeDiff, Nat.reduceLT, Nat.reduceMul, Nat.reduceSub, Int.reduceToNat]
    have hS6 : h6[h3.size + 1]? = some (.cells #[.int .i64 0, .int .i64 0, .int .u64 0] 64 (0, 0)) := by rw [e6, h_setS _ _ _ (by simp; omega)]
    have A6 := G6.fx.own A3.2 A3.1
    have m7 := getElem?_lt hH6
    have m8 := getElem?_lt hS6
    have nf6 : ∀ j, j < 2 → ¬ mfoot s M5 (h3.size + j) := nf5
    obtain ⟨o7, hdo7, _⟩ := do_nat 75 (le (peekL M5 a 8)) x (hv2l M5 (fun y => byteAt_lt g5.r.sr y) a) hx
    have est7 : ∀ q r, stepR 8 75 none none 0 0 a x q r = ⟨1, 0, 0, 0, 0, 0, none⟩ := fun q r => by
      unfold stepR
      rw [if_neg (by decide), if_neg (by omega), if_pos (by decide)]
      unfold stepC
      simp only
      rw [if_neg (fun e => by omega)]
    refine FnK.use (step_c 75 a x 0 0 8 none none o7 G6.r (by omega) hx rfl (by rw [rs5, rs3]; exact F1 a (by omega) (by omega)) (by rw [rs5, rs3]; exact F2 a (by omega) (by omega)) hdo7) ?_
    rw [est7]
    intro z h7 ⟨ez7, M7, g7, rs7, by7⟩
    have A7 := g7.fx.own A6.2 A6.1
    have hH7 : h7[h3.size]? = some (.cells #[.int .u64 0, .int .i64 0] 62 (0, 0)) := by rw [g7.fx.old _ (by omega) (by have := nf5 0 (by omega); simpa using this)]; exact hH6
    have hS7 : h7[h3.size + 1]? = some (.cells #[.int .i64 0, .int .i64 0, .int .u64 0] 64 (0, 0)) := by rw [g7.fx.old _ (by omega) (nf5 1 (by omega))]; exact hS6
    have m9 := getElem?_lt hH7
    have m10 := getElem?_lt hS7
    rw [ez7]
    unfold stepT holdV stopV
    simp -implicitDefEqProofs (disch := first | omega | (simp only [h_szP, h_szS]; done) | (simp only [h_szP, h_szS]; omega)) only [go_sem, Nat.reduceBEq, reduceCtorEq, Nat.reduceAdd, Int.reduceEq, Int.reduceLT, Int.reduceLE, Int.reduceMul, Int.reduceAdd, Int.reduceSub, reduceIte, Nat.reduceLeDiff, Nat.reduceLT, Nat.reduceMul, Nat.reduceSub, Int.reduceToNat, s9, Try.underlying33, Try.underlying3, Try.underlying22, zc62, sd62, zc64, sz62, sz64, fo64_0, sh3, sh62, pl62_0, pl62_1, Try.underlying62, Try.underlying4, zc41, sz41, Try.underlying45, hH7, hS7, ne_hold, decide_true, Bool.and_true, Bool.not_true]
    have nf7 : ∀ j, j < 2 → ¬ mfoot s M7 (h3.size + j) := fun j hj q => by
      rcases g7.fx.ft _ q with z | z
      · exact nf5 j hj z
      · omega
    obtain ⟨h8, e8⟩ : ∃ h8, h8 = (h7.setIfInBounds h3.size (.cells #[.int .u64 0, .int .i64 0] 62)).setIfInBounds (h3.size + 1) (.cells #[.int .i64 0, .int .i64 0, .int .u64 0] 64) := ⟨_, rfl⟩
    rw [← e8]
    have G8 := ((G6.trans g7).poke (Nat.le_refl _) (by have := nf7 0 (by omega); simpa using this) (.cells #[.int .u64 0, .int .i64 0] 62)).poke (by omega) (nf7 1 (by omega)) (.cells #[.int .i64 0, .int .i64 0, .int .u64 0] 64)
    rw [← e8] at G8
    have hH8 : h8[h3.size]? = some (.cells #[.int .u64 0, .int .i64 0] 62 (0, 0)) := by rw [e8]; simp -implicitDefEqProofs (disch := first | omega | (simp only [h_szP, h_szS]; done) | (simp only [h_szP, h_szS]; omega)) only [go_sem, Nat.reduceBEq, reduceCtorEq, Nat.reduceAdd, Int.reduceEq, Int.reduceLT, Int.reduceLE, Int.reduceMul, Int.reduceAdd, Int.reduceSub, reduceIte, Nat.reduceLeDiff, Nat.reduceLT, Nat.reduceMul, Nat.reduceSub, Int.reduceToNat]
    have hS8 : h8[h3.size + 1]? = some (.cells #[.int .i64 0, .int .i64 0, .int .u64 0] 64 (0, 0)) := by rw [e8, h_setS _ _ _ (by simp; omega)]
    have A8 := G8.fx.own A3.2 A3.1
    have hv9 : le (peekL M7 a 8) = y % 256 ^ 8 := by
      rw [peek_same (M := M5) (fun i hi => by7 (a + i))]
      exact peek_put by5
    refine FnK.use (mload_ok a 8 G8.r (by omega) rfl (by rw [rs7, rs5, rs3, rs2]; exact okr 1 (.inl rfl) a (by omega) (by omega))) ?_
    intro z h9 ⟨ez9, K9⟩
    have hH9 := K9.at hH8 (getElem?_lt hH8)
    have hS9 := K9.at hS8 (getElem?_lt hS8)
    have m11 := getElem?_lt hH9
    have m12 := getElem?_lt hS9
    rw [ez9, hv9]
    unfold fltA
    simp -implicitDefEqProofs (disch := first | omega | (simp only [h_szP, h_szS]; done) | (simp only [h_szP, h_szS]; omega)) only [go_sem, Nat.reduceBEq, reduceCtorEq, Nat.reduceAdd, Int.reduceEq, Int.reduceLT, Int.reduceLE, Int.reduceMul, Int.reduceAdd, Int.reduceSub, reduceIte, Nat.reduceLeDiff, Nat.reduceLT, Nat.reduceMul, Nat.reduceSub, Int.reduceToNat, s9, Try.underlying33, Try.underlying3, Try.underlying22, zc62, sd62, zc64, sz62, sz64, fo64_0, sh3, sh62, pl62_0, pl62_1, Try.underlying62, Try.underlying4, zc41, sz41, Try.underlying45, hH9, hS9, eq_hold, ne_hold, decide_true, Bool.and_true, Bool.not_true]
    exact ⟨by rw [(cut_sh y hy).2]; simp, fun c hc => by rw [h_pushL _ _ _ (by have := A8.1.size; have := K9.size; omega), K9.old c (by have := A8.1.size; omega), A8.1.old c hc]⟩
  · have est5 : ∀ q r, stepR 8 75 none none a 8 b y q r = ⟨1, 0, 0, 0, 0, 0, none⟩ := fun q r => by
      unfold stepR
      rw [if_neg (by decide), if_neg (by omega), if_pos (by decide)]
      unfold stepC
      simp only
      rw [if_neg (fun e => hab e.1)]
    rw [est5] at ez5 by5
    rw [ez5]
    unfold stepT holdV stopV
    have hab' : ((a : Int) = b) = False := eq_false (by omega)
    simp -implicitDefEqProofs (disch := first | omega | (simp only [h_szP, h_szS]; done) | (simp only [h_szP, h_szS]; omega)) only [go_sem, Nat.reduceBEq, reduceCtorEq, Nat.reduceAdd, Int.reduceEq, Int.reduceLT, Int.reduceLE, Int.reduceMul, Int.reduceAdd, Int.reduceSub, reduceIte, Nat.reduceLeDiff, Nat.reduceLT, Nat.reduceMul, Nat.reduceSub, Int.reduceToNat, s9, Try.underlying33, Try.underlying3, Try.underlying22, zc62, sd62, zc64, sz62, sz64, fo64_0, sh3, sh62, pl62_0, pl62_1, Try.underlying62, Try.underlying4, zc41, sz41, Try.underlying45, hH5, hS5, ne_hold, hab', decide_true, Bool.and_true, Bool.not_true]
    obtain ⟨h6, e6⟩ : ∃ h6, h6 = (h5.setIfInBounds h3.size (.cells #[.int .u64 0, .int .i64 0] 62)).setIfInBounds (h3.size + 1) (.cells #[.int .i64 0, .int .i64 0, .int .u64 0] 64) := ⟨_, rfl⟩
    rw [← e6]
    have G6 : Chg h3 h6 s M3 M5 8 (fun _ => False) := by
      rw [e6]
      exact ((g5.widen (h0 := h3) K34).poke (Nat.le_refl _) (by have := nf5 0 (by omega); simpa using this) _).poke (by omega) (nf5 1 (by omega)) _
    have hH6 : h6[h3.size]? = some (.cells #[.int .u64 0, .int .i64 0] 62 (0, 0)) := by rw [e6]; simp -implicitDefEqProofs (disch := first | omega | (simp only [h_szP, h_szS]; done) | (simp only [h_szP, h_szS]; omega)) only [go_sem, Nat.reduceBEq, reduceCtorEq, Nat.reduceAdd, Int.reduceEq, Int.reduceLT, Int.reduceLE, Int.reduceMul, Int.reduceAdd, Int.reduceSub, reduceIte, Nat.reduceLeDiff, Nat.reduceLT, Nat.reduceMul, Nat.reduceSub, Int.reduceToNat]
    have hS6 : h6[h3.size + 1]? = some (.cells #[.int .i64 0, .int .i64 0, .int .u64 0] 64 (0, 0)) := by rw [e6, h_setS _ _ _ (by simp; omega)]
    have A6 := G6.fx.own A3.2 A3.1
    have m7 := getElem?_lt hH6
    have m8 := getElem?_lt hS6
    have nf6 : ∀ j, j < 2 → ¬ mfoot s M5 (h3.size + j) := nf5
    obtain ⟨o7, hdo7, _⟩ := do_nat 75 (le (peekL M5 a 8)) x (hv2l M5 (fun y => byteAt_lt g5.r.sr y) a) hx
    have est7 : ∀ q r, stepR 8 75 none none 0 0 a x q r = ⟨1, 0, 0, 0, 0, 0, none⟩ := fun q r => by
      unfold stepR
      rw [if_neg (by decide), if_neg (by omega), if_pos (by decide)]
      unfold stepC
      simp only
      rw [if_neg (fun e => by omega)]
    refine FnK.use (step_c 75 a x 0 0 8 none none o7 G6.r (by omega) hx rfl (by rw [rs5, rs3]; exact F1 a (by omega) (by omega)) (by rw [rs5, rs3]; exact F2 a (by omega) (by omega)) hdo7) ?_
    rw [est7]
    intro z h7 ⟨ez7, M7, g7, rs7, by7⟩
    have A7 := g7.fx.own A6.2 A6.1
    have hH7 : h7[h3.size]? = some (.cells #[.int .u64 0, .int .i64 0] 62 (0, 0)) := by rw [g7.fx.old _ (by omega) (by have := nf5 0 (by omega); simpa using this)]; exact hH6
    have hS7 : h7[h3.size + 1]? = some (.cells #[.int .i64 0, .int .i64 0, .int .u64 0] 64 (0, 0)) := by rw [g7.fx.old _ (by omega) (nf5 1 (by omega))]; exact hS6
    have m9 := getElem?_lt hH7
    have m10 := getElem?_lt hS7
    rw [ez7]
    unfold stepT holdV stopV
    simp -implicitDefEqProofs (disch := first | omega | (simp only [h_szP, h_szS]; done) | (simp only [h_szP, h_szS]; omega)) only [go_sem, Nat.reduceBEq, reduceCtorEq, Nat.reduceAdd, Int.reduceEq, Int.reduceLT, Int.reduceLE, Int.reduceMul, Int.reduceAdd, Int.reduceSub, reduceIte, Nat.reduceLeDiff, Nat.reduceLT, Nat.reduceMul, Nat.reduceSub, Int.reduceToNat, s9, Try.underlying33, Try.underlying3, Try.underlying22, zc62, sd62, zc64, sz62, sz64, fo64_0, sh3, sh62, pl62_0, pl62_1, Try.underlying62, Try.underlying4, zc41, sz41, Try.underlying45, hH7, hS7, ne_hold, decide_true, Bool.and_true, Bool.not_true]
    have nf7 : ∀ j, j < 2 → ¬ mfoot s M7 (h3.size + j) := fun j hj q => by
      rcases g7.fx.ft _ q with z | z
      · exact nf5 j hj z
      · omega
    obtain ⟨h8, e8⟩ : ∃ h8, h8 = (h7.setIfInBounds h3.size (.cells #[.int .u64 0, .int .i64 0] 62)).setIfInBounds (h3.size + 1) (.cells #[.int .i64 0, .int .i64 0, .int .u64 0] 64) := ⟨_, rfl⟩
    rw [← e8]
    have G8 := ((G6.trans g7).poke (Nat.le_refl _) (by have := nf7 0 (by omega); simpa using this) (.cells #[.int .u64 0, .int .i64 0] 62)).poke (by omega) (nf7 1 (by omega)) (.cells #[.int .i64 0, .int .i64 0, .int .u64 0] 64)
    rw [← e8] at G8
    have hH8 : h8[h3.size]? = some (.cells #[.int .u64 0, .int .i64 0] 62 (0, 0)) := by rw [e8]; simp -implicitDefEqProofs (disch := first | omega | (simp only [h_szP, h_szS]; done) | (simp only [h_szP, h_szS]; omega)) only [go_sem, Nat.reduceBEq, reduceCtorEq, Nat.reduceAdd, Int.reduceEq, Int.reduceLT, Int.reduceLE, Int.reduceMul, Int.reduceAdd, Int.reduceSub, reduceIte, Nat.reduceLeDiff, Nat.reduceLT, Nat.reduceMul, Nat.reduceSub, Int.reduceToNat]
    have hS8 : h8[h3.size + 1]? = some (.cells #[.int .i64 0, .int .i64 0, .int .u64 0] 64 (0, 0)) := by rw [e8, h_setS _ _ _ (by simp; omega)]
    have A8 := G8.fx.own A3.2 A3.1
    have hv9 : le (peekL M7 a 8) = x % 256 ^ 8 := by
      rw [peek_same (M := M5) (fun i hi => by7 (a + i))]
      rw [peek_same (M := M3) (fun i hi => by5 (a + i)), peek_same (M := M2) (fun i hi => hm3 (a + i)), hv1]
    refine FnK.use (mload_ok a 8 G8.r (by omega) rfl (by rw [rs7, rs5, rs3, rs2]; exact okr 1 (.inl rfl) a (by omega) (by omega))) ?_
    intro z h9 ⟨ez9, K9⟩
    have hH9 := K9.at hH8 (getElem?_lt hH8)
    have hS9 := K9.at hS8 (getElem?_lt hS8)
    have m11 := getElem?_lt hH9
    have m12 := getElem?_lt hS9
    rw [ez9, hv9]
    unfold fltA
    simp -implicitDefEqProofs (disch := first | omega | (simp only [h_szP, h_szS]; done) | (simp only [h_szP, h_szS]; omega)) only [go_sem, Nat.reduceBEq, reduceCtorEq, Nat.reduceAdd, Int.reduceEq, Int.reduceLT, Int.reduceLE, Int.reduceMul, Int.reduceAdd, Int.reduceSub, reduceIte, Nat.reduceLeDiff, Nat.reduceLT, Nat.reduceMul, Nat.reduceSub, Int.reduceToNat, s9, Try.underlying33, Try.underlying3, Try.underlying22, zc62, sd62, zc64, sz62, sz64, fo64_0, sh3, sh62, pl62_0, pl62_1, Try.underlying62, Try.underlying4, zc41, sz41, Try.underlying45, hH9, hS9, hab', eq_hold, ne_hold, decide_true, Bool.and_true, Bool.not_true]
    exact ⟨by rw [(cut_sh x hx).2]; simp, fun c hc => by rw [h_pushL _ _ _ (by have := A8.1.size; have := K9.size; omega), K9.old c (by have := A8.1.size; omega), A8.1.old c hc]⟩
theorem atomonce_c {h : Heap} (at_ : Nat) (hat : at_ < 65536) (ot : Nat) (hot : ot < 65536) (x : Nat) (hx : x < 18446744073709551616) (y : Nat) (hy : y < 18446744073709551616) (w : Bool) :
    Fn Try.prog 9 [.int .u16 at_, .int .u16 ot, .int .u64 x, .int .u64 y, .bool w] h fun r h' => r = .bool true ∧ ∀ b, b < h.size → h'[b]? = h[b]? := by
  cases w
  · exact once4_c at_ hat ot hot x hx y hy
  · exact once8_c at_ hat ot hot x hx y hy
end Go.SX.G
