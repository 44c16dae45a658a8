/- The reference's bytes and signs: walks and contracts. No condition. -/
import Derived.Test.YtcnalkdgdbhedaaSxBytes
import Derived.Test.YtcnalkdgdbhedaaSxHeap
import Derived.Test.YtcnalkdgdbhedaaAtom
set_option linter.unusedVariables false
set_option linter.unusedSimpArgs false
namespace Go.SX.G
open Go Go.SX Go.Proofs
set_option maxRecDepth 100000
set_option maxHeartbeats 1000000
theorem el50 : ElT Try.prog 50 5 1 1 (.int .u8 0) := ⟨sl50, by5, by decide, ze5, rfl, by rw [Try.underlying50]; rfl⟩
theorem put_c (x : BitVec 64) (n : Nat) (h0 : 1 ≤ n) (h8 : n ≤ 8) (h : Heap) : Fn Try.prog 38 [.slice none 0 0, U x, .int .i64 n] h fun v h' => Sl h' h.size v 5 1 n (u8s (bytesOf x.toNat n)) ∧ Keeps h.size h h' := by
  refine Fn_c Try.func38 mixed c38 (by kernel_rfl) ?_; rw [r38]
  simp -implicitDefEqProofs (disch := first | omega | (simp only [h_szP, h_szS]; done) | (simp only [h_szP, h_szS]; omega)) only [go_sem, Nat.reduceBEq, reduceCtorEq, Nat.reduceAdd, Int.reduceEq, Int.reduceLT, Int.reduceLE, Int.reduceMul, Int.reduceAdd, Int.reduceSub, reduceIte, Nat.reduceLeDiff, Nat.reduceLT, Nat.reduceMul, Nat.reduceSub, Int.reduceToNat, s38, sl50, ze5, by5, sz5, Try.underlying50, Try.underlying3, Try.underlying45, Try.underlying22, Try.underlying5]
  have s0 : Sl (h.push (.cells #[] 5)) h.size (.slice (some ⟨h.size, 0, none⟩) 0 0) 5 1 0 [] := ⟨rfl, .inr ⟨_, _, rfl, Nat.le_refl _, Nat.le_refl _, [], by simp, by simp⟩⟩
  refine app_sl el50 s0 rfl rfl rfl rfl (by omega) rfl (by simp) ?_
  intro v h1 s1 g1
  have k1 : Keeps h.size h h1 := (Keeps.push h _ (Nat.le_refl _)).trans (g1.keeps (fun b hb => by simp [blk] at hb; omega) (by simp))
  clear g1 s0
  simp -implicitDefEqProofs (disch := first | omega | (simp only [h_szP, h_szS]; done) | (simp only [h_szP, h_szS]; omega)) only [go_sem, Nat.reduceBEq, reduceCtorEq, Nat.reduceAdd, Int.reduceEq, Int.reduceLT, Int.reduceLE, Int.reduceMul, Int.reduceAdd, Int.reduceSub, reduceIte, Nat.reduceLeDiff, Nat.reduceLT, Nat.reduceMul, Nat.reduceSub, Int.reduceToNat, s38, sl50, ze5, by5, sz5, Try.underlying50, Try.underlying3, Try.underlying45, Try.underlying22, Try.underlying5]
  refine ⟨fun c => absurd c (by omega), fun _ => ⟨fun c => absurd c (by omega), fun _ => ?_⟩⟩
  refine LoopK.use (fun k fr h2 => ∃ (i : Nat) (v : Value), i + k = n ∧ Sl h2 h.size v 5 1 i (u8s (bytesOf x.toNat i)) ∧ Keeps h.size h h2 ∧
      fr = ((((fr0.up 8 (.int .i64 i)).up 7 v).up 2 (.int .i64 n)).up 1 (U x))) n ?_ ?_
  · exact ⟨0, v, by omega, s1, k1, rfl⟩
  · clear s1 k1 v h1
    intro k fr h2 hI
    obtain ⟨i, v, hk, s2, k2, hf⟩ := hI
    subst hf
    simp -implicitDefEqProofs (disch := first | omega | (simp only [h_szP, h_szS]; done) | (simp only [h_szP, h_szS]; omega)) only [go_sem, Nat.reduceBEq, reduceCtorEq, Nat.reduceAdd, Int.reduceEq, Int.reduceLT, Int.reduceLE, Int.reduceMul, Int.reduceAdd, Int.reduceSub, reduceIte, Nat.reduceLeDiff, Nat.reduceLT, Nat.reduceMul, Nat.reduceSub, Int.reduceToNat, s38, sl50, ze5, by5, sz5, Try.underlying50, Try.underlying3, Try.underlying45, Try.underlying22, Try.underlying5]
    refine ⟨fun hc => ?_, fun hc => ?_⟩
    · have hlo := k2.1
      have s3 := s2.push (.cells #[.int .u8 (IntKind.u8.wrap (shrI .u64 (x.toNat : Int) (8 * (i : Int))))] 5)
      refine app_sl (new := [.int .u8 (IntKind.u8.wrap (shrI .u64 (x.toNat : Int) (8 * (i : Int))))]) el50 s3 rfl (by simp [srcCells, cells?]) rfl rfl (by omega) rfl (by simp; omega) ?_
      intro v' h' s4 g4
      have k4 : Keeps h.size h h' := (k2.trans (Keeps.push h2 _ hlo)).trans (g4.keeps (fun b hb => (s3.blk_lt hb).1) (by simp; omega))
      rw [byte_of x i (by omega)] at s4
      have e5 : u8s (bytesOf x.toNat i) ++ [Value.int .u8 ((x.toNat / 256 ^ i % 256 : Nat) : Int)] = u8s (bytesOf x.toNat (i + 1)) := by rw [bytesOf_succ, u8s_app]; rfl
      rw [e5] at s4
      simp -implicitDefEqProofs (disch := first | omega | (simp only [h_szP, h_szS]; done) | (simp only [h_szP, h_szS]; omega)) only [go_sem, Nat.reduceBEq, reduceCtorEq, Nat.reduceAdd, Int.reduceEq, Int.reduceLT, Int.reduceLE, Int.reduceMul, Int.reduceAdd, Int.reduceSub, reduceIte, Nat.reduceLeDiff, Nat.reduceLT, Nat.reduceMul, Nat.reduceSub, Int.reduceToNat, s38, sl50, ze5, by5, sz5, Try.underlying50, Try.underlying3, Try.underlying45, Try.underlying22, Try.underlying5]
      exact ⟨k - 1, by omega, i + 1, v', by omega, s4, k4, rfl⟩
    · obtain rfl : i = n := by omega
      exact ⟨s2, k2⟩
theorem bit_c (x : BitVec 64) (i : Nat) (hi : i ≤ 64) (h : Heap) : Fn Try.prog 64 [U x, .int .i64 i] h fun v h' => v = U (x >>> i % 2#64) ∧ h' = h := by
  refine Fn_c Try.func64 mixed c64 (by kernel_rfl) ?_; rw [r64]
  simp -implicitDefEqProofs (disch := first | omega | (simp only [h_szP, h_szS]; done) | (simp only [h_szP, h_szS]; omega)) only [go_sem, Nat.reduceBEq, reduceCtorEq, Nat.reduceAdd, Int.reduceEq, Int.reduceLT, Int.reduceLE, Int.reduceMul, Int.reduceAdd, Int.reduceSub, reduceIte, Nat.reduceLeDiff, Nat.reduceLT, Nat.reduceMul, Nat.reduceSub, Int.reduceToNat, s64, Try.underlying3, Try.underlying45, Try.underlying22, bv_shr]
  have e : ((x >>> i % 2#64).toNat : Int) = ((x >>> i).toNat : Int) % 2 := by rw [BitVec.toNat_umod]; simp
  unfold U; rw [e]
theorem get_c (l : List Nat) (hl : ∀ b ∈ l, b < 256) (v : Value) (h : Heap) (lo : Nat) (n : Nat) (h0 : 1 ≤ n) (h8 : n ≤ 8) (hn : l.length = n) (s : Sl h lo v 5 1 n (u8s l)) :
    Fn Try.prog 29 [v, .int .i64 n] h fun u h' => u = .int .u64 (le l : Nat) ∧ h' = h := by
  have hn2 : (u8s l).length = n := by rw [u8s_len, hn]
  obtain ⟨b, cap, rfl, -, hcap, -⟩ := s.cell (i := 0) (List.getElem?_eq_getElem (by omega))
  refine Fn_c Try.func29 mixed c29 (by kernel_rfl) ?_; rw [r29]
  simp -implicitDefEqProofs (disch := first | omega | (simp only [h_szP, h_szS]; done) | (simp only [h_szP, h_szS]; omega)) only [go_sem, Nat.reduceBEq, reduceCtorEq, Nat.reduceAdd, Int.reduceEq, Int.reduceLT, Int.reduceLE, Int.reduceMul, Int.reduceAdd, Int.reduceSub, reduceIte, Nat.reduceLeDiff, Nat.reduceLT, Nat.reduceMul, Nat.reduceSub, Int.reduceToNat, s29, Try.underlying3, Try.underlying50, sl50, ze5, by5, sz5, sh5, Try.underlying5, Try.underlying22, Try.underlying45]
  refine ⟨fun c => absurd c (by omega), fun _ => ⟨fun c => absurd c (by omega), fun _ => ?_⟩⟩
  refine LoopK.use (fun k fr h2 => ∃ i : Nat, i + k = n ∧ h2 = h ∧
      fr = ((((fr0.up 6 (.int .i64 i)).up 5 (.int .u64 (le (l.take i) : Nat))).up 1 (.int .i64 n)).up 0 (.slice (some ⟨b, 0, none⟩) n cap))) n ?_ ?_
  · exact ⟨0, by omega, rfl, rfl⟩
  · intro k fr h2 hI
    obtain ⟨i, hk, hh, hf⟩ := hI
    subst hh
    subst hf
    simp -implicitDefEqProofs (disch := first | omega | (simp only [h_szP, h_szS]; done) | (simp only [h_szP, h_szS]; omega)) only [go_sem, Nat.reduceBEq, reduceCtorEq, Nat.reduceAdd, Int.reduceEq, Int.reduceLT, Int.reduceLE, Int.reduceMul, Int.reduceAdd, Int.reduceSub, reduceIte, Nat.reduceLeDiff, Nat.reduceLT, Nat.reduceMul, Nat.reduceSub, Int.reduceToNat, s29, Try.underlying3, Try.underlying50, sl50, ze5, by5, sz5, sh5, Try.underlying5, Try.underlying22, Try.underlying45]
    refine ⟨fun hc => ⟨fun _ => obK.use _ (if_pos ⟨by omega, hc⟩) ?_, fun c => absurd c (by omega)⟩, fun hc => ?_⟩
    · obtain ⟨u, hu⟩ : ∃ u, l[i]? = some u := ⟨_, List.getElem?_eq_getElem (by omega)⟩
      have hub : u < 256 := hl u (List.mem_of_getElem? hu)
      obtain ⟨b', cap', he, -, -, hcell⟩ := s.cell (i := i) (u := .int .u8 (u : Nat)) (by rw [u8s, List.getElem?_map, hu]; rfl)
      simp only [Value.slice.injEq, Option.some.injEq, Addr.mk.injEq, and_true, true_and] at he
      obtain ⟨hb, hcp⟩ := he
      subst hb
      have htk : l.take (i + 1) = l.take i ++ [u] := by rw [List.take_add_one, hu]; rfl
      have hle : le (l.take (i + 1)) = le (l.take i) + u * 256 ^ i := by rw [htk, le_app, List.length_take, Nat.min_eq_left (by omega)]
      have hlt : le (l.take (i + 1)) < 256 ^ 8 := Nat.lt_of_lt_of_le (le_lt _ fun c hc => hl c (List.mem_of_mem_take hc)) (Nat.pow_le_pow_right (by decide) (by rw [List.length_take]; omega))
      simp -implicitDefEqProofs (disch := first | omega | (simp only [h_szP, h_szS]; done) | (simp only [h_szP, h_szS]; omega)) only [go_sem, Nat.reduceBEq, reduceCtorEq, Nat.reduceAdd, Int.reduceEq, Int.reduceLT, Int.reduceLE, Int.reduceMul, Int.reduceAdd, Int.reduceSub, reduceIte, Nat.reduceLeDiff, Nat.reduceLT, Nat.reduceMul, Nat.reduceSub, Int.reduceToNat, s29, Try.underlying3, Try.underlying50, sl50, ze5, by5, sz5, sh5, Try.underlying5, Try.underlying22, Try.underlying45, hcell, Nat.mul_one, shl_byte u i hub (by omega)]
      exact ⟨k - 1, by omega, i + 1, by omega, by rw [hle]; push_cast; rfl⟩
    · have : i = n := by omega
      rw [this, ← hn, List.take_length]
theorem minus_c (x : BitVec 64) (h : Heap) : Fn Try.prog 69 [U x] h fun v h' => v = .bool x.msb ∧ h' = h := by
  refine Fn_c Try.func69 mixed c69 (by kernel_rfl) ?_; rw [r69]
  simp -implicitDefEqProofs (disch := first | omega | (simp only [h_szP, h_szS]; done) | (simp only [h_szP, h_szS]; omega)) only [go_sem, Nat.reduceBEq, reduceCtorEq, Nat.reduceAdd, Int.reduceEq, Int.reduceLT, Int.reduceLE, Int.reduceMul, Int.reduceAdd, Int.reduceSub, reduceIte, Nat.reduceLeDiff, Nat.reduceLT, Nat.reduceMul, Nat.reduceSub, Int.reduceToNat, s69, Try.underlying22]
  refine FnK.val (bit_c x 63 (by omega) _) ?_
  simp -implicitDefEqProofs (disch := first | omega | (simp only [h_szP, h_szS]; done) | (simp only [h_szP, h_szS]; omega)) only [go_sem, Nat.reduceBEq, reduceCtorEq, Nat.reduceAdd, Int.reduceEq, Int.reduceLT, Int.reduceLE, Int.reduceMul, Int.reduceAdd, Int.reduceSub, reduceIte, Nat.reduceLeDiff, Nat.reduceLT, Nat.reduceMul, Nat.reduceSub, Int.reduceToNat, s69, Try.underlying22]
  rw [msb_bit]
theorem less_c (x y : BitVec 64) (h : Heap) : Fn Try.prog 39 [U x, U y] h fun v h' => v = .bool (decide (SLt x y)) ∧ h' = h := by
  refine Fn_c Try.func39 mixed c39 (by kernel_rfl) ?_; rw [r39]
  simp -implicitDefEqProofs (disch := first | omega | (simp only [h_szP, h_szS]; done) | (simp only [h_szP, h_szS]; omega)) only [go_sem, Nat.reduceBEq, reduceCtorEq, Nat.reduceAdd, Int.reduceEq, Int.reduceLT, Int.reduceLE, Int.reduceMul, Int.reduceAdd, Int.reduceSub, reduceIte, Nat.reduceLeDiff, Nat.reduceLT, Nat.reduceMul, Nat.reduceSub, Int.reduceToNat, s39, Try.underlying4, Try.underlying22]
  refine FnK.val (minus_c x _) ?_
  simp -implicitDefEqProofs (disch := first | omega | (simp only [h_szP, h_szS]; done) | (simp only [h_szP, h_szS]; omega)) only [go_sem, Nat.reduceBEq, reduceCtorEq, Nat.reduceAdd, Int.reduceEq, Int.reduceLT, Int.reduceLE, Int.reduceMul, Int.reduceAdd, Int.reduceSub, reduceIte, Nat.reduceLeDiff, Nat.reduceLT, Nat.reduceMul, Nat.reduceSub, Int.reduceToNat, s39, Try.underlying4, Try.underlying22]
  refine FnK.val (minus_c y _) ?_
  simp -implicitDefEqProofs (disch := first | omega | (simp only [h_szP, h_szS]; done) | (simp only [h_szP, h_szS]; omega)) only [go_sem, Nat.reduceBEq, reduceCtorEq, Nat.reduceAdd, Int.reduceEq, Int.reduceLT, Int.reduceLE, Int.reduceMul, Int.reduceAdd, Int.reduceSub, reduceIte, Nat.reduceLeDiff, Nat.reduceLT, Nat.reduceMul, Nat.reduceSub, Int.reduceToNat, s39, Try.underlying4, Try.underlying22, bv_ltu, less_split]
  refine ⟨fun e => by rw [if_pos e], fun e => ?_⟩
  refine FnK.val (minus_c x _) ?_
  simp -implicitDefEqProofs (disch := first | omega | (simp only [h_szP, h_szS]; done) | (simp only [h_szP, h_szS]; omega)) only [go_sem, Nat.reduceBEq, reduceCtorEq, Nat.reduceAdd, Int.reduceEq, Int.reduceLT, Int.reduceLE, Int.reduceMul, Int.reduceAdd, Int.reduceSub, reduceIte, Nat.reduceLeDiff, Nat.reduceLT, Nat.reduceMul, Nat.reduceSub, Int.reduceToNat, s39, Try.underlying4, Try.underlying22]
  rw [less_split, if_neg e]
theorem rsext_c (x : BitVec 64) (n : Nat) (h0 : 1 ≤ n) (h1 : n ≤ 64) (h : Heap) : Fn Try.prog 32 [U x, .int .i64 n] h fun v h' => v = U ((x <<< (64 - n)).sshiftRight (64 - n)) ∧ h' = h := by
  refine Fn_c Try.func32 mixed c32 (by kernel_rfl) ?_; rw [r32]
  simp -implicitDefEqProofs (disch := first | omega | (simp only [h_szP, h_szS]; done) | (simp only [h_szP, h_szS]; omega)) only [go_sem, Nat.reduceBEq, reduceCtorEq, Nat.reduceAdd, Int.reduceEq, Int.reduceLT, Int.reduceLE, Int.reduceMul, Int.reduceAdd, Int.reduceSub, reduceIte, Nat.reduceLeDiff, Nat.reduceLT, Nat.reduceMul, Nat.reduceSub, Int.reduceToNat, s32, Try.underlying3, Try.underlying45, Try.underlying22]
  refine ⟨fun c => absurd c (by omega), fun _ => ⟨fun c => absurd c (by omega), fun _ => ?_⟩⟩
  refine LoopK.use (fun k fr h2 => ∃ (i : Nat) (o : BitVec 64), i + k = 64 ∧ h2 = h ∧ (∀ j, j < 64 → o.getLsbD j = (decide (j < i) && x.getLsbD (min j (n - 1)))) ∧
      fr = ((((fr0.up 6 (.int .i64 i)).up 5 (U o)).up 1 (.int .i64 n)).up 0 (U x))) 64 ?_ ?_
  · exact ⟨0, 0#64, by omega, rfl, by simp, rfl⟩
  · intro k fr h2 hI
    obtain ⟨i, o, hk, hh, ho, hf⟩ := hI
    subst hh
    subst hf
    have key : ∀ m : Nat, min i (n - 1) = m → i < 64 → (∀ j, j < 64 → (o ||| (x >>> m % 2#64) <<< i).getLsbD j = (decide (j < i + 1) && x.getLsbD (min j (n - 1)))) := by
      intro m hm hi j hj
      rw [bit_val, or_bit _ _ _ _ hj hi, ho j hj]
      by_cases h1 : j = i
      · subst h1; simp [hm]
      · by_cases h2 : j < i
        · simp [h2, h1, show j < i + 1 by omega]
        · simp [h2, h1, show ¬ j < i + 1 by omega]
    simp -implicitDefEqProofs (disch := first | omega | (simp only [h_szP, h_szS]; done) | (simp only [h_szP, h_szS]; omega)) only [go_sem, Nat.reduceBEq, reduceCtorEq, Nat.reduceAdd, Int.reduceEq, Int.reduceLT, Int.reduceLE, Int.reduceMul, Int.reduceAdd, Int.reduceSub, reduceIte, Nat.reduceLeDiff, Nat.reduceLT, Nat.reduceMul, Nat.reduceSub, Int.reduceToNat, s32, Try.underlying3, Try.underlying45, Try.underlying22]
    refine ⟨fun hc => ⟨fun hc2 => ?_, fun hc2 => ?_⟩, fun hc => ?_⟩
    · have e : (n : Int) - 1 = ((n - 1 : Nat) : Int) := by omega
      rw [e]
      refine FnK.val (bit_c x (n - 1) (by omega) _) ?_
      simp -implicitDefEqProofs (disch := first | omega | (simp only [h_szP, h_szS]; done) | (simp only [h_szP, h_szS]; omega)) only [go_sem, Nat.reduceBEq, reduceCtorEq, Nat.reduceAdd, Int.reduceEq, Int.reduceLT, Int.reduceLE, Int.reduceMul, Int.reduceAdd, Int.reduceSub, reduceIte, Nat.reduceLeDiff, Nat.reduceLT, Nat.reduceMul, Nat.reduceSub, Int.reduceToNat, s32, Try.underlying3, Try.underlying45, Try.underlying22, bv_shl, bv_or]
      exact ⟨k - 1, by omega, i + 1, _, by omega, key (n - 1) (by omega) (by omega), rfl⟩
    · refine FnK.val (bit_c x i (by omega) _) ?_
      simp -implicitDefEqProofs (disch := first | omega | (simp only [h_szP, h_szS]; done) | (simp only [h_szP, h_szS]; omega)) only [go_sem, Nat.reduceBEq, reduceCtorEq, Nat.reduceAdd, Int.reduceEq, Int.reduceLT, Int.reduceLE, Int.reduceMul, Int.reduceAdd, Int.reduceSub, reduceIte, Nat.reduceLeDiff, Nat.reduceLT, Nat.reduceMul, Nat.reduceSub, Int.reduceToNat, s32, Try.underlying3, Try.underlying45, Try.underlying22, bv_shl, bv_or]
      exact ⟨k - 1, by omega, i + 1, _, by omega, key i (by omega) (by omega), rfl⟩
    · rw [sext_bits x n h0 h1 o (fun j hj => by rw [ho j hj]; simp; omega)]
theorem rwidth_c (op : Int) (h : Heap) : Fn Try.prog 15 [.int .i64 op] h fun v h' => v = .int .i64 (widthI op) ∧ h' = h := by
  refine Fn_c Try.func15 mixed c15 (by kernel_rfl) ?_; rw [r15]
  simp -implicitDefEqProofs (disch := first | omega | (simp only [h_szP, h_szS]; done) | (simp only [h_szP, h_szS]; omega)) only [go_sem, Nat.reduceBEq, reduceCtorEq, Nat.reduceAdd, Int.reduceEq, Int.reduceLT, Int.reduceLE, Int.reduceMul, Int.reduceAdd, Int.reduceSub, reduceIte, Nat.reduceLeDiff, Nat.reduceLT, Nat.reduceMul, Nat.reduceSub, Int.reduceToNat, s15, Try.underlying3, Value.int.injEq]
  unfold widthI
  refine ⟨fun a => ⟨fun b => ?_, fun b => ⟨fun c => ⟨fun d => ?_, fun d => ?_⟩, fun c => ?_⟩⟩, fun a => ⟨fun c => ⟨fun d => ?_, fun d => ?_⟩, fun c => ?_⟩⟩ <;> (split <;> (try split) <;> omega)
theorem amo4_c (op : Int) (h0 : 63 ≤ op) (h1 : op ≤ 73) (A X : BitVec 64) (h : Heap) : Fn Try.prog 12 [.int .i64 op, U A, U X] h fun v h' => v = told (amo M4 (op) (A &&& M4) (X &&& M4) (sx4 (A &&& M4)) (sx4 (X &&& M4))) ∧ Keeps h.size h h' := by
  have hw : widthI op = ((4 : Nat) : Int) := by unfold widthI; rw [if_pos ⟨h0, h1⟩]; rfl
  refine Fn_c Try.func12 mixed c12 (by kernel_rfl) ?_; rw [r12]
  simp -implicitDefEqProofs (disch := first | omega | (simp only [h_szP, h_szS]; done) | (simp only [h_szP, h_szS]; omega)) only [go_sem, Nat.reduceBEq, reduceCtorEq, Nat.reduceAdd, Int.reduceEq, Int.reduceLT, Int.reduceLE, Int.reduceMul, Int.reduceAdd, Int.reduceSub, reduceIte, Nat.reduceLeDiff, Nat.reduceLT, Nat.reduceMul, Nat.reduceSub, Int.reduceToNat, s12, Try.underlying3, Try.underlying22]
  refine FnK.val (rwidth_c op _) ?_
  rw [hw]
  simp -implicitDefEqProofs (disch := first | omega | (simp only [h_szP, h_szS]; done) | (simp only [h_szP, h_szS]; omega)) only [go_sem, Nat.reduceBEq, reduceCtorEq, Nat.reduceAdd, Int.reduceEq, Int.reduceLT, Int.reduceLE, Int.reduceMul, Int.reduceAdd, Int.reduceSub, reduceIte, Nat.reduceLeDiff, Nat.reduceLT, Nat.reduceMul, Nat.reduceSub, Int.reduceToNat, s12, Try.underlying3, Try.underlying22]
  refine FnK.use (put_c A 4 (by omega) (by omega) _) ?_
  intro v h2 hp
  obtain ⟨s1, k1⟩ := hp
  simp -implicitDefEqProofs (disch := first | omega | (simp only [h_szP, h_szS]; done) | (simp only [h_szP, h_szS]; omega)) only [go_sem, Nat.reduceBEq, reduceCtorEq, Nat.reduceAdd, Int.reduceEq, Int.reduceLT, Int.reduceLE, Int.reduceMul, Int.reduceAdd, Int.reduceSub, reduceIte, Nat.reduceLeDiff, Nat.reduceLT, Nat.reduceMul, Nat.reduceSub, Int.reduceToNat, s12, Try.underlying3, Try.underlying22]
  refine FnK.val (get_c _ (fun _ => bytesOf_lt) v h2 _ 4 (by omega) (by omega) (bytesOf_len _ _) s1) ?_
  rw [cut4]
  simp -implicitDefEqProofs (disch := first | omega | (simp only [h_szP, h_szS]; done) | (simp only [h_szP, h_szS]; omega)) only [go_sem, Nat.reduceBEq, reduceCtorEq, Nat.reduceAdd, Int.reduceEq, Int.reduceLT, Int.reduceLE, Int.reduceMul, Int.reduceAdd, Int.reduceSub, reduceIte, Nat.reduceLeDiff, Nat.reduceLT, Nat.reduceMul, Nat.reduceSub, Int.reduceToNat, s12, Try.underlying3, Try.underlying22]
  refine FnK.use (put_c X 4 (by omega) (by omega) _) ?_
  intro v' h3 hp
  obtain ⟨s2, k2⟩ := hp
  simp -implicitDefEqProofs (disch := first | omega | (simp only [h_szP, h_szS]; done) | (simp only [h_szP, h_szS]; omega)) only [go_sem, Nat.reduceBEq, reduceCtorEq, Nat.reduceAdd, Int.reduceEq, Int.reduceLT, Int.reduceLE, Int.reduceMul, Int.reduceAdd, Int.reduceSub, reduceIte, Nat.reduceLeDiff, Nat.reduceLT, Nat.reduceMul, Nat.reduceSub, Int.reduceToNat, s12, Try.underlying3, Try.underlying22]
  refine FnK.val (get_c _ (fun _ => bytesOf_lt) v' h3 _ 4 (by omega) (by omega) (bytesOf_len _ _) s2) ?_
  rw [cut4]
  have k3 : Keeps h.size h h3 := k1.trans (k2.le k1.1)
  simp -implicitDefEqProofs (disch := first | omega | (simp only [h_szP, h_szS]; done) | (simp only [h_szP, h_szS]; omega)) only [go_sem, Nat.reduceBEq, reduceCtorEq, Nat.reduceAdd, Int.reduceEq, Int.reduceLT, Int.reduceLE, Int.reduceMul, Int.reduceAdd, Int.reduceSub, reduceIte, Nat.reduceLeDiff, Nat.reduceLT, Nat.reduceMul, Nat.reduceSub, Int.reduceToNat, s12, Try.underlying3, Try.underlying22]
  clear s1 s2 k1 k2
  refine FnK.val (rsext_c (A &&& M4) 32 (by omega) (by omega) _) ?_
  rw [sxt4]
  simp -implicitDefEqProofs (disch := first | omega | (simp only [h_szP, h_szS]; done) | (simp only [h_szP, h_szS]; omega)) only [go_sem, Nat.reduceBEq, reduceCtorEq, Nat.reduceAdd, Int.reduceEq, Int.reduceLT, Int.reduceLE, Int.reduceMul, Int.reduceAdd, Int.reduceSub, reduceIte, Nat.reduceLeDiff, Nat.reduceLT, Nat.reduceMul, Nat.reduceSub, Int.reduceToNat, s12, Try.underlying3, Try.underlying22]
  refine FnK.val (rsext_c (X &&& M4) 32 (by omega) (by omega) _) ?_
  rw [sxt4]
  simp -implicitDefEqProofs (disch := first | omega | (simp only [h_szP, h_szS]; done) | (simp only [h_szP, h_szS]; omega)) only [go_sem, Nat.reduceBEq, reduceCtorEq, Nat.reduceAdd, Int.reduceEq, Int.reduceLT, Int.reduceLE, Int.reduceMul, Int.reduceAdd, Int.reduceSub, reduceIte, Nat.reduceLeDiff, Nat.reduceLT, Nat.reduceMul, Nat.reduceSub, Int.reduceToNat, s12, Try.underlying3, Try.underlying22]
  refine FnK.val (less_c _ _ _) ?_
  simp -implicitDefEqProofs (disch := first | omega | (simp only [h_szP, h_szS]; done) | (simp only [h_szP, h_szS]; omega)) only [go_sem, Nat.reduceBEq, reduceCtorEq, Nat.reduceAdd, Int.reduceEq, Int.reduceLT, Int.reduceLE, Int.reduceMul, Int.reduceAdd, Int.reduceSub, reduceIte, Nat.reduceLeDiff, Nat.reduceLT, Nat.reduceMul, Nat.reduceSub, Int.reduceToNat, s12, Try.underlying3, Try.underlying22, bv_ltu, bv_add, bv_and, bv_or, bv_xor]
  refine And.intro (fun h2 => ?_) (fun n2 => And.intro (fun h3 => ?_) (fun n3 => And.intro (fun h4 => ?_) (fun n4 => And.intro (fun h5 => ?_) (fun n5 => And.intro (fun h6 => ?_) (fun n6 => And.intro (fun h7 => And.intro (fun hh => ?_) (fun hh => ?_)) (fun n7 => And.intro (fun h8 => And.intro (fun hh => ?_) (fun hh => ?_)) (fun n8 => And.intro (fun h9 => And.intro (fun hh => ?_) (fun hh => ?_)) (fun n9 => And.intro (fun h10 => And.intro (fun hh => ?_) (fun hh => ?_)) (fun n10 => ?_)))))))))
  · have e : op = 65 := by omega
    refine FnK.use (put_c _ 4 (by omega) (by omega) _) ?_
    intro v4 h4 hp
    obtain ⟨s4, k4⟩ := hp
    simp -implicitDefEqProofs (disch := first | omega | (simp only [h_szP, h_szS]; done) | (simp only [h_szP, h_szS]; omega)) only [go_sem, Nat.reduceBEq, reduceCtorEq, Nat.reduceAdd, Int.reduceEq, Int.reduceLT, Int.reduceLE, Int.reduceMul, Int.reduceAdd, Int.reduceSub, reduceIte, Nat.reduceLeDiff, Nat.reduceLT, Nat.reduceMul, Nat.reduceSub, Int.reduceToNat, s12, Try.underlying3, Try.underlying22]
    refine FnK.val (get_c _ (fun _ => bytesOf_lt) v4 h4 _ 4 (by omega) (by omega) (bytesOf_len _ _) s4) ?_
    rw [cut4]
    simp -implicitDefEqProofs (disch := first | omega | (simp only [h_szP, h_szS]; done) | (simp only [h_szP, h_szS]; omega)) only [go_sem, Nat.reduceBEq, reduceCtorEq, Nat.reduceAdd, Int.reduceEq, Int.reduceLT, Int.reduceLE, Int.reduceMul, Int.reduceAdd, Int.reduceSub, reduceIte, Nat.reduceLeDiff, Nat.reduceLT, Nat.reduceMul, Nat.reduceSub, Int.reduceToNat, s12, Try.underlying3, Try.underlying22]
    refine And.intro ?_ (k3.trans (k4.le k3.1))
    rw [show op = (65 : Int) by omega, mm65, told_some]
  · have e : op = 66 := by omega
    refine FnK.use (put_c _ 4 (by omega) (by omega) _) ?_
    intro v4 h4 hp
    obtain ⟨s4, k4⟩ := hp
    simp -implicitDefEqProofs (disch := first | omega | (simp only [h_szP, h_szS]; done) | (simp only [h_szP, h_szS]; omega)) only [go_sem, Nat.reduceBEq, reduceCtorEq, Nat.reduceAdd, Int.reduceEq, Int.reduceLT, Int.reduceLE, Int.reduceMul, Int.reduceAdd, Int.reduceSub, reduceIte, Nat.reduceLeDiff, Nat.reduceLT, Nat.reduceMul, Nat.reduceSub, Int.reduceToNat, s12, Try.underlying3, Try.underlying22]
    refine FnK.val (get_c _ (fun _ => bytesOf_lt) v4 h4 _ 4 (by omega) (by omega) (bytesOf_len _ _) s4) ?_
    rw [cut4]
    simp -implicitDefEqProofs (disch := first | omega | (simp only [h_szP, h_szS]; done) | (simp only [h_szP, h_szS]; omega)) only [go_sem, Nat.reduceBEq, reduceCtorEq, Nat.reduceAdd, Int.reduceEq, Int.reduceLT, Int.reduceLE, Int.reduceMul, Int.reduceAdd, Int.reduceSub, reduceIte, Nat.reduceLeDiff, Nat.reduceLT, Nat.reduceMul, Nat.reduceSub, Int.reduceToNat, s12, Try.underlying3, Try.underlying22]
    refine And.intro ?_ (k3.trans (k4.le k3.1))
    rw [show op = (66 : Int) by omega, mm66, told_some]
  · have e : op = 67 := by omega
    refine FnK.use (put_c _ 4 (by omega) (by omega) _) ?_
    intro v4 h4 hp
    obtain ⟨s4, k4⟩ := hp
    simp -implicitDefEqProofs (disch := first | omega | (simp only [h_szP, h_szS]; done) | (simp only [h_szP, h_szS]; omega)) only [go_sem, Nat.reduceBEq, reduceCtorEq, Nat.reduceAdd, Int.reduceEq, Int.reduceLT, Int.reduceLE, Int.reduceMul, Int.reduceAdd, Int.reduceSub, reduceIte, Nat.reduceLeDiff, Nat.reduceLT, Nat.reduceMul, Nat.reduceSub, Int.reduceToNat, s12, Try.underlying3, Try.underlying22]
    refine FnK.val (get_c _ (fun _ => bytesOf_lt) v4 h4 _ 4 (by omega) (by omega) (bytesOf_len _ _) s4) ?_
    rw [cut4]
    simp -implicitDefEqProofs (disch := first | omega | (simp only [h_szP, h_szS]; done) | (simp only [h_szP, h_szS]; omega)) only [go_sem, Nat.reduceBEq, reduceCtorEq, Nat.reduceAdd, Int.reduceEq, Int.reduceLT, Int.reduceLE, Int.reduceMul, Int.reduceAdd, Int.reduceSub, reduceIte, Nat.reduceLeDiff, Nat.reduceLT, Nat.reduceMul, Nat.reduceSub, Int.reduceToNat, s12, Try.underlying3, Try.underlying22]
    refine And.intro ?_ (k3.trans (k4.le k3.1))
    rw [show op = (67 : Int) by omega, mm67, told_some]
  · have e : op = 68 := by omega
    refine FnK.use (put_c _ 4 (by omega) (by omega) _) ?_
    intro v4 h4 hp
    obtain ⟨s4, k4⟩ := hp
    simp -implicitDefEqProofs (disch := first | omega | (simp only [h_szP, h_szS]; done) | (simp only [h_szP, h_szS]; omega)) only [go_sem, Nat.reduceBEq, reduceCtorEq, Nat.reduceAdd, Int.reduceEq, Int.reduceLT, Int.reduceLE, Int.reduceMul, Int.reduceAdd, Int.reduceSub, reduceIte, Nat.reduceLeDiff, Nat.reduceLT, Nat.reduceMul, Nat.reduceSub, Int.reduceToNat, s12, Try.underlying3, Try.underlying22]
    refine FnK.val (get_c _ (fun _ => bytesOf_lt) v4 h4 _ 4 (by omega) (by omega) (bytesOf_len _ _) s4) ?_
    rw [cut4]
    simp -implicitDefEqProofs (disch := first | omega | (simp only [h_szP, h_szS]; done) | (simp only [h_szP, h_szS]; omega)) only [go_sem, Nat.reduceBEq, reduceCtorEq, Nat.reduceAdd, Int.reduceEq, Int.reduceLT, Int.reduceLE, Int.reduceMul, Int.reduceAdd, Int.reduceSub, reduceIte, Nat.reduceLeDiff, Nat.reduceLT, Nat.reduceMul, Nat.reduceSub, Int.reduceToNat, s12, Try.underlying3, Try.underlying22]
    refine And.intro ?_ (k3.trans (k4.le k3.1))
    rw [show op = (68 : Int) by omega, mm68, told_some]
  · have e : op = 69 := by omega
    refine FnK.use (put_c _ 4 (by omega) (by omega) _) ?_
    intro v4 h4 hp
    obtain ⟨s4, k4⟩ := hp
    simp -implicitDefEqProofs (disch := first | omega | (simp only [h_szP, h_szS]; done) | (simp only [h_szP, h_szS]; omega)) only [go_sem, Nat.reduceBEq, reduceCtorEq, Nat.reduceAdd, Int.reduceEq, Int.reduceLT, Int.reduceLE, Int.reduceMul, Int.reduceAdd, Int.reduceSub, reduceIte, Nat.reduceLeDiff, Nat.reduceLT, Nat.reduceMul, Nat.reduceSub, Int.reduceToNat, s12, Try.underlying3, Try.underlying22]
    refine FnK.val (get_c _ (fun _ => bytesOf_lt) v4 h4 _ 4 (by omega) (by omega) (bytesOf_len _ _) s4) ?_
    rw [cut4]
    simp -implicitDefEqProofs (disch := first | omega | (simp only [h_szP, h_szS]; done) | (simp only [h_szP, h_szS]; omega)) only [go_sem, Nat.reduceBEq, reduceCtorEq, Nat.reduceAdd, Int.reduceEq, Int.reduceLT, Int.reduceLE, Int.reduceMul, Int.reduceAdd, Int.reduceSub, reduceIte, Nat.reduceLeDiff, Nat.reduceLT, Nat.reduceMul, Nat.reduceSub, Int.reduceToNat, s12, Try.underlying3, Try.underlying22]
    refine And.intro ?_ (k3.trans (k4.le k3.1))
    rw [show op = (69 : Int) by omega, mm69, told_some]
  · have e : op = 70 := by omega
    refine FnK.use (put_c _ 4 (by omega) (by omega) _) ?_
    intro v4 h4 hp
    obtain ⟨s4, k4⟩ := hp
    simp -implicitDefEqProofs (disch := first | omega | (simp only [h_szP, h_szS]; done) | (simp only [h_szP, h_szS]; omega)) only [go_sem, Nat.reduceBEq, reduceCtorEq, Nat.reduceAdd, Int.reduceEq, Int.reduceLT, Int.reduceLE, Int.reduceMul, Int.reduceAdd, Int.reduceSub, reduceIte, Nat.reduceLeDiff, Nat.reduceLT, Nat.reduceMul, Nat.reduceSub, Int.reduceToNat, s12, Try.underlying3, Try.underlying22]
    refine FnK.val (get_c _ (fun _ => bytesOf_lt) v4 h4 _ 4 (by omega) (by omega) (bytesOf_len _ _) s4) ?_
    rw [cut4]
    simp -implicitDefEqProofs (disch := first | omega | (simp only [h_szP, h_szS]; done) | (simp only [h_szP, h_szS]; omega)) only [go_sem, Nat.reduceBEq, reduceCtorEq, Nat.reduceAdd, Int.reduceEq, Int.reduceLT, Int.reduceLE, Int.reduceMul, Int.reduceAdd, Int.reduceSub, reduceIte, Nat.reduceLeDiff, Nat.reduceLT, Nat.reduceMul, Nat.reduceSub, Int.reduceToNat, s12, Try.underlying3, Try.underlying22]
    refine And.intro ?_ (k3.trans (k4.le k3.1))
    rw [show op = (70 : Int) by omega, mm70a hh, told_some]
  · have e : op = 70 := by omega
    refine FnK.use (put_c _ 4 (by omega) (by omega) _) ?_
    intro v4 h4 hp
    obtain ⟨s4, k4⟩ := hp
    simp -implicitDefEqProofs (disch := first | omega | (simp only [h_szP, h_szS]; done) | (simp only [h_szP, h_szS]; omega)) only [go_sem, Nat.reduceBEq, reduceCtorEq, Nat.reduceAdd, Int.reduceEq, Int.reduceLT, Int.reduceLE, Int.reduceMul, Int.reduceAdd, Int.reduceSub, reduceIte, Nat.reduceLeDiff, Nat.reduceLT, Nat.reduceMul, Nat.reduceSub, Int.reduceToNat, s12, Try.underlying3, Try.underlying22]
    refine FnK.val (get_c _ (fun _ => bytesOf_lt) v4 h4 _ 4 (by omega) (by omega) (bytesOf_len _ _) s4) ?_
    rw [cut4]
    simp -implicitDefEqProofs (disch := first | omega | (simp only [h_szP, h_szS]; done) | (simp only [h_szP, h_szS]; omega)) only [go_sem, Nat.reduceBEq, reduceCtorEq, Nat.reduceAdd, Int.reduceEq, Int.reduceLT, Int.reduceLE, Int.reduceMul, Int.reduceAdd, Int.reduceSub, reduceIte, Nat.reduceLeDiff, Nat.reduceLT, Nat.reduceMul, Nat.reduceSub, Int.reduceToNat, s12, Try.underlying3, Try.underlying22]
    refine And.intro ?_ (k3.trans (k4.le k3.1))
    rw [show op = (70 : Int) by omega, mm70b wide4 hh, told_some]
  · have e : op = 71 := by omega
    refine FnK.use (put_c _ 4 (by omega) (by omega) _) ?_
    intro v4 h4 hp
    obtain ⟨s4, k4⟩ := hp
    simp -implicitDefEqProofs (disch := first | omega | (simp only [h_szP, h_szS]; done) | (simp only [h_szP, h_szS]; omega)) only [go_sem, Nat.reduceBEq, reduceCtorEq, Nat.reduceAdd, Int.reduceEq, Int.reduceLT, Int.reduceLE, Int.reduceMul, Int.reduceAdd, Int.reduceSub, reduceIte, Nat.reduceLeDiff, Nat.reduceLT, Nat.reduceMul, Nat.reduceSub, Int.reduceToNat, s12, Try.underlying3, Try.underlying22]
    refine FnK.val (get_c _ (fun _ => bytesOf_lt) v4 h4 _ 4 (by omega) (by omega) (bytesOf_len _ _) s4) ?_
    rw [cut4]
    simp -implicitDefEqProofs (disch := first | omega | (simp only [h_szP, h_szS]; done) | (simp only [h_szP, h_szS]; omega)) only [go_sem, Nat.reduceBEq, reduceCtorEq, Nat.reduceAdd, Int.reduceEq, Int.reduceLT, Int.reduceLE, Int.reduceMul, Int.reduceAdd, Int.reduceSub, reduceIte, Nat.reduceLeDiff, Nat.reduceLT, Nat.reduceMul, Nat.reduceSub, Int.reduceToNat, s12, Try.underlying3, Try.underlying22]
    refine And.intro ?_ (k3.trans (k4.le k3.1))
    rw [show op = (71 : Int) by omega, mm71a hh, told_some]
  · have e : op = 71 := by omega
    refine FnK.use (put_c _ 4 (by omega) (by omega) _) ?_
    intro v4 h4 hp
    obtain ⟨s4, k4⟩ := hp
    simp -implicitDefEqProofs (disch := first | omega | (simp only [h_szP, h_szS]; done) | (simp only [h_szP, h_szS]; omega)) only [go_sem, Nat.reduceBEq, reduceCtorEq, Nat.reduceAdd, Int.reduceEq, Int.reduceLT, Int.reduceLE, Int.reduceMul, Int.reduceAdd, Int.reduceSub, reduceIte, Nat.reduceLeDiff, Nat.reduceLT, Nat.reduceMul, Nat.reduceSub, Int.reduceToNat, s12, Try.underlying3, Try.underlying22]
    refine FnK.val (get_c _ (fun _ => bytesOf_lt) v4 h4 _ 4 (by omega) (by omega) (bytesOf_len _ _) s4) ?_
    rw [cut4]
    simp -implicitDefEqProofs (disch := first | omega | (simp only [h_szP, h_szS]; done) | (simp only [h_szP, h_szS]; omega)) only [go_sem, Nat.reduceBEq, reduceCtorEq, Nat.reduceAdd, Int.reduceEq, Int.reduceLT, Int.reduceLE, Int.reduceMul, Int.reduceAdd, Int.reduceSub, reduceIte, Nat.reduceLeDiff, Nat.reduceLT, Nat.reduceMul, Nat.reduceSub, Int.reduceToNat, s12, Try.underlying3, Try.underlying22]
    refine And.intro ?_ (k3.trans (k4.le k3.1))
    rw [show op = (71 : Int) by omega, mm71b hh, told_some]
  · have e : op = 72 := by omega
    refine FnK.use (put_c _ 4 (by omega) (by omega) _) ?_
    intro v4 h4 hp
    obtain ⟨s4, k4⟩ := hp
    simp -implicitDefEqProofs (disch := first | omega | (simp only [h_szP, h_szS]; done) | (simp only [h_szP, h_szS]; omega)) only [go_sem, Nat.reduceBEq, reduceCtorEq, Nat.reduceAdd, Int.reduceEq, Int.reduceLT, Int.reduceLE, Int.reduceMul, Int.reduceAdd, Int.reduceSub, reduceIte, Nat.reduceLeDiff, Nat.reduceLT, Nat.reduceMul, Nat.reduceSub, Int.reduceToNat, s12, Try.underlying3, Try.underlying22]
    refine FnK.val (get_c _ (fun _ => bytesOf_lt) v4 h4 _ 4 (by omega) (by omega) (bytesOf_len _ _) s4) ?_
    rw [cut4]
    simp -implicitDefEqProofs (disch := first | omega | (simp only [h_szP, h_szS]; done) | (simp only [h_szP, h_szS]; omega)) only [go_sem, Nat.reduceBEq, reduceCtorEq, Nat.reduceAdd, Int.reduceEq, Int.reduceLT, Int.reduceLE, Int.reduceMul, Int.reduceAdd, Int.reduceSub, reduceIte, Nat.reduceLeDiff, Nat.reduceLT, Nat.reduceMul, Nat.reduceSub, Int.reduceToNat, s12, Try.underlying3, Try.underlying22]
    refine And.intro ?_ (k3.trans (k4.le k3.1))
    rw [show op = (72 : Int) by omega, mm72a hh, told_some]
  · have e : op = 72 := by omega
    refine FnK.use (put_c _ 4 (by omega) (by omega) _) ?_
    intro v4 h4 hp
    obtain ⟨s4, k4⟩ := hp
    simp -implicitDefEqProofs (disch := first | omega | (simp only [h_szP, h_szS]; done) | (simp only [h_szP, h_szS]; omega)) only [go_sem, Nat.reduceBEq, reduceCtorEq, Nat.reduceAdd, Int.reduceEq, Int.reduceLT, Int.reduceLE, Int.reduceMul, Int.reduceAdd, Int.reduceSub, reduceIte, Nat.reduceLeDiff, Nat.reduceLT, Nat.reduceMul, Nat.reduceSub, Int.reduceToNat, s12, Try.underlying3, Try.underlying22]
    refine FnK.val (get_c _ (fun _ => bytesOf_lt) v4 h4 _ 4 (by omega) (by omega) (bytesOf_len _ _) s4) ?_
    rw [cut4]
    simp -implicitDefEqProofs (disch := first | omega | (simp only [h_szP, h_szS]; done) | (simp only [h_szP, h_szS]; omega)) only [go_sem, Nat.reduceBEq, reduceCtorEq, Nat.reduceAdd, Int.reduceEq, Int.reduceLT, Int.reduceLE, Int.reduceMul, Int.reduceAdd, Int.reduceSub, reduceIte, Nat.reduceLeDiff, Nat.reduceLT, Nat.reduceMul, Nat.reduceSub, Int.reduceToNat, s12, Try.underlying3, Try.underlying22]
    refine And.intro ?_ (k3.trans (k4.le k3.1))
    rw [show op = (72 : Int) by omega, mm72b hh, told_some]
  · have e : op = 73 := by omega
    refine FnK.use (put_c _ 4 (by omega) (by omega) _) ?_
    intro v4 h4 hp
    obtain ⟨s4, k4⟩ := hp
    simp -implicitDefEqProofs (disch := first | omega | (simp only [h_szP, h_szS]; done) | (simp only [h_szP, h_szS]; omega)) only [go_sem, Nat.reduceBEq, reduceCtorEq, Nat.reduceAdd, Int.reduceEq, Int.reduceLT, Int.reduceLE, Int.reduceMul, Int.reduceAdd, Int.reduceSub, reduceIte, Nat.reduceLeDiff, Nat.reduceLT, Nat.reduceMul, Nat.reduceSub, Int.reduceToNat, s12, Try.underlying3, Try.underlying22]
    refine FnK.val (get_c _ (fun _ => bytesOf_lt) v4 h4 _ 4 (by omega) (by omega) (bytesOf_len _ _) s4) ?_
    rw [cut4]
    simp -implicitDefEqProofs (disch := first | omega | (simp only [h_szP, h_szS]; done) | (simp only [h_szP, h_szS]; omega)) only [go_sem, Nat.reduceBEq, reduceCtorEq, Nat.reduceAdd, Int.reduceEq, Int.reduceLT, Int.reduceLE, Int.reduceMul, Int.reduceAdd, Int.reduceSub, reduceIte, Nat.reduceLeDiff, Nat.reduceLT, Nat.reduceMul, Nat.reduceSub, Int.reduceToNat, s12, Try.underlying3, Try.underlying22]
    refine And.intro ?_ (k3.trans (k4.le k3.1))
    rw [show op = (73 : Int) by omega, mm73a hh, told_some]
  · have e : op = 73 := by omega
    refine FnK.use (put_c _ 4 (by omega) (by omega) _) ?_
    intro v4 h4 hp
    obtain ⟨s4, k4⟩ := hp
    simp -implicitDefEqProofs (disch := first | omega | (simp only [h_szP, h_szS]; done) | (simp only [h_szP, h_szS]; omega)) only [go_sem, Nat.reduceBEq, reduceCtorEq, Nat.reduceAdd, Int.reduceEq, Int.reduceLT, Int.reduceLE, Int.reduceMul, Int.reduceAdd, Int.reduceSub, reduceIte, Nat.reduceLeDiff, Nat.reduceLT, Nat.reduceMul, Nat.reduceSub, Int.reduceToNat, s12, Try.underlying3, Try.underlying22]
    refine FnK.val (get_c _ (fun _ => bytesOf_lt) v4 h4 _ 4 (by omega) (by omega) (bytesOf_len _ _) s4) ?_
    rw [cut4]
    simp -implicitDefEqProofs (disch := first | omega | (simp only [h_szP, h_szS]; done) | (simp only [h_szP, h_szS]; omega)) only [go_sem, Nat.reduceBEq, reduceCtorEq, Nat.reduceAdd, Int.reduceEq, Int.reduceLT, Int.reduceLE, Int.reduceMul, Int.reduceAdd, Int.reduceSub, reduceIte, Nat.reduceLeDiff, Nat.reduceLT, Nat.reduceMul, Nat.reduceSub, Int.reduceToNat, s12, Try.underlying3, Try.underlying22]
    refine And.intro ?_ (k3.trans (k4.le k3.1))
    rw [show op = (73 : Int) by omega, mm73b hh, told_some]
  · refine And.intro ?_ k3
    rw [mm0 (by omega), told_none]
theorem amo8_c (op : Int) (h0 : 74 ≤ op) (h1 : op ≤ 84) (A X : BitVec 64) (h : Heap) : Fn Try.prog 12 [.int .i64 op, U A, U X] h fun v h' => v = told (amo M8 (op - 11) (A &&& M8) (X &&& M8) (sx8 (A &&& M8)) (sx8 (X &&& M8))) ∧ Keeps h.size h h' := by
  have hw : widthI op = ((8 : Nat) : Int) := by unfold widthI; rw [if_neg (by omega), if_pos ⟨h0, h1⟩]; rfl
  refine Fn_c Try.func12 mixed c12 (by kernel_rfl) ?_; rw [r12]
  simp -implicitDefEqProofs (disch := first | omega | (simp only [h_szP, h_szS]; done) | (simp only [h_szP, h_szS]; omega)) only [go_sem, Nat.reduceBEq, reduceCtorEq, Nat.reduceAdd, Int.reduceEq, Int.reduceLT, Int.reduceLE, Int.reduceMul, Int.reduceAdd, Int.reduceSub, reduceIte, Nat.reduceLeDiff, Nat.reduceLT, Nat.reduceMul, Nat.reduceSub, Int.reduceToNat, s12, Try.underlying3, Try.underlying22]
  refine FnK.val (rwidth_c op _) ?_
  rw [hw]
  simp -implicitDefEqProofs (disch := first | omega | (simp only [h_szP, h_szS]; done) | (simp only [h_szP, h_szS]; omega)) only [go_sem, Nat.reduceBEq, reduceCtorEq, Nat.reduceAdd, Int.reduceEq, Int.reduceLT, Int.reduceLE, Int.reduceMul, Int.reduceAdd, Int.reduceSub, reduceIte, Nat.reduceLeDiff, Nat.reduceLT, Nat.reduceMul, Nat.reduceSub, Int.reduceToNat, s12, Try.underlying3, Try.underlying22]
  refine FnK.use (put_c A 8 (by omega) (by omega) _) ?_
  intro v h2 hp
  obtain ⟨s1, k1⟩ := hp
  simp -implicitDefEqProofs (disch := first | omega | (simp only [h_szP, h_szS]; done) | (simp only [h_szP, h_szS]; omega)) only [go_sem, Nat.reduceBEq, reduceCtorEq, Nat.reduceAdd, Int.reduceEq, Int.reduceLT, Int.reduceLE, Int.reduceMul, Int.reduceAdd, Int.reduceSub, reduceIte, Nat.reduceLeDiff, Nat.reduceLT, Nat.reduceMul, Nat.reduceSub, Int.reduceToNat, s12, Try.underlying3, Try.underlying22]
  refine FnK.val (get_c _ (fun _ => bytesOf_lt) v h2 _ 8 (by omega) (by omega) (bytesOf_len _ _) s1) ?_
  rw [cut8]
  simp -implicitDefEqProofs (disch := first | omega | (simp only [h_szP, h_szS]; done) | (simp only [h_szP, h_szS]; omega)) only [go_sem, Nat.reduceBEq, reduceCtorEq, Nat.reduceAdd, Int.reduceEq, Int.reduceLT, Int.reduceLE, Int.reduceMul, Int.reduceAdd, Int.reduceSub, reduceIte, Nat.reduceLeDiff, Nat.reduceLT, Nat.reduceMul, Nat.reduceSub, Int.reduceToNat, s12, Try.underlying3, Try.underlying22]
  refine FnK.use (put_c X 8 (by omega) (by omega) _) ?_
  intro v' h3 hp
  obtain ⟨s2, k2⟩ := hp
  simp -implicitDefEqProofs (disch := first | omega | (simp only [h_szP, h_szS]; done) | (simp only [h_szP, h_szS]; omega)) only [go_sem, Nat.reduceBEq, reduceCtorEq, Nat.reduceAdd, Int.reduceEq, Int.reduceLT, Int.reduceLE, Int.reduceMul, Int.reduceAdd, Int.reduceSub, reduceIte, Nat.reduceLeDiff, Nat.reduceLT, Nat.reduceMul, Nat.reduceSub, Int.reduceToNat, s12, Try.underlying3, Try.underlying22]
  refine FnK.val (get_c _ (fun _ => bytesOf_lt) v' h3 _ 8 (by omega) (by omega) (bytesOf_len _ _) s2) ?_
  rw [cut8]
  have k3 : Keeps h.size h h3 := k1.trans (k2.le k1.1)
  simp -implicitDefEqProofs (disch := first | omega | (simp only [h_szP, h_szS]; done) | (simp only [h_szP, h_szS]; omega)) only [go_sem, Nat.reduceBEq, reduceCtorEq, Nat.reduceAdd, Int.reduceEq, Int.reduceLT, Int.reduceLE, Int.reduceMul, Int.reduceAdd, Int.reduceSub, reduceIte, Nat.reduceLeDiff, Nat.reduceLT, Nat.reduceMul, Nat.reduceSub, Int.reduceToNat, s12, Try.underlying3, Try.underlying22]
  clear s1 s2 k1 k2
  refine FnK.val (rsext_c (A &&& M8) 64 (by omega) (by omega) _) ?_
  rw [sxt8]
  simp -implicitDefEqProofs (disch := first | omega | (simp only [h_szP, h_szS]; done) | (simp only [h_szP, h_szS]; omega)) only [go_sem, Nat.reduceBEq, reduceCtorEq, Nat.reduceAdd, Int.reduceEq, Int.reduceLT, Int.reduceLE, Int.reduceMul, Int.reduceAdd, Int.reduceSub, reduceIte, Nat.reduceLeDiff, Nat.reduceLT, Nat.reduceMul, Nat.reduceSub, Int.reduceToNat, s12, Try.underlying3, Try.underlying22]
  refine FnK.val (rsext_c (X &&& M8) 64 (by omega) (by omega) _) ?_
  rw [sxt8]
  simp -implicitDefEqProofs (disch := first | omega | (simp only [h_szP, h_szS]; done) | (simp only [h_szP, h_szS]; omega)) only [go_sem, Nat.reduceBEq, reduceCtorEq, Nat.reduceAdd, Int.reduceEq, Int.reduceLT, Int.reduceLE, Int.reduceMul, Int.reduceAdd, Int.reduceSub, reduceIte, Nat.reduceLeDiff, Nat.reduceLT, Nat.reduceMul, Nat.reduceSub, Int.reduceToNat, s12, Try.underlying3, Try.underlying22]
  refine FnK.val (less_c _ _ _) ?_
  simp -implicitDefEqProofs (disch := first | omega | (simp only [h_szP, h_szS]; done) | (simp only [h_szP, h_szS]; omega)) only [go_sem, Nat.reduceBEq, reduceCtorEq, Nat.reduceAdd, Int.reduceEq, Int.reduceLT, Int.reduceLE, Int.reduceMul, Int.reduceAdd, Int.reduceSub, reduceIte, Nat.reduceLeDiff, Nat.reduceLT, Nat.reduceMul, Nat.reduceSub, Int.reduceToNat, s12, Try.underlying3, Try.underlying22, bv_ltu, bv_add, bv_and, bv_or, bv_xor]
  refine And.intro (fun h2 => ?_) (fun n2 => And.intro (fun h3 => ?_) (fun n3 => And.intro (fun h4 => ?_) (fun n4 => And.intro (fun h5 => ?_) (fun n5 => And.intro (fun h6 => ?_) (fun n6 => And.intro (fun h7 => And.intro (fun hh => ?_) (fun hh => ?_)) (fun n7 => And.intro (fun h8 => And.intro (fun hh => ?_) (fun hh => ?_)) (fun n8 => And.intro (fun h9 => And.intro (fun hh => ?_) (fun hh => ?_)) (fun n9 => And.intro (fun h10 => And.intro (fun hh => ?_) (fun hh => ?_)) (fun n10 => ?_)))))))))
  · have e : op = 76 := by omega
    refine FnK.use (put_c _ 8 (by omega) (by omega) _) ?_
    intro v4 h4 hp
    obtain ⟨s4, k4⟩ := hp
    simp -implicitDefEqProofs (disch := first | omega | (simp only [h_szP, h_szS]; done) | (simp only [h_szP, h_szS]; omega)) only [go_sem, Nat.reduceBEq, reduceCtorEq, Nat.reduceAdd, Int.reduceEq, Int.reduceLT, Int.reduceLE, Int.reduceMul, Int.reduceAdd, Int.reduceSub, reduceIte, Nat.reduceLeDiff, Nat.reduceLT, Nat.reduceMul, Nat.reduceSub, Int.reduceToNat, s12, Try.underlying3, Try.underlying22]
    refine FnK.val (get_c _ (fun _ => bytesOf_lt) v4 h4 _ 8 (by omega) (by omega) (bytesOf_len _ _) s4) ?_
    rw [cut8]
    simp -implicitDefEqProofs (disch := first | omega | (simp only [h_szP, h_szS]; done) | (simp only [h_szP, h_szS]; omega)) only [go_sem, Nat.reduceBEq, reduceCtorEq, Nat.reduceAdd, Int.reduceEq, Int.reduceLT, Int.reduceLE, Int.reduceMul, Int.reduceAdd, Int.reduceSub, reduceIte, Nat.reduceLeDiff, Nat.reduceLT, Nat.reduceMul, Nat.reduceSub, Int.reduceToNat, s12, Try.underlying3, Try.underlying22]
    refine And.intro ?_ (k3.trans (k4.le k3.1))
    rw [show op - 11 = (65 : Int) by omega, mm65, told_some]
  · have e : op = 77 := by omega
    refine FnK.use (put_c _ 8 (by omega) (by omega) _) ?_
    intro v4 h4 hp
    obtain ⟨s4, k4⟩ := hp
    simp -implicitDefEqProofs (disch := first | omega | (simp only [h_szP, h_szS]; done) | (simp only [h_szP, h_szS]; omega)) only [go_sem, Nat.reduceBEq, reduceCtorEq, Nat.reduceAdd, Int.reduceEq, Int.reduceLT, Int.reduceLE, Int.reduceMul, Int.reduceAdd, Int.reduceSub, reduceIte, Nat.reduceLeDiff, Nat.reduceLT, Nat.reduceMul, Nat.reduceSub, Int.reduceToNat, s12, Try.underlying3, Try.underlying22]
    refine FnK.val (get_c _ (fun _ => bytesOf_lt) v4 h4 _ 8 (by omega) (by omega) (bytesOf_len _ _) s4) ?_
    rw [cut8]
    simp -implicitDefEqProofs (disch := first | omega | (simp only [h_szP, h_szS]; done) | (simp only [h_szP, h_szS]; omega)) only [go_sem, Nat.reduceBEq, reduceCtorEq, Nat.reduceAdd, Int.reduceEq, Int.reduceLT, Int.reduceLE, Int.reduceMul, Int.reduceAdd, Int.reduceSub, reduceIte, Nat.reduceLeDiff, Nat.reduceLT, Nat.reduceMul, Nat.reduceSub, Int.reduceToNat, s12, Try.underlying3, Try.underlying22]
    refine And.intro ?_ (k3.trans (k4.le k3.1))
    rw [show op - 11 = (66 : Int) by omega, mm66, told_some]
  · have e : op = 78 := by omega
    refine FnK.use (put_c _ 8 (by omega) (by omega) _) ?_
    intro v4 h4 hp
    obtain ⟨s4, k4⟩ := hp
    simp -implicitDefEqProofs (disch := first | omega | (simp only [h_szP, h_szS]; done) | (simp only [h_szP, h_szS]; omega)) only [go_sem, Nat.reduceBEq, reduceCtorEq, Nat.reduceAdd, Int.reduceEq, Int.reduceLT, Int.reduceLE, Int.reduceMul, Int.reduceAdd, Int.reduceSub, reduceIte, Nat.reduceLeDiff, Nat.reduceLT, Nat.reduceMul, Nat.reduceSub, Int.reduceToNat, s12, Try.underlying3, Try.underlying22]
    refine FnK.val (get_c _ (fun _ => bytesOf_lt) v4 h4 _ 8 (by omega) (by omega) (bytesOf_len _ _) s4) ?_
    rw [cut8]
    simp -implicitDefEqProofs (disch := first | omega | (simp only [h_szP, h_szS]; done) | (simp only [h_szP, h_szS]; omega)) only [go_sem, Nat.reduceBEq, reduceCtorEq, Nat.reduceAdd, Int.reduceEq, Int.reduceLT, Int.reduceLE, Int.reduceMul, Int.reduceAdd, Int.reduceSub, reduceIte, Nat.reduceLeDiff, Nat.reduceLT, Nat.reduceMul, Nat.reduceSub, Int.reduceToNat, s12, Try.underlying3, Try.underlying22]
    refine And.intro ?_ (k3.trans (k4.le k3.1))
    rw [show op - 11 = (67 : Int) by omega, mm67, told_some]
  · have e : op = 79 := by omega
    refine FnK.use (put_c _ 8 (by omega) (by omega) _) ?_
    intro v4 h4 hp
    obtain ⟨s4, k4⟩ := hp
    simp -implicitDefEqProofs (disch := first | omega | (simp only [h_szP, h_szS]; done) | (simp only [h_szP, h_szS]; omega)) only [go_sem, Nat.reduceBEq, reduceCtorEq, Nat.reduceAdd, Int.reduceEq, Int.reduceLT, Int.reduceLE, Int.reduceMul, Int.reduceAdd, Int.reduceSub, reduceIte, Nat.reduceLeDiff, Nat.reduceLT, Nat.reduceMul, Nat.reduceSub, Int.reduceToNat, s12, Try.underlying3, Try.underlying22]
    refine FnK.val (get_c _ (fun _ => bytesOf_lt) v4 h4 _ 8 (by omega) (by omega) (bytesOf_len _ _) s4) ?_
    rw [cut8]
    simp -implicitDefEqProofs (disch := first | omega | (simp only [h_szP, h_szS]; done) | (simp only [h_szP, h_szS]; omega)) only [go_sem, Nat.reduceBEq, reduceCtorEq, Nat.reduceAdd, Int.reduceEq, Int.reduceLT, Int.reduceLE, Int.reduceMul, Int.reduceAdd, Int.reduceSub, reduceIte, Nat.reduceLeDiff, Nat.reduceLT, Nat.reduceMul, Nat.reduceSub, Int.reduceToNat, s12, Try.underlying3, Try.underlying22]
    refine And.intro ?_ (k3.trans (k4.le k3.1))
    rw [show op - 11 = (68 : Int) by omega, mm68, told_some]
  · have e : op = 80 := by omega
    refine FnK.use (put_c _ 8 (by omega) (by omega) _) ?_
    intro v4 h4 hp
    obtain ⟨s4, k4⟩ := hp
    simp -implicitDefEqProofs (disch := first | omega | (simp only [h_szP, h_szS]; done) | (simp only [h_szP, h_szS]; omega)) only [go_sem, Nat.reduceBEq, reduceCtorEq, Nat.reduceAdd, Int.reduceEq, Int.reduceLT, Int.reduceLE, Int.reduceMul, Int.reduceAdd, Int.reduceSub, reduceIte, Nat.reduceLeDiff, Nat.reduceLT, Nat.reduceMul, Nat.reduceSub, Int.reduceToNat, s12, Try.underlying3, Try.underlying22]
    refine FnK.val (get_c _ (fun _ => bytesOf_lt) v4 h4 _ 8 (by omega) (by omega) (bytesOf_len _ _) s4) ?_
    rw [cut8]
    simp -implicitDefEqProofs (disch := first | omega | (simp only [h_szP, h_szS]; done) | (simp only [h_szP, h_szS]; omega)) only [go_sem, Nat.reduceBEq, reduceCtorEq, Nat.reduceAdd, Int.reduceEq, Int.reduceLT, Int.reduceLE, Int.reduceMul, Int.reduceAdd, Int.reduceSub, reduceIte, Nat.reduceLeDiff, Nat.reduceLT, Nat.reduceMul, Nat.reduceSub, Int.reduceToNat, s12, Try.underlying3, Try.underlying22]
    refine And.intro ?_ (k3.trans (k4.le k3.1))
    rw [show op - 11 = (69 : Int) by omega, mm69, told_some]
  · have e : op = 81 := by omega
    refine FnK.use (put_c _ 8 (by omega) (by omega) _) ?_
    intro v4 h4 hp
    obtain ⟨s4, k4⟩ := hp
    simp -implicitDefEqProofs (disch := first | omega | (simp only [h_szP, h_szS]; done) | (simp only [h_szP, h_szS]; omega)) only [go_sem, Nat.reduceBEq, reduceCtorEq, Nat.reduceAdd, Int.reduceEq, Int.reduceLT, Int.reduceLE, Int.reduceMul, Int.reduceAdd, Int.reduceSub, reduceIte, Nat.reduceLeDiff, Nat.reduceLT, Nat.reduceMul, Nat.reduceSub, Int.reduceToNat, s12, Try.underlying3, Try.underlying22]
    refine FnK.val (get_c _ (fun _ => bytesOf_lt) v4 h4 _ 8 (by omega) (by omega) (bytesOf_len _ _) s4) ?_
    rw [cut8]
    simp -implicitDefEqProofs (disch := first | omega | (simp only [h_szP, h_szS]; done) | (simp only [h_szP, h_szS]; omega)) only [go_sem, Nat.reduceBEq, reduceCtorEq, Nat.reduceAdd, Int.reduceEq, Int.reduceLT, Int.reduceLE, Int.reduceMul, Int.reduceAdd, Int.reduceSub, reduceIte, Nat.reduceLeDiff, Nat.reduceLT, Nat.reduceMul, Nat.reduceSub, Int.reduceToNat, s12, Try.underlying3, Try.underlying22]
    refine And.intro ?_ (k3.trans (k4.le k3.1))
    rw [show op - 11 = (70 : Int) by omega, mm70a hh, told_some]
  · have e : op = 81 := by omega
    refine FnK.use (put_c _ 8 (by omega) (by omega) _) ?_
    intro v4 h4 hp
    obtain ⟨s4, k4⟩ := hp
    simp -implicitDefEqProofs (disch := first | omega | (simp only [h_szP, h_szS]; done) | (simp only [h_szP, h_szS]; omega)) only [go_sem, Nat.reduceBEq, reduceCtorEq, Nat.reduceAdd, Int.reduceEq, Int.reduceLT, Int.reduceLE, Int.reduceMul, Int.reduceAdd, Int.reduceSub, reduceIte, Nat.reduceLeDiff, Nat.reduceLT, Nat.reduceMul, Nat.reduceSub, Int.reduceToNat, s12, Try.underlying3, Try.underlying22]
    refine FnK.val (get_c _ (fun _ => bytesOf_lt) v4 h4 _ 8 (by omega) (by omega) (bytesOf_len _ _) s4) ?_
    rw [cut8]
    simp -implicitDefEqProofs (disch := first | omega | (simp only [h_szP, h_szS]; done) | (simp only [h_szP, h_szS]; omega)) only [go_sem, Nat.reduceBEq, reduceCtorEq, Nat.reduceAdd, Int.reduceEq, Int.reduceLT, Int.reduceLE, Int.reduceMul, Int.reduceAdd, Int.reduceSub, reduceIte, Nat.reduceLeDiff, Nat.reduceLT, Nat.reduceMul, Nat.reduceSub, Int.reduceToNat, s12, Try.underlying3, Try.underlying22]
    refine And.intro ?_ (k3.trans (k4.le k3.1))
    rw [show op - 11 = (70 : Int) by omega, mm70b wide8 hh, told_some]
  · have e : op = 82 := by omega
    refine FnK.use (put_c _ 8 (by omega) (by omega) _) ?_
    intro v4 h4 hp
    obtain ⟨s4, k4⟩ := hp
    simp -implicitDefEqProofs (disch := first | omega | (simp only [h_szP, h_szS]; done) | (simp only [h_szP, h_szS]; omega)) only [go_sem, Nat.reduceBEq, reduceCtorEq, Nat.reduceAdd, Int.reduceEq, Int.reduceLT, Int.reduceLE, Int.reduceMul, Int.reduceAdd, Int.reduceSub, reduceIte, Nat.reduceLeDiff, Nat.reduceLT, Nat.reduceMul, Nat.reduceSub, Int.reduceToNat, s12, Try.underlying3, Try.underlying22]
    refine FnK.val (get_c _ (fun _ => bytesOf_lt) v4 h4 _ 8 (by omega) (by omega) (bytesOf_len _ _) s4) ?_
    rw [cut8]
    simp -implicitDefEqProofs (disch := first | omega | (simp only [h_szP, h_szS]; done) | (simp only [h_szP, h_szS]; omega)) only [go_sem, Nat.reduceBEq, reduceCtorEq, Nat.reduceAdd, Int.reduceEq, Int.reduceLT, Int.reduceLE, Int.reduceMul, Int.reduceAdd, Int.reduceSub, reduceIte, Nat.reduceLeDiff, Nat.reduceLT, Nat.reduceMul, Nat.reduceSub, Int.reduceToNat, s12, Try.underlying3, Try.underlying22]
    refine And.intro ?_ (k3.trans (k4.le k3.1))
    rw [show op - 11 = (71 : Int) by omega, mm71a hh, told_some]
  · have e : op = 82 := by omega
    refine FnK.use (put_c _ 8 (by omega) (by omega) _) ?_
    intro v4 h4 hp
    obtain ⟨s4, k4⟩ := hp
    simp -implicitDefEqProofs (disch := first | omega | (simp only [h_szP, h_szS]; done) | (simp only [h_szP, h_szS]; omega)) only [go_sem, Nat.reduceBEq, reduceCtorEq, Nat.reduceAdd, Int.reduceEq, Int.reduceLT, Int.reduceLE, Int.reduceMul, Int.reduceAdd, Int.reduceSub, reduceIte, Nat.reduceLeDiff, Nat.reduceLT, Nat.reduceMul, Nat.reduceSub, Int.reduceToNat, s12, Try.underlying3, Try.underlying22]
    refine FnK.val (get_c _ (fun _ => bytesOf_lt) v4 h4 _ 8 (by omega) (by omega) (bytesOf_len _ _) s4) ?_
    rw [cut8]
    simp -implicitDefEqProofs (disch := first | omega | (simp only [h_szP, h_szS]; done) | (simp only [h_szP, h_szS]; omega)) only [go_sem, Nat.reduceBEq, reduceCtorEq, Nat.reduceAdd, Int.reduceEq, Int.reduceLT, Int.reduceLE, Int.reduceMul, Int.reduceAdd, Int.reduceSub, reduceIte, Nat.reduceLeDiff, Nat.reduceLT, Nat.reduceMul, Nat.reduceSub, Int.reduceToNat, s12, Try.underlying3, Try.underlying22]
    refine And.intro ?_ (k3.trans (k4.le k3.1))
    rw [show op - 11 = (71 : Int) by omega, mm71b hh, told_some]
  · have e : op = 83 := by omega
    refine FnK.use (put_c _ 8 (by omega) (by omega) _) ?_
    intro v4 h4 hp
    obtain ⟨s4, k4⟩ := hp
    simp -implicitDefEqProofs (disch := first | omega | (simp only [h_szP, h_szS]; done) | (simp only [h_szP, h_szS]; omega)) only [go_sem, Nat.reduceBEq, reduceCtorEq, Nat.reduceAdd, Int.reduceEq, Int.reduceLT, Int.reduceLE, Int.reduceMul, Int.reduceAdd, Int.reduceSub, reduceIte, Nat.reduceLeDiff, Nat.reduceLT, Nat.reduceMul, Nat.reduceSub, Int.reduceToNat, s12, Try.underlying3, Try.underlying22]
    refine FnK.val (get_c _ (fun _ => bytesOf_lt) v4 h4 _ 8 (by omega) (by omega) (bytesOf_len _ _) s4) ?_
    rw [cut8]
    simp -implicitDefEqProofs (disch := first | omega | (simp only [h_szP, h_szS]; done) | (simp only [h_szP, h_szS]; omega)) only [go_sem, Nat.reduceBEq, reduceCtorEq, Nat.reduceAdd, Int.reduceEq, Int.reduceLT, Int.reduceLE, Int.reduceMul, Int.reduceAdd, Int.reduceSub, reduceIte, Nat.reduceLeDiff, Nat.reduceLT, Nat.reduceMul, Nat.reduceSub, Int.reduceToNat, s12, Try.underlying3, Try.underlying22]
    refine And.intro ?_ (k3.trans (k4.le k3.1))
    rw [show op - 11 = (72 : Int) by omega, mm72a hh, told_some]
  · have e : op = 83 := by omega
    refine FnK.use (put_c _ 8 (by omega) (by omega) _) ?_
    intro v4 h4 hp
    obtain ⟨s4, k4⟩ := hp
    simp -implicitDefEqProofs (disch := first | omega | (simp only [h_szP, h_szS]; done) | (simp only [h_szP, h_szS]; omega)) only [go_sem, Nat.reduceBEq, reduceCtorEq, Nat.reduceAdd, Int.reduceEq, Int.reduceLT, Int.reduceLE, Int.reduceMul, Int.reduceAdd, Int.reduceSub, reduceIte, Nat.reduceLeDiff, Nat.reduceLT, Nat.reduceMul, Nat.reduceSub, Int.reduceToNat, s12, Try.underlying3, Try.underlying22]
    refine FnK.val (get_c _ (fun _ => bytesOf_lt) v4 h4 _ 8 (by omega) (by omega) (bytesOf_len _ _) s4) ?_
    rw [cut8]
    simp -implicitDefEqProofs (disch := first | omega | (simp only [h_szP, h_szS]; done) | (simp only [h_szP, h_szS]; omega)) only [go_sem, Nat.reduceBEq, reduceCtorEq, Nat.reduceAdd, Int.reduceEq, Int.reduceLT, Int.reduceLE, Int.reduceMul, Int.reduceAdd, Int.reduceSub, reduceIte, Nat.reduceLeDiff, Nat.reduceLT, Nat.reduceMul, Nat.reduceSub, Int.reduceToNat, s12, Try.underlying3, Try.underlying22]
    refine And.intro ?_ (k3.trans (k4.le k3.1))
    rw [show op - 11 = (72 : Int) by omega, mm72b hh, told_some]
  · have e : op = 84 := by omega
    refine FnK.use (put_c _ 8 (by omega) (by omega) _) ?_
    intro v4 h4 hp
    obtain ⟨s4, k4⟩ := hp
    simp -implicitDefEqProofs (disch := first | omega | (simp only [h_szP, h_szS]; done) | (simp only [h_szP, h_szS]; omega)) only [go_sem, Nat.reduceBEq, reduceCtorEq, Nat.reduceAdd, Int.reduceEq, Int.reduceLT, Int.reduceLE, Int.reduceMul, Int.reduceAdd, Int.reduceSub, reduceIte, Nat.reduceLeDiff, Nat.reduceLT, Nat.reduceMul, Nat.reduceSub, Int.reduceToNat, s12, Try.underlying3, Try.underlying22]
    refine FnK.val (get_c _ (fun _ => bytesOf_lt) v4 h4 _ 8 (by omega) (by omega) (bytesOf_len _ _) s4) ?_
    rw [cut8]
    simp -implicitDefEqProofs (disch := first | omega | (simp only [h_szP, h_szS]; done) | (simp only [h_szP, h_szS]; omega)) only [go_sem, Nat.reduceBEq, reduceCtorEq, Nat.reduceAdd, Int.reduceEq, Int.reduceLT, Int.reduceLE, Int.reduceMul, Int.reduceAdd, Int.reduceSub, reduceIte, Nat.reduceLeDiff, Nat.reduceLT, Nat.reduceMul, Nat.reduceSub, Int.reduceToNat, s12, Try.underlying3, Try.underlying22]
    refine And.intro ?_ (k3.trans (k4.le k3.1))
    rw [show op - 11 = (73 : Int) by omega, mm73a hh, told_some]
  · have e : op = 84 := by omega
    refine FnK.use (put_c _ 8 (by omega) (by omega) _) ?_
    intro v4 h4 hp
    obtain ⟨s4, k4⟩ := hp
    simp -implicitDefEqProofs (disch := first | omega | (simp only [h_szP, h_szS]; done) | (simp only [h_szP, h_szS]; omega)) only [go_sem, Nat.reduceBEq, reduceCtorEq, Nat.reduceAdd, Int.reduceEq, Int.reduceLT, Int.reduceLE, Int.reduceMul, Int.reduceAdd, Int.reduceSub, reduceIte, Nat.reduceLeDiff, Nat.reduceLT, Nat.reduceMul, Nat.reduceSub, Int.reduceToNat, s12, Try.underlying3, Try.underlying22]
    refine FnK.val (get_c _ (fun _ => bytesOf_lt) v4 h4 _ 8 (by omega) (by omega) (bytesOf_len _ _) s4) ?_
    rw [cut8]
    simp -implicitDefEqProofs (disch := first | omega | (simp only [h_szP, h_szS]; done) | (simp only [h_szP, h_szS]; omega)) only [go_sem, Nat.reduceBEq, reduceCtorEq, Nat.reduceAdd, Int.reduceEq, Int.reduceLT, Int.reduceLE, Int.reduceMul, Int.reduceAdd, Int.reduceSub, reduceIte, Nat.reduceLeDiff, Nat.reduceLT, Nat.reduceMul, Nat.reduceSub, Int.reduceToNat, s12, Try.underlying3, Try.underlying22]
    refine And.intro ?_ (k3.trans (k4.le k3.1))
    rw [show op - 11 = (73 : Int) by omega, mm73b hh, told_some]
  · refine And.intro ?_ k3
    rw [mm0 (by omega), told_none]
theorem amo0_c (op : Int) (h0 : ¬ (63 ≤ op ∧ op ≤ 84)) (x y : Int) (h : Heap) : Fn Try.prog 12 [.int .i64 op, .int .u64 x, .int .u64 y] h fun v h' => v = told none ∧ h' = h := by
  have hw : widthI op = 0 := by unfold widthI; rw [if_neg (by omega), if_neg (by omega)]
  refine Fn_c Try.func12 mixed c12 (by kernel_rfl) ?_; rw [r12]
  simp -implicitDefEqProofs (disch := first | omega | (simp only [h_szP, h_szS]; done) | (simp only [h_szP, h_szS]; omega)) only [go_sem, Nat.reduceBEq, reduceCtorEq, Nat.reduceAdd, Int.reduceEq, Int.reduceLT, Int.reduceLE, Int.reduceMul, Int.reduceAdd, Int.reduceSub, reduceIte, Nat.reduceLeDiff, Nat.reduceLT, Nat.reduceMul, Nat.reduceSub, Int.reduceToNat, s12, Try.underlying3, Try.underlying22]
  refine FnK.val (rwidth_c op _) ?_
  rw [hw]
  simp -implicitDefEqProofs (disch := first | omega | (simp only [h_szP, h_szS]; done) | (simp only [h_szP, h_szS]; omega)) only [go_sem, Nat.reduceBEq, reduceCtorEq, Nat.reduceAdd, Int.reduceEq, Int.reduceLT, Int.reduceLE, Int.reduceMul, Int.reduceAdd, Int.reduceSub, reduceIte, Nat.reduceLeDiff, Nat.reduceLT, Nat.reduceMul, Nat.reduceSub, Int.reduceToNat, s12, Try.underlying3, Try.underlying22]
  rfl
end Go.SX.G
