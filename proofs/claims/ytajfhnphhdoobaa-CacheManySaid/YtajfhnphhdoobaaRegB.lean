/- Regions: what each function of the package does, over heaps. No condition but on sizes. -/
import Derived.Test.YtajfhnphhdoobaaGen
import Derived.Test.YtajfhnphhdoobaaMemPlain
set_option linter.unusedVariables false
set_option linter.unusedSimpArgs false
namespace Go.SX.G
open Go Go.SX Go.Proofs
set_option maxRecDepth 100000
set_option maxHeartbeats 1000000
theorem elR : ElT Try.prog 115 83 3 24 (.agg #[.int .u64 0, .int .u64 0, .int .i64 0]) := ⟨sl115, by83, by decide, ze83, rfl, by rw [Try.underlying115]; rfl⟩
theorem without_c {h : Heap} {v : Value} {rs : List Reg} (s e : Nat) (hv : Vs h v encR 3 rs) (hl : rs.length ≤ 1000000000) :
    Fn Try.prog 83 [v, .int .u64 s, .int .u64 e] h fun r h' => Ss h' h.size r 83 encR 3 (woL s e rs) ∧ Keeps h.size h h' := by
  obtain ⟨a, cap, e1, hcap⟩ := hv.shape
  subst e1
  refine Fn_c Try.func83 mixed c83 (by kernel_rfl) ?_; rw [r83]
  simp -implicitDefEqProofs (disch := first | omega | (simp only [h_szP, h_szS]; done) | (simp only [h_szP, h_szS]; omega)) only [go_sem, Nat.reduceBEq, reduceCtorEq, Nat.reduceAdd, Int.reduceEq, Int.reduceLT, Int.reduceLE, Int.reduceMul, Int.reduceAdd, Int.reduceSub, reduceIte, Nat.reduceLeDiff, Nat.reduceLT, Nat.reduceMul, Nat.reduceSub, Int.reduceToNat, s83, Try.underlying115, sl115, ze83, by83, sz83, Try.underlying3, sh83, zc83, fo83_1, sh26, Try.underlying26, fo83_0, fo83_2, sh3, sd83, pl83_0, pl83_1, pl83_2]
  refine LoopK.use (fun k fr h1 => ∃ i vo, i + k = rs.length ∧ Keeps h.size h h1 ∧ Ss h1 h.size vo 83 encR 3 (woL s e (rs.take i)) ∧
      fr = ((((((fr0.up 12 (.int .i64 i)).up 11 (.int .i64 rs.length)).up 10 (.slice a rs.length cap)).up 7 vo).up 2 (.int .u64 e)).up 1 (.int .u64 s))) rs.length ?_ ?_
  · exact ⟨0, _, by omega, Keeps.refl' , Ss.nil _ _ _, rfl⟩
  · intro k fr h1 hI
    obtain ⟨i, vo, hk, K1, S1, hf⟩ := hI
    subst hf
    by_cases hi : i < rs.length
    · obtain ⟨b, o, cap', e1, hcap', hb⟩ := hv.open hi
      cases e1
      obtain ⟨r, hr⟩ : ∃ r, r = rs[i] := ⟨_, rfl⟩
      have hE : cellsO (o + i * 3) 3 h[b]? = some [.int .u64 r.s, .int .u64 r.e, .int .i64 r.p] := by rw [hr]; exact hv.elem encR_len hi
      have hE' := K1.old b hb
      have hlt : decide ((i : Int) < rs.length) = true := decide_eq_true (by omega)
      have hsz := K1.size
      simp -implicitDefEqProofs (disch := first | omega | (simp only [h_szP, h_szS]; done) | (simp only [h_szP, h_szS]; omega)) only [go_sem, Nat.reduceBEq, reduceCtorEq, Nat.reduceAdd, Int.reduceEq, Int.reduceLT, Int.reduceLE, Int.reduceMul, Int.reduceAdd, Int.reduceSub, reduceIte, Nat.reduceLeDiff, Nat.reduceLT, Nat.reduceMul, Nat.reduceSub, Int.reduceToNat, s83, Try.underlying115, sl115, ze83, by83, sz83, Try.underlying3, sh83, zc83, fo83_1, sh26, Try.underlying26, fo83_0, fo83_2, sh3, sd83, pl83_0, pl83_1, pl83_2, hE', hE, hlt]
      have hw : woL s e (rs.take (i + 1)) = woL s e (rs.take i) ++ wo1 s e r := by rw [take_snoc _ _ hi, woL_snoc, ← hr]
      have hl1 := woL_len s e (rs.take i)
      rw [List.length_take] at hl1
      have S0 := S1
      have S1 := Ss.push S1 (.cells #[.int .u64 r.s, .int .u64 r.e, .int .i64 r.p] 83)
      have K1 := K1.push' (o := .cells #[.int .u64 r.s, .int .u64 r.e, .int .i64 r.p] 83) (Nat.le_refl _)
      repeat' first | intro _ | refine And.intro ?_ ?_
      · refine app_push r elR encR_len S1 (by simp) rfl rfl (by omega) K1.1 ?_
        intro v' h' S' K' F' B'
        simp -implicitDefEqProofs (disch := first | omega | (simp only [h_szP, h_szS]; done) | (simp only [h_szP, h_szS]; omega)) only [go_sem, Nat.reduceBEq, reduceCtorEq, Nat.reduceAdd, Int.reduceEq, Int.reduceLT, Int.reduceLE, Int.reduceMul, Int.reduceAdd, Int.reduceSub, reduceIte, Nat.reduceLeDiff, Nat.reduceLT, Nat.reduceMul, Nat.reduceSub, Int.reduceToNat, s83, Try.underlying115, sl115, ze83, by83, sz83, Try.underlying3, sh83, zc83, fo83_1, sh26, Try.underlying26, fo83_0, fo83_2, sh3, sd83, pl83_0, pl83_1, pl83_2]
        have hw1 : wo1 s e r = [r] := by unfold wo1; grind
        rw [← hw1, ← hw] at S'
        exact ⟨k - 1, by omega, i + 1, v', by omega, K1.trans K', S', rfl⟩
      · refine app_push r elR encR_len S1 (by simp) rfl rfl (by omega) K1.1 ?_
        intro v' h' S' K' F' B'
        simp -implicitDefEqProofs (disch := first | omega | (simp only [h_szP, h_szS]; done) | (simp only [h_szP, h_szS]; omega)) only [go_sem, Nat.reduceBEq, reduceCtorEq, Nat.reduceAdd, Int.reduceEq, Int.reduceLT, Int.reduceLE, Int.reduceMul, Int.reduceAdd, Int.reduceSub, reduceIte, Nat.reduceLeDiff, Nat.reduceLT, Nat.reduceMul, Nat.reduceSub, Int.reduceToNat, s83, Try.underlying115, sl115, ze83, by83, sz83, Try.underlying3, sh83, zc83, fo83_1, sh26, Try.underlying26, fo83_0, fo83_2, sh3, sd83, pl83_0, pl83_1, pl83_2]
        have hw1 : wo1 s e r = [r] := by unfold wo1; grind
        rw [← hw1, ← hw] at S'
        exact ⟨k - 1, by omega, i + 1, v', by omega, K1.trans K', S', rfl⟩
      · refine app_push ⟨r.s, s, r.p⟩ elR encR_len S1 (by simp) rfl rfl (by omega) K1.1 ?_
        intro v' h' S' K' F' B'
        have hr1 : h'[h1.size]? = some (.cells #[.int .u64 r.s, .int .u64 r.e, .int .i64 r.p] 83) := by
          rw [F' _ (by simp) (fun e => by have := S0.blk e; omega)]; simp
        have hs2 := K'.size
        rw [Array.size_push] at hs2
        simp -implicitDefEqProofs (disch := first | omega | (simp only [h_szP, h_szS]; done) | (simp only [h_szP, h_szS]; omega)) only [go_sem, Nat.reduceBEq, reduceCtorEq, Nat.reduceAdd, Int.reduceEq, Int.reduceLT, Int.reduceLE, Int.reduceMul, Int.reduceAdd, Int.reduceSub, reduceIte, Nat.reduceLeDiff, Nat.reduceLT, Nat.reduceMul, Nat.reduceSub, Int.reduceToNat, s83, Try.underlying115, sl115, ze83, by83, sz83, Try.underlying3, sh83, zc83, fo83_1, sh26, Try.underlying26, fo83_0, fo83_2, sh3, sd83, pl83_0, pl83_1, pl83_2, hr1]
        refine ⟨fun q => ?_, fun q => ?_⟩
        · refine app_push ⟨e, r.e, r.p⟩ elR encR_len S' rfl rfl rfl (by simp; omega) (by omega) ?_
          intro v2 h2 S2 K2 F2 B2
          simp -implicitDefEqProofs (disch := first | omega | (simp only [h_szP, h_szS]; done) | (simp only [h_szP, h_szS]; omega)) only [go_sem, Nat.reduceBEq, reduceCtorEq, Nat.reduceAdd, Int.reduceEq, Int.reduceLT, Int.reduceLE, Int.reduceMul, Int.reduceAdd, Int.reduceSub, reduceIte, Nat.reduceLeDiff, Nat.reduceLT, Nat.reduceMul, Nat.reduceSub, Int.reduceToNat, s83, Try.underlying115, sl115, ze83, by83, sz83, Try.underlying3, sh83, zc83, fo83_1, sh26, Try.underlying26, fo83_0, fo83_2, sh3, sd83, pl83_0, pl83_1, pl83_2]
          have hw1 : wo1 s e r = [⟨r.s, s, r.p⟩, ⟨e, r.e, r.p⟩] := by unfold wo1; grind
          rw [List.append_assoc, List.cons_append, List.nil_append, ← hw1, ← hw] at S2
          exact ⟨k - 1, by omega, i + 1, v2, by omega, (K1.trans K').trans K2, S2, rfl⟩
        · have hw1 : wo1 s e r = [⟨r.s, s, r.p⟩] := by unfold wo1; grind
          rw [← hw1, ← hw] at S'
          exact ⟨k - 1, by omega, i + 1, v', by omega, K1.trans K', S', rfl⟩
      · refine app_push ⟨e, r.e, r.p⟩ elR encR_len S1 (by simp) rfl rfl (by omega) K1.1 ?_
        intro v' h' S' K' F' B'
        simp -implicitDefEqProofs (disch := first | omega | (simp only [h_szP, h_szS]; done) | (simp only [h_szP, h_szS]; omega)) only [go_sem, Nat.reduceBEq, reduceCtorEq, Nat.reduceAdd, Int.reduceEq, Int.reduceLT, Int.reduceLE, Int.reduceMul, Int.reduceAdd, Int.reduceSub, reduceIte, Nat.reduceLeDiff, Nat.reduceLT, Nat.reduceMul, Nat.reduceSub, Int.reduceToNat, s83, Try.underlying115, sl115, ze83, by83, sz83, Try.underlying3, sh83, zc83, fo83_1, sh26, Try.underlying26, fo83_0, fo83_2, sh3, sd83, pl83_0, pl83_1, pl83_2]
        have hw1 : wo1 s e r = [⟨e, r.e, r.p⟩] := by unfold wo1; grind
        rw [← hw1, ← hw] at S'
        exact ⟨k - 1, by omega, i + 1, v', by omega, K1.trans K', S', rfl⟩
      · have hw1 : wo1 s e r = [] := by unfold wo1; grind
        rw [hw1, List.append_nil] at hw
        rw [← hw] at S1
        exact ⟨k - 1, by omega, i + 1, vo, by omega, K1, S1, rfl⟩
    · have e1 : i = rs.length := by omega
      subst e1
      rw [List.take_length] at S1
      simp -implicitDefEqProofs (disch := first | omega | (simp only [h_szP, h_szS]; done) | (simp only [h_szP, h_szS]; omega)) only [go_sem, Nat.reduceBEq, reduceCtorEq, Nat.reduceAdd, Int.reduceEq, Int.reduceLT, Int.reduceLE, Int.reduceMul, Int.reduceAdd, Int.reduceSub, reduceIte, Nat.reduceLeDiff, Nat.reduceLT, Nat.reduceMul, Nat.reduceSub, Int.reduceToNat, s83, Try.underlying115, sl115, ze83, by83, sz83, Try.underlying3, sh83, zc83, fo83_1, sh26, Try.underlying26, fo83_0, fo83_2, sh3, sd83, pl83_0, pl83_1, pl83_2]
      exact ⟨S1, K1⟩
theorem joined_c {h : Heap} {v : Value} {rs : List Reg} (hv : Vs h v encR 3 rs) (hl : rs.length ≤ 4000000000) :
    Fn Try.prog 82 [v] h fun r h' => Ss h' h.size r 83 encR 3 (joL rs) ∧ Keeps h.size h h' := by
  obtain ⟨a, cap, e1, hcap⟩ := hv.shape
  subst e1
  refine Fn_c Try.func82 mixed c82 (by kernel_rfl) ?_; rw [r82]
  simp -implicitDefEqProofs (disch := first | omega | (simp only [h_szP, h_szS]; done) | (simp only [h_szP, h_szS]; omega)) only [go_sem, Nat.reduceBEq, reduceCtorEq, Nat.reduceAdd, Int.reduceEq, Int.reduceLT, Int.reduceLE, Int.reduceMul, Int.reduceAdd, Int.reduceSub, reduceIte, Nat.reduceLeDiff, Nat.reduceLT, Nat.reduceMul, Nat.reduceSub, Int.reduceToNat, s82, Try.underlying115, sl115, ze83, by83, sz83, Try.underlying3, sh83, zc83, fo83_1, sh26, fo83_0, Try.underlying26, fo83_2, sh3, sz26]
  refine LoopK.use (fun k fr h1 => ∃ i vo, i + k = rs.length ∧ Keeps h.size h h1 ∧ Ss h1 h.size vo 83 encR 3 (joL (rs.take i)) ∧
      fr = ((((fr0.up 9 (.int .i64 i)).up 8 (.int .i64 rs.length)).up 7 (.slice a rs.length cap)).up 3 vo)) rs.length ?_ ?_
  · exact ⟨0, _, by omega, Keeps.refl' , Ss.nil _ _ _, rfl⟩
  · intro k fr h1 hI
    obtain ⟨i, vo, hk, K1, S1, hf⟩ := hI
    subst hf
    by_cases hi : i < rs.length
    · obtain ⟨b, o, cap', e1, hcap', hb⟩ := hv.open hi
      cases e1
      obtain ⟨r, hr⟩ : ∃ r, r = rs[i] := ⟨_, rfl⟩
      have hE : cellsO (o + i * 3) 3 h[b]? = some [.int .u64 r.s, .int .u64 r.e, .int .i64 r.p] := by rw [hr]; exact hv.elem encR_len hi
      have hE' := K1.old b hb
      have hlt : decide ((i : Int) < rs.length) = true := decide_eq_true (by omega)
      have hsz := K1.size
      have hw : joL (rs.take (i + 1)) = jo1 (joL (rs.take i)) r := by rw [take_snoc _ _ hi, joL_snoc, ← hr]
      have hl1 := joL_len (rs.take i)
      rw [List.length_take] at hl1
      have S0 := S1
      have S1 := Ss.push S1 (.cells #[.int .u64 r.s, .int .u64 r.e, .int .i64 r.p] 83)
      have K0 := K1
      have K1 := K1.push' (o := .cells #[.int .u64 r.s, .int .u64 r.e, .int .i64 r.p] 83) (Nat.le_refl _)
      obtain ⟨ao, co, e2, hco⟩ := S1.vs.shape
      rcases List.eq_nil_or_concat (joL (rs.take i)) with hn | ⟨out, q, hn⟩
      · rw [hn] at S1 S0 hw e2
        subst e2
        simp -implicitDefEqProofs (disch := first | omega | (simp only [h_szP, h_szS]; done) | (simp only [h_szP, h_szS]; omega)) only [go_sem, Nat.reduceBEq, reduceCtorEq, Nat.reduceAdd, Int.reduceEq, Int.reduceLT, Int.reduceLE, Int.reduceMul, Int.reduceAdd, Int.reduceSub, reduceIte, Nat.reduceLeDiff, Nat.reduceLT, Nat.reduceMul, Nat.reduceSub, Int.reduceToNat, s82, Try.underlying115, sl115, ze83, by83, sz83, Try.underlying3, sh83, zc83, fo83_1, sh26, fo83_0, Try.underlying26, fo83_2, sh3, sz26, hE', hE, hlt]
        refine app_push r elR encR_len S1 (by simp) rfl rfl (by simp) K1.1 ?_
        intro v' h' S' K' F' B'
        simp -implicitDefEqProofs (disch := first | omega | (simp only [h_szP, h_szS]; done) | (simp only [h_szP, h_szS]; omega)) only [go_sem, Nat.reduceBEq, reduceCtorEq, Nat.reduceAdd, Int.reduceEq, Int.reduceLT, Int.reduceLE, Int.reduceMul, Int.reduceAdd, Int.reduceSub, reduceIte, Nat.reduceLeDiff, Nat.reduceLT, Nat.reduceMul, Nat.reduceSub, Int.reduceToNat, s82, Try.underlying115, sl115, ze83, by83, sz83, Try.underlying3, sh83, zc83, fo83_1, sh26, fo83_0, Try.underlying26, fo83_2, sh3, sz26]
        have hw1 : jo1 [] r = [r] := rfl
        rw [hw1] at hw
        rw [List.nil_append, ← hw] at S'
        exact ⟨k - 1, by omega, i + 1, v', by omega, K1.trans K', S', rfl⟩
      · rw [List.concat_eq_append] at hn
        rw [hn] at S1 S0 hw hl1
        have hln : (out ++ [q]).length = out.length + 1 := by simp
        obtain ⟨b2, cap2, e3, hcap2, hlo2, hb2⟩ := S0.open (i := out.length) (by omega)
        rw [hln] at e3 hl1 hcap2
        subst e3
        have hq : (out ++ [q])[out.length]'(by omega) = q := by simp
        have hQ0 := S0.vs.field encR_len (i := out.length) (j := 0) (by omega) (by omega)
        have hQ1 := S0.vs.field encR_len (i := out.length) (j := 1) (by omega) (by omega)
        have hQ2 := S0.vs.field encR_len (i := out.length) (j := 2) (by omega) (by omega)
        rw [hq] at hQ0 hQ1 hQ2
        have hQ1 : cellO (out.length * 3 + 1) h1[b2]? = some (.int .u64 q.e) := by simpa [encR] using hQ1
        have hQ2 : cellO (out.length * 3 + 2) h1[b2]? = some (.int .i64 q.p) := by simpa [encR] using hQ2
        have e4 : (((out.length + 1 : Nat) : Int) - 1) = (out.length : Int) := by omega
        have e5 : ((out.length : Int) < ((out.length + 1 : Nat) : Int)) = True := eq_true (by omega)
        have e6 : ((0 : Int) < ((out.length + 1 : Nat) : Int)) = True := eq_true (by omega)
        simp -implicitDefEqProofs (disch := first | omega | (simp only [h_szP, h_szS]; done) | (simp only [h_szP, h_szS]; omega)) only [go_sem, Nat.reduceBEq, reduceCtorEq, Nat.reduceAdd, Int.reduceEq, Int.reduceLT, Int.reduceLE, Int.reduceMul, Int.reduceAdd, Int.reduceSub, reduceIte, Nat.reduceLeDiff, Nat.reduceLT, Nat.reduceMul, Nat.reduceSub, Int.reduceToNat, s82, Try.underlying115, sl115, ze83, by83, sz83, Try.underlying3, sh83, zc83, fo83_1, sh26, fo83_0, Try.underlying26, fo83_2, sh3, sz26, hE', hE, hlt, hQ1, hQ2, e4, e5, e6]
        have hap : ∀ {K : Value → Heap → Prop}, jo1 (out ++ [q]) r = out ++ [q] ++ [r] → (∀ v' h', Ss h' h.size v' 83 encR 3 (joL (rs.take (i + 1))) → Keeps h.size h h' → K v' h') →
            @appK Try.prog ((h1.push (.cells #[.int .u64 r.s, .int .u64 r.e, .int .i64 r.p] 83)).push (.cells #[.int .u64 r.s, .int .u64 r.e, .int .i64 r.p] 83)) 115 115
              (.slice (some ⟨b2, 0, none⟩) (out.length + 1) cap2) (.slice (some ⟨h1.size + 1, 0, none⟩) 1 1) ⟨K⟩ := by
          intro K hj hk
          refine app_push r elR encR_len S1 (by simp) rfl rfl (by omega) K1.1 ?_
          intro v' h' S' K' F' B'
          rw [← hj, ← hw] at S'
          exact hk v' h' S' (K1.trans K')
        refine ⟨fun q1 => ⟨fun q2 => ?_, fun q2 => ?_⟩, fun q1 => ?_⟩
        · obtain ⟨h', hw', S', sz', K', F'⟩ := S1.store encR_len (i := out.length) (j := 1) (vs := [.int .u64 r.e]) ⟨q.s, r.e, q.p⟩ (by omega) (by simp) (by rw [hq]; rfl) rfl
          rw [h_pushL _ _ _ hb2, Nat.zero_add] at hw'
          refine obK.use _ hw' ?_
          simp -implicitDefEqProofs (disch := first | omega | (simp only [h_szP, h_szS]; done) | (simp only [h_szP, h_szS]; omega)) only [go_sem, Nat.reduceBEq, reduceCtorEq, Nat.reduceAdd, Int.reduceEq, Int.reduceLT, Int.reduceLE, Int.reduceMul, Int.reduceAdd, Int.reduceSub, reduceIte, Nat.reduceLeDiff, Nat.reduceLT, Nat.reduceMul, Nat.reduceSub, Int.reduceToNat, s82, Try.underlying115, sl115, ze83, by83, sz83, Try.underlying3, sh83, zc83, fo83_1, sh26, fo83_0, Try.underlying26, fo83_2, sh3, sz26]
          have hj : jo1 (out ++ [q]) r = (out ++ [q]).set out.length ⟨q.s, r.e, q.p⟩ := by
            have w1 : q.e = r.s := by omega
            have w2 : q.p = r.p := by omega
            simp [jo1, w1, w2]
          rw [← hj, ← hw] at S'
          exact ⟨k - 1, by omega, i + 1, _, by omega, K1.trans K', S', rfl⟩
        · refine hap (by have w2 : ¬ q.p = r.p := by omega
                         simp [jo1, w2]) ?_
          intro v' h' S' K'
          simp -implicitDefEqProofs (disch := first | omega | (simp only [h_szP, h_szS]; done) | (simp only [h_szP, h_szS]; omega)) only [go_sem, Nat.reduceBEq, reduceCtorEq, Nat.reduceAdd, Int.reduceEq, Int.reduceLT, Int.reduceLE, Int.reduceMul, Int.reduceAdd, Int.reduceSub, reduceIte, Nat.reduceLeDiff, Nat.reduceLT, Nat.reduceMul, Nat.reduceSub, Int.reduceToNat, s82, Try.underlying115, sl115, ze83, by83, sz83, Try.underlying3, sh83, zc83, fo83_1, sh26, fo83_0, Try.underlying26, fo83_2, sh3, sz26]
          exact ⟨k - 1, by omega, i + 1, _, by omega, K', S', rfl⟩
        · refine hap (by have w2 : ¬ q.e = r.s := by omega
                         simp [jo1, w2]) ?_
          intro v' h' S' K'
          simp -implicitDefEqProofs (disch := first | omega | (simp only [h_szP, h_szS]; done) | (simp only [h_szP, h_szS]; omega)) only [go_sem, Nat.reduceBEq, reduceCtorEq, Nat.reduceAdd, Int.reduceEq, Int.reduceLT, Int.reduceLE, Int.reduceMul, Int.reduceAdd, Int.reduceSub, reduceIte, Nat.reduceLeDiff, Nat.reduceLT, Nat.reduceMul, Nat.reduceSub, Int.reduceToNat, s82, Try.underlying115, sl115, ze83, by83, sz83, Try.underlying3, sh83, zc83, fo83_1, sh26, fo83_0, Try.underlying26, fo83_2, sh3, sz26]
          exact ⟨k - 1, by omega, i + 1, _, by omega, K', S', rfl⟩
    · have e1 : i = rs.length := by omega
      subst e1
      rw [List.take_length] at S1
      simp -implicitDefEqProofs (disch := first | omega | (simp only [h_szP, h_szS]; done) | (simp only [h_szP, h_szS]; omega)) only [go_sem, Nat.reduceBEq, reduceCtorEq, Nat.reduceAdd, Int.reduceEq, Int.reduceLT, Int.reduceLE, Int.reduceMul, Int.reduceAdd, Int.reduceSub, reduceIte, Nat.reduceLeDiff, Nat.reduceLT, Nat.reduceMul, Nat.reduceSub, Int.reduceToNat, s82, Try.underlying115, sl115, ze83, by83, sz83, Try.underlying3, sh83, zc83, fo83_1, sh26, fo83_0, Try.underlying26, fo83_2, sh3, sz26]
      exact ⟨S1, K1⟩
end Go.SX.G
