/- Regions: what looks for one. No condition but on sizes. -/
import Derived.Test.YtajfhnphhdoobaaRegD
set_option linter.unusedVariables false
set_option linter.unusedSimpArgs false
namespace Go.SX.G
open Go Go.SX Go.Proofs
set_option maxRecDepth 100000
set_option maxHeartbeats 1000000
theorem indexFunc_c {h : Heap} {v : Value} {rs : List Reg} {g : Nat} {cap : Array Value} (p : Reg → Bool) (hv : Vs h v encR 3 rs) (hl : rs.length ≤ 4000000000)
    (hg : ∀ r ∈ rs, ∀ h1, Keeps h.size h h1 → Fn Try.prog g ([.agg #[.int .u64 r.s, .int .u64 r.e, .int .i64 r.p]] ++ cap.toList) h1 fun x h' => x = .bool (p r) ∧ Keeps h1.size h1 h') :
    Fn Try.prog 53 [v, .func (.func g) #[] cap] h fun x h' => x = .int .i64 (idxOf p rs) ∧ Keeps h.size h h' := by
  obtain ⟨a, cap', e1, hcap⟩ := hv.shape
  subst e1
  refine Fn_c Try.func53 mixed c53 (by kernel_rfl) ?_; rw [r53]
  simp -implicitDefEqProofs (disch := first | omega | (simp only [h_szP, h_szS]; done) | (simp only [h_szP, h_szS]; omega)) only [go_sem, Nat.reduceBEq, reduceCtorEq, Nat.reduceAdd, Int.reduceEq, Int.reduceLT, Int.reduceLE, Int.reduceMul, Int.reduceAdd, Int.reduceSub, reduceIte, Nat.reduceLeDiff, Nat.reduceLT, Nat.reduceMul, Nat.reduceSub, Int.reduceToNat, s53, Try.underlying115, sl115, ze83, by83, sz83, Try.underlying3, sh83]
  refine LoopK.use (fun k fr h1 => ∃ i, i + k = rs.length ∧ Keeps h.size h h1 ∧ (∀ j (hj : j < rs.length), j < i → p rs[j] = false) ∧
      fr = ((((fr0.up 8 (.int .i64 i)).up 7 (.int .i64 rs.length)).up 1 (.func (.func g) #[] cap)).up 0 (.slice a rs.length cap'))) rs.length ?_ ?_
  · exact ⟨0, by omega, Keeps.refl' , fun j _ h => by omega, rfl⟩
  · intro k fr h1 hI
    obtain ⟨i, hk, K1, hb, hf⟩ := hI
    subst hf
    by_cases hi : i < rs.length
    · obtain ⟨b, o, cap2, e1, hcap2, hbl⟩ := hv.open hi
      cases e1
      obtain ⟨r, hr⟩ : ∃ r, r = rs[i] := ⟨_, rfl⟩
      have hE : cellsO (o + i * 3) 3 h[b]? = some [.int .u64 r.s, .int .u64 r.e, .int .i64 r.p] := by rw [hr]; exact hv.elem encR_len hi
      have hE' := K1.old b hbl
      have hlt : decide ((i : Int) < rs.length) = true := decide_eq_true (by omega)
      have hgr := hg r (by rw [hr]; exact List.getElem_mem hi) h1 K1
      simp -implicitDefEqProofs (disch := first | omega | (simp only [h_szP, h_szS]; done) | (simp only [h_szP, h_szS]; omega)) only [go_sem, Nat.reduceBEq, reduceCtorEq, Nat.reduceAdd, Int.reduceEq, Int.reduceLT, Int.reduceLE, Int.reduceMul, Int.reduceAdd, Int.reduceSub, reduceIte, Nat.reduceLeDiff, Nat.reduceLT, Nat.reduceMul, Nat.reduceSub, Int.reduceToNat, s53, Try.underlying115, sl115, ze83, by83, sz83, Try.underlying3, sh83, hE', hE, hlt]
      refine FnK.use hgr ?_
      intro x h2 hx
      obtain ⟨e1, K2⟩ := hx
      rw [e1]
      have K3 := K1.of_ext K2 (Nat.le_refl _)
      cases hp : p r with
      | true =>
        simp -implicitDefEqProofs (disch := first | omega | (simp only [h_szP, h_szS]; done) | (simp only [h_szP, h_szS]; omega)) only [go_sem, Nat.reduceBEq, reduceCtorEq, Nat.reduceAdd, Int.reduceEq, Int.reduceLT, Int.reduceLE, Int.reduceMul, Int.reduceAdd, Int.reduceSub, reduceIte, Nat.reduceLeDiff, Nat.reduceLT, Nat.reduceMul, Nat.reduceSub, Int.reduceToNat, s53, Try.underlying115, sl115, ze83, by83, sz83, Try.underlying3, sh83]
        rw [hr] at hp
        rw [idxOf_hit hi hp fun j hj => hb j (by omega) hj]
        exact ⟨rfl, K3⟩
      | false =>
        simp -implicitDefEqProofs (disch := first | omega | (simp only [h_szP, h_szS]; done) | (simp only [h_szP, h_szS]; omega)) only [go_sem, Nat.reduceBEq, reduceCtorEq, Nat.reduceAdd, Int.reduceEq, Int.reduceLT, Int.reduceLE, Int.reduceMul, Int.reduceAdd, Int.reduceSub, reduceIte, Nat.reduceLeDiff, Nat.reduceLT, Nat.reduceMul, Nat.reduceSub, Int.reduceToNat, s53, Try.underlying115, sl115, ze83, by83, sz83, Try.underlying3, sh83]
        rw [hr] at hp
        refine ⟨k - 1, by omega, i + 1, by omega, K3, fun j hj hji => ?_, rfl⟩
        by_cases hji' : j = i
        · subst hji'; exact hp
        · exact hb j hj (by omega)
    · have e1 : i = rs.length := by omega
      subst e1
      simp -implicitDefEqProofs (disch := first | omega | (simp only [h_szP, h_szS]; done) | (simp only [h_szP, h_szS]; omega)) only [go_sem, Nat.reduceBEq, reduceCtorEq, Nat.reduceAdd, Int.reduceEq, Int.reduceLT, Int.reduceLE, Int.reduceMul, Int.reduceAdd, Int.reduceSub, reduceIte, Nat.reduceLeDiff, Nat.reduceLT, Nat.reduceMul, Nat.reduceSub, Int.reduceToNat, s53, Try.underlying115, sl115, ze83, by83, sz83, Try.underlying3, sh83]
      rw [idxOf_none fun j hj => hb j hj hj]
      exact ⟨rfl, K1⟩
theorem at1_c {h : Heap} {bc a : Nat} {f : Nat × Nat} {t : Nat} (r : Reg) (hb : h[bc]? = some (.cells #[.int .u64 a] t f)) :
    Fn Try.prog 54 [.agg #[.int .u64 r.s, .int .u64 r.e, .int .i64 r.p], ptr bc 0] h fun x h' => x = .bool (inR a r) ∧ Keeps h.size h h' := by
  have hlt := getElem?_lt hb
  have kp : ∀ o, Keeps h.size h (h.push o) := fun o => Keeps.push h o (Nat.le_refl _)
  refine Fn_c Try.func54 mixed c54 (by kernel_rfl) ?_; rw [r54]
  simp -implicitDefEqProofs (disch := first | omega | (simp only [h_szP, h_szS]; done) | (simp only [h_szP, h_szS]; omega)) only [go_sem, Nat.reduceBEq, reduceCtorEq, Nat.reduceAdd, Int.reduceEq, Int.reduceLT, Int.reduceLE, Int.reduceMul, Int.reduceAdd, Int.reduceSub, reduceIte, Nat.reduceLeDiff, Nat.reduceLT, Nat.reduceMul, Nat.reduceSub, Int.reduceToNat, s54, sh26, fo83_0, Try.underlying26, fo83_1, hb]
  unfold inR
  repeat' first | intro _ | refine And.intro ?_ ?_
  all_goals first | exact kp _ | (congr 1; symm; first | (apply decide_eq_true; omega) | (apply decide_eq_false; omega) | (congr 1; apply propext; omega))
theorem at_c {h : Heap} {l : Nat} {bl : Option Nat} {rs : List Reg} (a : Nat) (hl : LR h l bl rs) (hn : rs.length ≤ 4000000000) :
    Fn Try.prog 28 [ptr l 0, .int .u64 a] h fun x h' => x = atV (atL rs a) ∧ Keeps h.size h h' := by
  obtain ⟨v, hl0, _, hv⟩ := hl
  have hlt := getElem?_lt hl0
  refine Fn_c Try.func28 mixed c28 (by kernel_rfl) ?_; rw [r28]
  simp -implicitDefEqProofs (disch := first | omega | (simp only [h_szP, h_szS]; done) | (simp only [h_szP, h_szS]; omega)) only [go_sem, Nat.reduceBEq, reduceCtorEq, Nat.reduceAdd, Int.reduceEq, Int.reduceLT, Int.reduceLE, Int.reduceMul, Int.reduceAdd, Int.reduceSub, reduceIte, Nat.reduceLeDiff, Nat.reduceLT, Nat.reduceMul, Nat.reduceSub, Int.reduceToNat, s28, zc83, Try.underlying73, sd83, sz83, fo117_0, sh115, Try.underlying3, sl115, ze83, by83, sh83, hl0]
  have K1 : Keeps h.size h ((h.push (.cells #[.int .u64 a] 26)).push (.cells #[.int .u64 0, .int .u64 0, .int .i64 0] 83)) := (Keeps.push' (Keeps.push _ _ (Nat.le_refl _)) (Nat.le_refl _))
  refine FnK.use (indexFunc_c (inR a) (hv.ext K1) hn ?_) ?_
  · intro r hr h1 K2
    refine at1_c (t := 26) (f := (0, 0)) r ?_
    rw [K2.old _ (by simp; omega)]
    simp -implicitDefEqProofs (disch := first | omega | (simp only [h_szP, h_szS]; done) | (simp only [h_szP, h_szS]; omega)) only [go_sem, Nat.reduceBEq, reduceCtorEq, Nat.reduceAdd, Int.reduceEq, Int.reduceLT, Int.reduceLE, Int.reduceMul, Int.reduceAdd, Int.reduceSub, reduceIte, Nat.reduceLeDiff, Nat.reduceLT, Nat.reduceMul, Nat.reduceSub, Int.reduceToNat]
  · intro x h2 hx
    obtain ⟨e1, K2⟩ := hx
    rw [e1]
    have K3 := K1.trans (K2.le (by simp; omega))
    have hl2 := K3.at hl0 hlt
    have hz2 : h2[h.size + 1]? = some (.cells #[.int .u64 0, .int .u64 0, .int .i64 0] 83 (0, 0)) := by
      rw [K2.old _ (by simp)]; simp -implicitDefEqProofs (disch := first | omega | (simp only [h_szP, h_szS]; done) | (simp only [h_szP, h_szS]; omega)) only [go_sem, Nat.reduceBEq, reduceCtorEq, Nat.reduceAdd, Int.reduceEq, Int.reduceLT, Int.reduceLE, Int.reduceMul, Int.reduceAdd, Int.reduceSub, reduceIte, Nat.reduceLeDiff, Nat.reduceLT, Nat.reduceMul, Nat.reduceSub, Int.reduceToNat]
    have hzlt := getElem?_lt hz2
    by_cases hneg : idxOf (inR a) rs < 0
    · have hd : decide (idxOf (inR a) rs < 0) = true := decide_eq_true hneg
      simp -implicitDefEqProofs (disch := first | omega | (simp only [h_szP, h_szS]; done) | (simp only [h_szP, h_szS]; omega)) only [go_sem, Nat.reduceBEq, reduceCtorEq, Nat.reduceAdd, Int.reduceEq, Int.reduceLT, Int.reduceLE, Int.reduceMul, Int.reduceAdd, Int.reduceSub, reduceIte, Nat.reduceLeDiff, Nat.reduceLT, Nat.reduceMul, Nat.reduceSub, Int.reduceToNat, s28, zc83, Try.underlying73, sd83, sz83, fo117_0, sh115, Try.underlying3, sl115, ze83, by83, sh83, hd, hz2]
      unfold atL
      rw [idxOf_neg hneg]
      exact ⟨rfl, K3.set' (by omega)⟩
    · have hd : decide (idxOf (inR a) rs < 0) = false := decide_eq_false hneg
      obtain ⟨i, hi'⟩ := Int.eq_ofNat_of_zero_le (show 0 ≤ idxOf (inR a) rs by omega)
      obtain ⟨hi, hf⟩ := idxOf_get hi'
      rw [hi'] at hd ⊢
      have hv2 := hv.keeps K3 fun b hb => hv.blk_lt hb
      obtain ⟨b, o, cap2, e2, hcap2, hbl⟩ := hv.open hi
      subst e2
      have hE : cellsO (o + i * 3) 3 h2[b]? = some [.int .u64 rs[i].s, .int .u64 rs[i].e, .int .i64 rs[i].p] := hv2.elem encR_len hi
      simp -implicitDefEqProofs (disch := first | omega | (simp only [h_szP, h_szS]; done) | (simp only [h_szP, h_szS]; omega)) only [go_sem, Nat.reduceBEq, reduceCtorEq, Nat.reduceAdd, Int.reduceEq, Int.reduceLT, Int.reduceLE, Int.reduceMul, Int.reduceAdd, Int.reduceSub, reduceIte, Nat.reduceLeDiff, Nat.reduceLT, Nat.reduceMul, Nat.reduceSub, Int.reduceToNat, s28, zc83, Try.underlying73, sd83, sz83, fo117_0, sh115, Try.underlying3, sl115, ze83, by83, sh83, hd, hz2, hl2, hE]
      unfold atL
      rw [hf]
      exact ⟨rfl, K3.set' (by omega)⟩
end Go.SX.G
