/- Regions: what the package's functions do. No condition but on sizes. -/
import Derived.Test.YtajfhnphhdoobaaRegE
set_option linter.unusedVariables false
set_option linter.unusedSimpArgs false
namespace Go.SX.G
open Go Go.SX Go.Proofs
set_option maxRecDepth 100000
set_option maxHeartbeats 1000000
theorem first_c {h : Heap} {l : Nat} {bl : Option Nat} {rs : List Reg} (s e prot : Nat) (hl : LR h l bl rs) (hn : rs.length ≤ 4000000000) (w : wfR rs) (hp : prot ≤ 7) :
    Fn Try.prog 80 [ptr l 0, .int .u64 s, .int .u64 e, .int .i64 prot] h fun x h' => ∃ o, x = placeV o ∧ FirstS rs s e prot o ∧ Keeps h.size h h' := by
  by_cases hse : e ≤ s
  · have hd : decide ((e : Int) ≤ s) = true := decide_eq_true (by omega)
    refine Fn_c Try.func80 mixed c80 (by kernel_rfl) ?_; rw [r80]
    simp -implicitDefEqProofs (disch := first | omega | (simp only [h_szP, h_szS]; done) | (simp only [h_szP, h_szS]; omega)) only [go_sem, Nat.reduceBEq, reduceCtorEq, Nat.reduceAdd, Int.reduceEq, Int.reduceLT, Int.reduceLE, Int.reduceMul, Int.reduceAdd, Int.reduceSub, reduceIte, Nat.reduceLeDiff, Nat.reduceLT, Nat.reduceMul, Nat.reduceSub, Int.reduceToNat, s80, Try.underlying73, Try.underlying26, zc83, sz83, fo83_2, sh3, Try.underlying3, fo83_1, sh26, hd]
    exact ⟨none, rfl, .none fun a h1 h2 => by omega, Keeps.refl'⟩
  · have hd : decide ((e : Int) ≤ s) = false := decide_eq_false (by omega)
    refine Fn_c Try.func80 mixed c80 (by kernel_rfl) ?_; rw [r80]
    simp -implicitDefEqProofs (disch := first | omega | (simp only [h_szP, h_szS]; done) | (simp only [h_szP, h_szS]; omega)) only [go_sem, Nat.reduceBEq, reduceCtorEq, Nat.reduceAdd, Int.reduceEq, Int.reduceLT, Int.reduceLE, Int.reduceMul, Int.reduceAdd, Int.reduceSub, reduceIte, Nat.reduceLeDiff, Nat.reduceLT, Nat.reduceMul, Nat.reduceSub, Int.reduceToNat, s80, Try.underlying73, Try.underlying26, zc83, sz83, fo83_2, sh3, Try.underlying3, fo83_1, sh26, hd]
    refine LoopK.use (fun k fr h1 => ∃ c : Nat, s ≤ c ∧ e - c ≤ k ∧ Keeps h.size h h1 ∧ (∀ a, s ≤ a → a < c → okAt rs prot a) ∧
      fr = ((((fr0.up 3 (.int .i64 prot)).up 2 (.int .u64 e)).up 1 (.int .u64 c)).up 0 (ptr l 0))) (e - s) ?_ ?_
    · exact ⟨s, by omega, by omega, Keeps.refl', fun a h1 h2 => by omega, rfl⟩
    · intro k fr h1 hI
      obtain ⟨c, hsc, hk, K1, hok, hf⟩ := hI
      subst hf
      by_cases hce : c < e
      · have hd : decide ((c : Int) < e) = true := decide_eq_true (by omega)
        have hl1 := hl.ext K1
        simp -implicitDefEqProofs (disch := first | omega | (simp only [h_szP, h_szS]; done) | (simp only [h_szP, h_szS]; omega)) only [go_sem, Nat.reduceBEq, reduceCtorEq, Nat.reduceAdd, Int.reduceEq, Int.reduceLT, Int.reduceLE, Int.reduceMul, Int.reduceAdd, Int.reduceSub, reduceIte, Nat.reduceLeDiff, Nat.reduceLT, Nat.reduceMul, Nat.reduceSub, Int.reduceToNat, s80, Try.underlying73, Try.underlying26, zc83, sz83, fo83_2, sh3, Try.underlying3, fo83_1, sh26, hd]
        refine FnK.use (at_c c hl1 hn) ?_
        intro x h2 hx
        obtain ⟨e1, K2⟩ := hx
        have K3 := K1.of_ext K2 (Nat.le_refl _)
        rw [e1]
        cases hr : atL rs c with
        | none =>
          simp only [atV]
          simp -implicitDefEqProofs (disch := first | omega | (simp only [h_szP, h_szS]; done) | (simp only [h_szP, h_szS]; omega)) only [go_sem, Nat.reduceBEq, reduceCtorEq, Nat.reduceAdd, Int.reduceEq, Int.reduceLT, Int.reduceLE, Int.reduceMul, Int.reduceAdd, Int.reduceSub, reduceIte, Nat.reduceLeDiff, Nat.reduceLT, Nat.reduceMul, Nat.reduceSub, Int.reduceToNat, s80, Try.underlying73, Try.underlying26, zc83, sz83, fo83_2, sh3, Try.underlying3, fo83_1, sh26]
          refine ⟨some c, rfl, .some c hsc hce (fun ⟨r, h3, _⟩ => by rw [hr] at h3; cases h3) hok, K3.push' (Nat.le_refl _)⟩
        | some r =>
          have hm := atL_mem hr
          have hw := w.each r hm.1
          have hbit := bitI_and_i64 r.p prot (by omega) (by omega)
          simp only [atV]
          simp -implicitDefEqProofs (disch := first | omega | (simp only [h_szP, h_szS]; done) | (simp only [h_szP, h_szS]; omega)) only [go_sem, Nat.reduceBEq, reduceCtorEq, Nat.reduceAdd, Int.reduceEq, Int.reduceLT, Int.reduceLE, Int.reduceMul, Int.reduceAdd, Int.reduceSub, reduceIte, Nat.reduceLeDiff, Nat.reduceLT, Nat.reduceMul, Nat.reduceSub, Int.reduceToNat, s80, Try.underlying73, Try.underlying26, zc83, sz83, fo83_2, sh3, Try.underlying3, fo83_1, sh26, hbit]
          refine ⟨fun q => ?_, fun q => ?_⟩
          · have q' : r.p &&& prot = prot := by exact_mod_cast q
            refine ⟨k - 1, by omega, r.e, by omega, by omega, K3.push' (Nat.le_refl _), fun a h1 h2 => ?_, rfl⟩
            by_cases hac : a < c
            · exact hok a h1 hac
            · exact ⟨r, atL_same w hr (by omega) h2, q'⟩
          · refine ⟨some c, rfl, .some c hsc hce (fun ⟨r', h3, h4⟩ => q ?_) hok, K3.push' (Nat.le_refl _)⟩
            rw [hr] at h3; cases h3
            exact_mod_cast h4
      · have hd : decide ((c : Int) < e) = false := decide_eq_false (by omega)
        simp -implicitDefEqProofs (disch := first | omega | (simp only [h_szP, h_szS]; done) | (simp only [h_szP, h_szS]; omega)) only [go_sem, Nat.reduceBEq, reduceCtorEq, Nat.reduceAdd, Int.reduceEq, Int.reduceLT, Int.reduceLE, Int.reduceMul, Int.reduceAdd, Int.reduceSub, reduceIte, Nat.reduceLeDiff, Nat.reduceLT, Nat.reduceMul, Nat.reduceSub, Int.reduceToNat, s80, Try.underlying73, Try.underlying26, zc83, sz83, fo83_2, sh3, Try.underlying3, fo83_1, sh26, hd]
        exact ⟨none, rfl, .none fun a h1 h2 => hok a h1 (by omega), K1⟩
theorem with1_c {h : Heap} {bc : Nat} {f : Nat × Nat} {t : Nat} (q r : Reg) (hb : h[bc]? = some (.cells #[.int .u64 r.s, .int .u64 r.e, .int .i64 r.p] t f)) :
    Fn Try.prog 84 [.agg #[.int .u64 q.s, .int .u64 q.e, .int .i64 q.p], ptr bc 0] h fun x h' => x = .bool (decide (r.s < q.s)) ∧ Keeps h.size h h' := by
  have hlt := getElem?_lt hb
  have kp : ∀ o, Keeps h.size h (h.push o) := fun o => Keeps.push h o (Nat.le_refl _)
  refine Fn_c Try.func84 mixed c84 (by kernel_rfl) ?_; rw [r84]
  simp -implicitDefEqProofs (disch := first | omega | (simp only [h_szP, h_szS]; done) | (simp only [h_szP, h_szS]; omega)) only [go_sem, Nat.reduceBEq, reduceCtorEq, Nat.reduceAdd, Int.reduceEq, Int.reduceLT, Int.reduceLE, Int.reduceMul, Int.reduceAdd, Int.reduceSub, reduceIte, Nat.reduceLeDiff, Nat.reduceLT, Nat.reduceMul, Nat.reduceSub, Int.reduceToNat, s84, fo83_0, sh26, Try.underlying26, hb]
  refine ⟨?_, kp _⟩
  congr 2; apply propext; omega
theorem free1_c {h : Heap} {b1 b2 s e : Nat} {f1 f2 : Nat × Nat} {t1 t2 : Nat} (q : Reg) (hb1 : h[b1]? = some (.cells #[.int .u64 e] t1 f1)) (hb2 : h[b2]? = some (.cells #[.int .u64 s] t2 f2)) :
    Fn Try.prog 69 [.agg #[.int .u64 q.s, .int .u64 q.e, .int .i64 q.p], ptr b1 0, ptr b2 0] h fun x h' => x = .bool (decide (q.s < e ∧ s < q.e)) ∧ Keeps h.size h h' := by
  have hlt1 := getElem?_lt hb1
  have hlt2 := getElem?_lt hb2
  have kp : ∀ o, Keeps h.size h (h.push o) := fun o => Keeps.push h o (Nat.le_refl _)
  refine Fn_c Try.func69 mixed c69 (by kernel_rfl) ?_; rw [r69]
  simp -implicitDefEqProofs (disch := first | omega | (simp only [h_szP, h_szS]; done) | (simp only [h_szP, h_szS]; omega)) only [go_sem, Nat.reduceBEq, reduceCtorEq, Nat.reduceAdd, Int.reduceEq, Int.reduceLT, Int.reduceLE, Int.reduceMul, Int.reduceAdd, Int.reduceSub, reduceIte, Nat.reduceLeDiff, Nat.reduceLT, Nat.reduceMul, Nat.reduceSub, Int.reduceToNat, s69, fo83_0, sh26, Try.underlying26, fo83_1, hb1, hb2]
  repeat' first | intro _ | refine And.intro ?_ ?_
  all_goals first | exact kp _ | (congr 1; symm; first | (apply decide_eq_true; omega) | (apply decide_eq_false; omega) | (congr 1; apply propext; omega))
theorem with_c {h : Heap} {v : Value} {rs : List Reg} (r : Reg) (hv : Vs h v encR 3 rs) (hn : rs.length ≤ 1000000000) :
    Fn Try.prog 73 [v, .agg #[.int .u64 r.s, .int .u64 r.e, .int .i64 r.p]] h fun x h' => Ss h' h.size x 83 encR 3 (wiL rs r) ∧ Keeps h.size h h' := by
  have K0 : Keeps h.size h (h.push (.cells #[.int .u64 r.s, .int .u64 r.e, .int .i64 r.p] 83)) := Keeps.push h _ (Nat.le_refl _)
  refine Fn_c Try.func73 mixed c73 (by kernel_rfl) ?_; rw [r73]
  simp -implicitDefEqProofs (disch := first | omega | (simp only [h_szP, h_szS]; done) | (simp only [h_szP, h_szS]; omega)) only [go_sem, Nat.reduceBEq, reduceCtorEq, Nat.reduceAdd, Int.reduceEq, Int.reduceLT, Int.reduceLE, Int.reduceMul, Int.reduceAdd, Int.reduceSub, reduceIte, Nat.reduceLeDiff, Nat.reduceLT, Nat.reduceMul, Nat.reduceSub, Int.reduceToNat, s73, fo83_0, sh26, fo83_1, Try.underlying3, Try.underlying115, sl115, ze83, by83, sz83, sh83]
  refine FnK.use (without_c r.s r.e (hv.ext K0) hn) ?_
  intro v1 h1 ⟨S1, K1⟩
  have hwl := woL_len r.s r.e rs
  have hbx : h1[h.size]? = some (.cells #[.int .u64 r.s, .int .u64 r.e, .int .i64 r.p] 83 (0, 0)) := by rw [K1.old _ (by simp)]; simp -implicitDefEqProofs (disch := first | omega | (simp only [h_szP, h_szS]; done) | (simp only [h_szP, h_szS]; omega)) only [go_sem, Nat.reduceBEq, reduceCtorEq, Nat.reduceAdd, Int.reduceEq, Int.reduceLT, Int.reduceLE, Int.reduceMul, Int.reduceAdd, Int.reduceSub, reduceIte, Nat.reduceLeDiff, Nat.reduceLT, Nat.reduceMul, Nat.reduceSub, Int.reduceToNat]
  simp -implicitDefEqProofs (disch := first | omega | (simp only [h_szP, h_szS]; done) | (simp only [h_szP, h_szS]; omega)) only [go_sem, Nat.reduceBEq, reduceCtorEq, Nat.reduceAdd, Int.reduceEq, Int.reduceLT, Int.reduceLE, Int.reduceMul, Int.reduceAdd, Int.reduceSub, reduceIte, Nat.reduceLeDiff, Nat.reduceLT, Nat.reduceMul, Nat.reduceSub, Int.reduceToNat, s73, fo83_0, sh26, fo83_1, Try.underlying3, Try.underlying115, sl115, ze83, by83, sz83, sh83]
  refine FnK.use (indexFunc_c (fun q => decide (r.s < q.s)) S1.vs (by omega) ?_) ?_
  · intro q hq h2 K2
    exact with1_c (t := 83) (f := (0, 0)) q r (K2.at hbx (getElem?_lt hbx))
  intro x h2 hx
  obtain ⟨e1, K2⟩ := hx
  have K3 : Keeps (h.size + 1) (h.push (.cells #[.int .u64 r.s, .int .u64 r.e, .int .i64 r.p] 83)) h2 := by
    have := K1.trans (K2.le K1.1)
    rwa [Array.size_push] at this
  have hbx2 := K2.at hbx (getElem?_lt hbx)
  have S2 := S1.ext K2
  have hlt2 := getElem?_lt hbx2
  have fin : ∀ {K : Value → Heap → Prop}, (∀ x h', (Ss h' h.size x 83 encR 3 (wiL rs r) ∧ Keeps h.size h h') → K x h') →
      @FnK Try.prog 85 [v1, .int .i64 ((insAt (woL r.s r.e rs) r : Nat) : Int), .slice (some ⟨h2.size, 0, none⟩) 1 1] (h2.push (.cells #[.int .u64 r.s, .int .u64 r.e, .int .i64 r.p] 83)) ⟨K⟩ := by
    intro K hK
    refine FnK.use (insert_c (lo := h.size) (r := r) ((S2.push _).le (by simp)) (by simp; have := K3.1; simp at this; omega) (h_pushE _ _ _ rfl) (fun e => by have := (S2.blk e).2; omega) List.findIdx_le_length (by omega)) ?_
    intro y h3 ⟨S3, K4⟩
    refine hK y h3 ⟨S3, (K0.trans (K3.le (by omega))).trans ((Keeps.push h2 _ ?_).trans K4)⟩
    have := K3.1; simp at this; omega
  rw [e1]
  rcases idxOf_ins (fun q => decide (r.s < q.s)) (woL r.s r.e rs) with ⟨hneg, hi⟩ | ⟨hneg, hi, hi2⟩
  · have hd : decide (idxOf (fun q => decide (r.s < q.s)) (woL r.s r.e rs) < 0) = true := decide_eq_true hneg
    obtain ⟨a, cap, e2, hcap⟩ := S2.vs.shape
    subst e2
    simp -implicitDefEqProofs (disch := first | omega | (simp only [h_szP, h_szS]; done) | (simp only [h_szP, h_szS]; omega)) only [go_sem, Nat.reduceBEq, reduceCtorEq, Nat.reduceAdd, Int.reduceEq, Int.reduceLT, Int.reduceLE, Int.reduceMul, Int.reduceAdd, Int.reduceSub, reduceIte, Nat.reduceLeDiff, Nat.reduceLT, Nat.reduceMul, Nat.reduceSub, Int.reduceToNat, s73, fo83_0, sh26, fo83_1, Try.underlying3, Try.underlying115, sl115, ze83, by83, sz83, sh83, hd, hbx2]
    have e3 : insAt (woL r.s r.e rs) r = (woL r.s r.e rs).length := hi
    rw [← e3]
    rw [← e3] at fin
    refine fin ?_
    intro x h3 hh
    simp -implicitDefEqProofs (disch := first | omega | (simp only [h_szP, h_szS]; done) | (simp only [h_szP, h_szS]; omega)) only [go_sem, Nat.reduceBEq, reduceCtorEq, Nat.reduceAdd, Int.reduceEq, Int.reduceLT, Int.reduceLE, Int.reduceMul, Int.reduceAdd, Int.reduceSub, reduceIte, Nat.reduceLeDiff, Nat.reduceLT, Nat.reduceMul, Nat.reduceSub, Int.reduceToNat, s73, fo83_0, sh26, fo83_1, Try.underlying3, Try.underlying115, sl115, ze83, by83, sz83, sh83]
    exact hh
  · have hd : decide (idxOf (fun q => decide (r.s < q.s)) (woL r.s r.e rs) < 0) = false := decide_eq_false hneg
    simp -implicitDefEqProofs (disch := first | omega | (simp only [h_szP, h_szS]; done) | (simp only [h_szP, h_szS]; omega)) only [go_sem, Nat.reduceBEq, reduceCtorEq, Nat.reduceAdd, Int.reduceEq, Int.reduceLT, Int.reduceLE, Int.reduceMul, Int.reduceAdd, Int.reduceSub, reduceIte, Nat.reduceLeDiff, Nat.reduceLT, Nat.reduceMul, Nat.reduceSub, Int.reduceToNat, s73, fo83_0, sh26, fo83_1, Try.underlying3, Try.underlying115, sl115, ze83, by83, sz83, sh83, hd, hbx2]
    rw [hi]
    refine fin ?_
    intro x h3 hh
    simp -implicitDefEqProofs (disch := first | omega | (simp only [h_szP, h_szS]; done) | (simp only [h_szP, h_szS]; omega)) only [go_sem, Nat.reduceBEq, reduceCtorEq, Nat.reduceAdd, Int.reduceEq, Int.reduceLT, Int.reduceLE, Int.reduceMul, Int.reduceAdd, Int.reduceSub, reduceIte, Nat.reduceLeDiff, Nat.reduceLT, Nat.reduceMul, Nat.reduceSub, Int.reduceToNat, s73, fo83_0, sh26, fo83_1, Try.underlying3, Try.underlying115, sl115, ze83, by83, sz83, sh83]
    exact hh
end Go.SX.G
