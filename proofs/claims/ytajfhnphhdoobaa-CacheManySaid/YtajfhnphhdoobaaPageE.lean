/- Pages of bytes: Touch, Clear of whole pages. No condition but on sizes. -/
import Derived.Test.YtajfhnphhdoobaaPageD
set_option linter.unusedVariables false
set_option linter.unusedSimpArgs false
namespace Go.SX.G
open Go Go.SX Go.Proofs
set_option maxRecDepth 100000
set_option maxHeartbeats 2000000
theorem Wr.sr {h h' : Heap} {p : Nat} {D D' : StoreD} {lo hi : Nat} {B : Nat → Nat} (w : Wr h h' p D D' lo hi B) : Sr D D' (hi - lo) (touched lo hi) := by
  intro hc i
  obtain ⟨c1, c2, c3⟩ := w.clock hc
  have i1 := i.all
  have ha := w.all
  refine ⟨⟨by omega, fun m => ?_⟩, c1, c2, fun m => ?_⟩
  · by_cases q : touched lo hi m
    · exact ((c3 m).1 q).2
    · have := (c3 m).2 q; have := i.each m; omega
  · have := i.each m
    unfold stampV
    by_cases q : touched lo hi m
    · have := (c3 m).1 q
      exact ⟨by omega, fun _ => by omega⟩
    · have := (c3 m).2 q
      exact ⟨by omega, fun z => absurd z q⟩
/-- the bytes stay, stamps go on. -/
structure Tc (h h' : Heap) (p : Nat) (D D' : StoreD) (n : Nat) (T : Nat → Prop) : Prop where
  rep : SR h' p D'
  lm : D'.lm = D.lm
  sm : D'.sm = D.sm
  es : D'.es = D.es
  c1 : D'.c1 = D.c1
  size : h'.size = h.size
  old : ∀ b, b ≠ p → b ≠ D.sm → h'[b]? = h[b]?
  sr : Sr D D' n T
theorem wide_c (h : Heap) (a b : Nat) (h1 : a % 4096 = 0) (h2 : b % 4096 = 0) (h3 : a < b) (h4 : b ≤ 274877906944) : Fn Try.prog 86 [.int .u64 a, .int .u64 b] h fun x h' => x = .bool (decide (4096 < (b - a) / 4096)) ∧ h' = h := by
  refine Fn_c Try.func86 mixed c86 (by kernel_rfl) ?_; rw [r86]
  simp -implicitDefEqProofs (disch := first | omega | (simp only [h_szP, h_szS]; done) | (simp only [h_szP, h_szS]; omega)) only [go_sem, Nat.reduceBEq, reduceCtorEq, Nat.reduceAdd, Int.reduceEq, Int.reduceLT, Int.reduceLE, Int.reduceMul, Int.reduceAdd, Int.reduceSub, reduceIte, Nat.reduceLeDiff, Nat.reduceLT, Nat.reduceMul, Nat.reduceSub, Int.reduceToNat, s86, Try.underlying26]
  congr 2; apply propext; omega
theorem touch_c {h : Heap} {p : Nat} {D : StoreD} (a b : Nat) (r : SR h p D) (h1 : a % 4096 = 0) (h2 : b % 4096 = 0) (h3 : a < b) (h4 : b ≤ 274877906944) :
    Fn Try.prog 74 [ptr p 0, .int .u64 a, .int .u64 b] h fun x h' => ∃ D', Tc h h' p D D' ((b - a) / 4096) (touched a b) := by
  have hp := r.lt (.inl rfl)
  have ht := r.top
  obtain ⟨n1, n2, n3, n4⟩ := r.ne
  have hmn : (if (274877906944 : Int) < b then (274877906944 : Int) else b) = b := by rw [if_neg (by omega)]
  have hd : decide ((b : Int) ≤ a) = false := decide_eq_false (by omega)
  refine Fn_c Try.func74 mixed c74 (by kernel_rfl) ?_; rw [r74]
  simp -implicitDefEqProofs (disch := first | omega | (simp only [h_szP, h_szS]; done) | (simp only [h_szP, h_szS]; omega)) only [go_sem, Nat.reduceBEq, reduceCtorEq, Nat.reduceAdd, Int.reduceEq, Int.reduceLT, Int.reduceLE, Int.reduceMul, Int.reduceAdd, Int.reduceSub, reduceIte, Nat.reduceLeDiff, Nat.reduceLT, Nat.reduceMul, Nat.reduceSub, Int.reduceToNat, s74, Try.underlying26, Try.underlying75, fo121_2, sh26, sz26, fo121_3, hmn, hd]
  refine FnK.val (wide_c h a b h1 h2 h3 h4) ?_
  by_cases hw : 4096 < (b - a) / 4096
  · have hdw : decide (4096 < (b - a) / 4096) = true := decide_eq_true hw
    rw [hdw]
    obtain ⟨c, hc⟩ : ∃ c, c = (D.clock + 1) % 18446744073709551616 := ⟨_, rfl⟩
    have hwc : IntKind.u64.wrap ((D.clock : Int) + 1) = (c : Int) := by rw [wrap_u64]; omega
    simp -implicitDefEqProofs (disch := first | omega | (simp only [h_szP, h_szS]; done) | (simp only [h_szP, h_szS]; omega)) only [go_sem, Nat.reduceBEq, reduceCtorEq, Nat.reduceAdd, Int.reduceEq, Int.reduceLT, Int.reduceLE, Int.reduceMul, Int.reduceAdd, Int.reduceSub, reduceIte, Nat.reduceLeDiff, Nat.reduceLT, Nat.reduceMul, Nat.reduceSub, Int.reduceToNat, s74, Try.underlying26, Try.underlying75, fo121_2, sh26, sz26, fo121_3, ht, hwc]
    refine ⟨{ D with clock := c, all := c }, ⟨h_setS _ _ _ hp, by rw [h_setN _ _ _ _ n1.symm]; exact r.lmap, by rw [h_setN _ _ _ _ n2.symm]; exact r.smap, fun l hl => ⟨by rw [h_setN _ _ _ _ (n4 l hl).1]; exact (r.leaf l hl).1, (r.leaf l hl).2⟩, r.nos, r.blks, r.borns, r.snos, r.lmsm, r.sborn, r.sborns, ⟨by show c < 18446744073709551616; omega, by show c < 18446744073709551616; omega⟩⟩, rfl, rfl, rfl, rfl, by simp, fun x q _ => h_setN _ _ _ _ q, ?_⟩
    intro hcl i
    have i1 := i.all
    rw [Nat.mod_eq_of_lt (by omega)] at hc
    refine ⟨⟨Nat.le_refl _, fun m => ?_⟩, by show D.clock ≤ c; omega, by show c ≤ _; omega, fun m => ?_⟩
    · have := i.each m; show stampAt D.ss m ≤ c; omega
    · have := i.each m
      unfold stampV
      show max (stampAt D.ss m) D.all ≤ max (stampAt D.ss m) c ∧ (touched a b m → max (stampAt D.ss m) D.all < max (stampAt D.ss m) c)
      exact ⟨by omega, fun _ => by omega⟩
  · have hdw : decide (4096 < (b - a) / 4096) = false := decide_eq_false hw
    rw [hdw]
    simp -implicitDefEqProofs (disch := first | omega | (simp only [h_szP, h_szS]; done) | (simp only [h_szP, h_szS]; omega)) only [go_sem, Nat.reduceBEq, reduceCtorEq, Nat.reduceAdd, Int.reduceEq, Int.reduceLT, Int.reduceLE, Int.reduceMul, Int.reduceAdd, Int.reduceSub, reduceIte, Nat.reduceLeDiff, Nat.reduceLT, Nat.reduceMul, Nat.reduceSub, Int.reduceToNat, s74, Try.underlying26, Try.underlying75, fo121_2, sh26, sz26, fo121_3, ht]
    refine LoopK.use (fun k fr hh => ∃ (n : Nat) (D' : StoreD), a / 4096 ≤ n ∧ n + k = b / 4096 ∧ Tc h hh p D D' (n - a / 4096) (touched a (n * 4096)) ∧
      fr = (((fr0.up 6 (.int .u64 n)).up 2 (.int .u64 b)).up 0 (ptr p 0))) (b / 4096 - a / 4096) ?_ ?_
    · refine ⟨a / 4096, D, Nat.le_refl _, by omega, ⟨r, rfl, rfl, rfl, rfl, rfl, fun _ _ _ => rfl, (Sr.refl D).le (by omega) fun m ⟨x, x1, x2, _⟩ => by omega⟩, rfl⟩
    · intro k fr hh hI
      obtain ⟨n, D', hn, hk, T, hf⟩ := hI
      subst hf
      by_cases hc : n * 4096 < b
      · have hd2 : decide (((n : Int) * 4096) < b) = true := decide_eq_true (by omega)
        simp -implicitDefEqProofs (disch := first | omega | (simp only [h_szP, h_szS]; done) | (simp only [h_szP, h_szS]; omega)) only [go_sem, Nat.reduceBEq, reduceCtorEq, Nat.reduceAdd, Int.reduceEq, Int.reduceLT, Int.reduceLE, Int.reduceMul, Int.reduceAdd, Int.reduceSub, reduceIte, Nat.reduceLeDiff, Nat.reduceLT, Nat.reduceMul, Nat.reduceSub, Int.reduceToNat, s74, Try.underlying26, Try.underlying75, fo121_2, sh26, sz26, fo121_3, hd2]
        refine FnK.use (mark_c n T.rep (by omega)) ?_
        intro x h2 hx
        obtain ⟨D3, M⟩ := hx
        simp -implicitDefEqProofs (disch := first | omega | (simp only [h_szP, h_szS]; done) | (simp only [h_szP, h_szS]; omega)) only [go_sem, Nat.reduceBEq, reduceCtorEq, Nat.reduceAdd, Int.reduceEq, Int.reduceLT, Int.reduceLE, Int.reduceMul, Int.reduceAdd, Int.reduceSub, reduceIte, Nat.reduceLeDiff, Nat.reduceLT, Nat.reduceMul, Nat.reduceSub, Int.reduceToNat, s74, Try.underlying26, Try.underlying75, fo121_2, sh26, sz26, fo121_3]
        refine ⟨k - 1, by omega, n + 1, D3, by omega, by omega, ⟨M.rep, M.lm.trans T.lm, M.sm.trans T.sm, M.es.trans T.es, M.c1.trans T.c1, M.size.trans T.size, fun x q1 q2 => (M.old x q1 (by rw [T.sm]; exact q2)).trans (T.old x q1 q2), (T.sr.trans (Sr.mark M.all M.clock M.stamp)).le (by omega) ?_⟩, rfl⟩
        rintro m ⟨x, x1, x2, x3, x4⟩
        by_cases q : x < n * 4096
        · exact .inl ⟨x, x1, q, x3, x4⟩
        · right; omega
      · have hd2 : decide (((n : Int) * 4096) < b) = false := decide_eq_false (by omega)
        simp -implicitDefEqProofs (disch := first | omega | (simp only [h_szP, h_szS]; done) | (simp only [h_szP, h_szS]; omega)) only [go_sem, Nat.reduceBEq, reduceCtorEq, Nat.reduceAdd, Int.reduceEq, Int.reduceLT, Int.reduceLE, Int.reduceMul, Int.reduceAdd, Int.reduceSub, reduceIte, Nat.reduceLeDiff, Nat.reduceLT, Nat.reduceMul, Nat.reduceSub, Int.reduceToNat, s74, Try.underlying26, Try.underlying75, fo121_2, sh26, sz26, fo121_3, hd2]
        have e : n * 4096 = b := by omega
        rw [e] at T
        refine ⟨D', T.rep, T.lm, T.sm, T.es, T.c1, T.size, T.old, T.sr.le (by omega) fun m q => q⟩
end Go.SX.G
